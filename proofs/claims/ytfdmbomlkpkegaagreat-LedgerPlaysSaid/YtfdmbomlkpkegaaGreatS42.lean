/- Lemmas for LedgerPlays. -/
import Derived.Test.YtfdmbomlkpkegaaGreatS41
import Derived.Test.YtfdmbomlkpkegaaGreatS3
import Derived.Test.YtfdmbomlkpkegaaGreatS32
set_option maxRecDepth 100000
set_option maxHeartbeats 8000000
set_option linter.all false
namespace Go.Proofs.YtfdmbomlkpkegaaGreat
open Go Go.RowKit Go.Dr Go.Shelf
theorem like16_spec [bn:Inhabited Ban] {base:Nat} {w:World} {P q g m p n s r xq width j cnt:Nat} {lv wv sgv rlv lvd:Value} {size:Int} {ss:List SegL} {ts:List LRec} {d:Qr} {x:Qn} {L:LedS} (h:P16 base w P q g m lv p n s wv sgv rlv r xq lvd width size ss ts d x L j cnt) (hb:base<=w.heap.size) (hT:ban.top<=w.heap.size) :
  Calls Tryz.prog 27 #[.pointer (some ⟨P,0,none⟩)] w fun e w'=>e=.returned (.bool true)/\Keep No w w':=by
 obtain ⟨lo,lc,rfl,hlc,hcm⟩:=h.doc.mem.rdisk.calls.form
 have hk:=h.asks hb hT
 have p0:=Qq h.blk 0
 have p1:=Qq h.blk 1
 have r0:=Qq h.doc.mem.blk 0
 have r3:=Qq h.doc.mem.blk 3
 have x2:=Qq h.doc.mem.rdisk.blk 2
 simp at p0 p1 r0 r3 x2
 obtain ⟨e1,e2,e3,e4,e5,e6⟩:=h.doc.lg7.reads (by have:=h.doc.jle;omega)
 have hg:=h.doc.lg7.good
 have hlen:=hg.len
 have hsum:=hg.sum
 have hj:=h.doc.jle
 have hsg:=fun (X:World) (k:Keep No w X)=>segs_spec (h.doc.mem.rdisk.no k).calls (Nat.le_trans hb k.size) (by omega) (by omega)
 rw [e6] at hsg
 have hds:=fun (X:World) (k:Keep No w X)=>dsegs_spec (h.led.dk.no k) e3
 rw [e1] at hds
 have hrd:=fun (X:World) (k:Keep No w X)=>read_spec (h.led.dk.no k) e4
 have hlog:=fun (X:World) (k:Keep No w X)=>gLog_spec (h.led.led.no k)
 have hdk:=fun (X:World) (k:Keep No w X)=>lDisk_spec (h.led.lg.no k)
 obtain ⟨T,hTd⟩:∃ T,T=told width (ts.take cnt):=⟨_,rfl⟩
 rw [<- hTd] at hk
 have HS:=Lib.hid (A7 hsg hds hrd hlog hdk e2 e5)
 have HK:=Lib.hid hk
 have HB:=Lib.hid (A2 hb hT)
 have P0:=Lib.hid p0
 have P1:=Lib.hid p1
 have R0:=Lib.hid r0
 have X2:=Lib.hid x2
 generalize segMap ss=sm at *
 have hnT:T.recs.length<=1000000:=hk.nT
 clear hlc hcm e1 e2 e3 e4 e5 e6 hg hlen hsum hj hsg hds hrd hlog hdk hk hb hT h hTd hnT
 go_enter Tryz.func27,Tryz.ntmps27
 have htold:=HK.out.told w (Keep.refl _ _)
 go_upto_region 2 with (first
  | (go_at_call 74;refine htold.mono ?_;rintro e w2 ⟨cs,rfl,hst,k2⟩;have hsz:=hst.size;have hone:=hst.all;have hinf:=hst.info;have HST:=Lib.hid hst;clear hst)
  | (refine wpList_store_row rfl 168 _ _ rfl w2.heap.size cs rfl rfl 168 Tryz.zeroCells168 (Qy _ _) hinf (by rw [hsz];rfl) hone ?_))
 have hz9:=setRow_heap _ w2.heap.size _ cs _ _ (Qy w2 (.cells Tryz.zeroCells168 168))
 have k3:Keep No w2 ((w2.alloc (.cells Tryz.zeroCells168 168)).setRow w2.heap.size cs):=((Keep.refl No w2).alloc _).trans (Zi _ w2.heap.size cs) (fun c hc e=>by have e:c=w2.heap.size:=e;omega)
 generalize (w2.alloc (.cells Tryz.zeroCells168 168)).setRow w2.heap.size cs=W3 at *
 obtain ⟨b3,hb3⟩:∃ b3,b3=w2.heap.size:=⟨_,rfl⟩
 rw [<- hb3] at hz9 ⊢
 have hS3:=StAt.no HST.out k3
 have k03:=k2.then k3
 have HA:=Lib.hid (A3 hS3 k03 hz9)
 have p0:=k03.cell p0 (fun e=>e)
 have p1:=k03.cell p1 (fun e=>e)
 have r0:=k03.cell r0 (fun e=>e)
 have r3:=k03.cell r3 (fun e=>e)
 have x2:=k03.cell x2 (fun e=>e)
 clear hS3 k03 hz9 k3 k2 hsz hone hinf htold hb3
 go_cut [5,6] (fun v5 v6 wx=>∃ (b5:Nat) (cs5:Array Value),v5=.pointer (some ⟨b5,0,none⟩)/\v6=.int .i64 0/\wx.heap[b5]?=some (.cells cs5 168 (0,0))/\StOf base wx cs5 T/\Keep No W3 wx)
 case first =>
  have kd:Keep No W3 W3.drew:=(Keep.refl _ _).drew
  refine wp_drawFT (fun w'=>Keep No W3 w') [(some (15,[12,13,14]),[0,1,2,3,4,5,6,7,8,9,10],[11]),(none,[],[16,17])] (by kernel_rfl) (by kernel_rfl) (fun _ _ _ _ _ h=>h) kd (stagesTN_some ?_)
  iterate 11 (refine Qk (v:=?_) rfl rfl rfl ?_ ?_;rotate_left;focus (
   intro w' hS
   have f0:=hS.cell p1 (fun e=>e)
   have f1:=hS.cell r3 (fun e=>e)
   go_simp
   try with_reducible rfl))
  refine Qj ⟨?_,?_⟩
  ·refine Qx rfl rfl (fun K hK=>?_)
   go_simp
   have kA:=kd.alloc (.cells Tryz.zeroCells168 168)
   refine hK _ _ kA ?_
   clear hK K
   refine Qx rfl rfl (fun K hK=>?_)
   go_simp
   refine (HK.out.safe _ (HA.out.2.1.then kA)).mono ?_
   rintro e w4 ⟨cs5,rfl,hst,k4⟩
   have k34:=kA.then k4
   refine hK _ _ k34 ?_
   clear hK K
   have hBp:w4.heap[W3.heap.size]?=some (.cells Tryz.zeroCells168 168 (0,0)):=k4.heap (Qy W3.drew (.cells Tryz.zeroCells168 168)) (fun e=>e)
   have hsz:=hst.size
   have hone:=hst.all
   have hinf:=hst.info
   have kS:Keep No W3 ((w4).setRow W3.heap.size cs5):=k34.trans (Zi _ W3.heap.size cs5) (fun c hc e=>by have e:c=W3.heap.size:=e;have:=(Nat.le_refl W3.heap.size);omega)
   have hz5:=setRow_heap _ W3.heap.size _ cs5 _ _ hBp
   have hS5:=StAt.keep hst (Zi _ W3.heap.size cs5) (fun c e=>by
    have e:c=W3.heap.size:=e
    subst e
    exact ⟨Nat.le_trans HB.out.1 (Nat.le_trans HA.out.2.1.size (Nat.le_refl W3.heap.size)),_,hBp⟩)
   refine Qh ?_
   iterate 3 (refine Qk (v:=?_) rfl rfl rfl ?_ ?_;rotate_left;focus (
    intro w' hS
    go_simp
    try with_reducible rfl))
   refine Qj (stagesTN_none (Qj ?_))
   refine Qx rfl rfl (fun K hK=>?_)
   refine wp_store_row 168 _ _ rfl W3.heap.size cs5 rfl rfl 168 Tryz.zeroCells168 hBp hinf (by rw [hsz];rfl) hone (hK _ _ kS ?_)
   clear hK K
   refine Qx rfl rfl (fun K hK=>?_)
   go_simp
   refine hK _ _ kS ?_
   clear hK K
   have HX:=Lib.hid (A3 kS hS5 hz5)
   clear kS hst hz5 hS5 hsz hone hinf kd hBp
   refine Qh (stagesTN_nil ?_)
   go_wp2_with fail
   go_meet
   exact ⟨_,_,rfl,rfl,HX.out.2.2,HX.out.2.1,HX.out.1⟩
  ·refine Qx rfl rfl (fun K hK=>?_)
   go_simp
   refine (HK.out.safe _ (HA.out.2.1.then kd)).mono ?_
   rintro e w4 ⟨cs5,rfl,hst,k4⟩
   have k34:=kd.then k4
   refine hK _ _ k34 ?_
   clear hK K
   refine Qh ?_
   iterate 3 (refine Qk (v:=?_) rfl rfl rfl ?_ ?_;rotate_left;focus (
    intro w' hS
    go_simp
    try with_reducible rfl))
   refine Qj ?_
   refine Qx rfl rfl (fun K hK=>?_)
   go_simp
   have kA:=k34.alloc (.cells Tryz.zeroCells168 168)
   refine hK _ _ kA ?_
   clear hK K
   have hBp:=Qy w4 (.cells Tryz.zeroCells168 168)
   have hst:=StAt.no hst ((Keep.refl No w4).alloc (.cells Tryz.zeroCells168 168))
   have hsz:=hst.size
   have hone:=hst.all
   have hinf:=hst.info
   have kS:Keep No W3 ((w4.alloc (.cells Tryz.zeroCells168 168)).setRow w4.heap.size cs5):=kA.trans (Zi _ w4.heap.size cs5) (fun c hc e=>by have e:c=w4.heap.size:=e;have:=k34.size;omega)
   have hz5:=setRow_heap _ w4.heap.size _ cs5 _ _ hBp
   have hS5:=StAt.keep hst (Zi _ w4.heap.size cs5) (fun c e=>by
    have e:c=w4.heap.size:=e
    subst e
    exact ⟨Nat.le_trans HB.out.1 (Nat.le_trans HA.out.2.1.size k34.size),_,hBp⟩)
   refine Qh (stagesTN_none (Qj ?_))
   refine Qx rfl rfl (fun K hK=>?_)
   refine wp_store_row 168 _ _ rfl w4.heap.size cs5 rfl rfl 168 Tryz.zeroCells168 hBp hinf (by rw [hsz];rfl) hone (hK _ _ kS ?_)
   clear hK K
   refine Qx rfl rfl (fun K hK=>?_)
   go_simp
   refine hK _ _ kS ?_
   clear hK K
   have HX:=Lib.hid (A3 kS hS5 hz5)
   clear kS hst hz5 hS5 hsz hone hinf kd hBp
   refine Qh (stagesTN_nil ?_)
   go_wp2_with fail
   go_meet
   exact ⟨_,_,rfl,rfl,HX.out.2.2,HX.out.2.1,HX.out.1⟩
 case rest =>
  obtain ⟨b5,cs5,rfl,rfl,hz5,hS5,k35⟩:=hcut
  rename World=>W5
  have hz3:=k35.heap HA.out.2.2 (fun e=>e)
  have hS3:=StAt.no HA.out.1 k35
  have p0:=k35.cell p0 (fun e=>e)
  have p1:=k35.cell p1 (fun e=>e)
  have r0:=k35.cell r0 (fun e=>e)
  have x2:=k35.cell x2 (fun e=>e)
  have k05:=HA.out.2.1.then k35
  obtain ⟨lv3,g3,hlv3⟩:=hS3.recs
  obtain ⟨lv5,g5,hlv5⟩:=hS5.recs
  obtain ⟨ao3,c3,rfl,_,_⟩:=BRow.form hlv3
  obtain ⟨ao5,c5,rfl,_,_⟩:=BRow.form hlv5
  have y30:=Qq hz3 0
  have y365:=Qq hz3 65
  have y565:=Qq hz5 65
  rw [hS3.inc] at y30
  rw [g3] at y365
  rw [g5] at y565
  unfold u64v at y30
  have HC:=Lib.hid (A7 hz3 hz5 hS3 hS5 k05 hlv3 hlv5)
  clear hz3 hz5 hS3 hS5 k05 hlv3 hlv5 g3 g5 k35 r3
  go_upto_region 3 with fail
  have kd:Keep No W5 W5.drew:=(Keep.refl _ _).drew
  refine Vr (fun w'=>Keep No W5 w') [([0,1,2],[]),([3,4,5,6],[]),([7,8,9,10,12,13],[11]),([14,15,16],[]),([17,18,19,20,22,23],[21,24]),([25,26,27],[]),([28,29,30,31,33,34],[32,35]),([36,37],[])] (by kernel_rfl) (by kernel_rfl) (fun _ _ _ _ _ h=>h) kd ?_
  iterate 3 (refine Qk (v:=?_) rfl rfl rfl ?_ ?_;rotate_left;focus (
   intro w' hS
   go_simp
   try with_reducible rfl))
  refine Qj (Qh ?_)
  iterate 4 (refine Qe (v:=?_) rfl rfl (by first | kernel_rfl | simp [Region.wanted,yielded,Act.put,undef]) ?_ ?_;rotate_left;focus (
   intro w' hS
   go_simp
   try with_reducible rfl))
  refine Qj (Qh ?_)
  iterate 6 (refine Qe (v:=?_) rfl rfl (by first | kernel_rfl | simp [Region.wanted,yielded,Act.put,undef]) ?_ ?_;rotate_left;focus (
   intro w' hS
   have f0:=hS.cell p0 (fun e=>e)
   have f1:=hS.cell y30 (fun e=>e)
   go_simp
   try with_reducible rfl))
  refine Qj ?_
  refine Za rfl (by first | kernel_rfl | simp [Region.wanted,yielded,Act.put,undef]) (fun K hK=>?_)
  go_simp
  refine (HK.out.inc _ (HC.out.2.2.2.2.1.then kd)).mono ?_
  rintro e w6 ⟨rfl,e6⟩
  have e6:=e6.symm
  subst e6
  refine hK _ _ kd ?_
  clear hK K
  refine Qh ?_
  iterate 3 (refine Qe (v:=?_) rfl rfl (by first | kernel_rfl | simp [Region.wanted,yielded,Act.put,undef]) ?_ ?_;rotate_left;focus (
   intro w' hS
   go_simp
   try with_reducible rfl))
  refine Qj (Qh ?_)
  iterate 6 (refine Qe (v:=?_) rfl rfl (by first | kernel_rfl | simp [Region.wanted,yielded,Act.put,undef]) ?_ ?_;rotate_left;focus (
   intro w' hS
   have f0:=hS.cell p0 (fun e=>e)
   have f1:=hS.cell y365 (fun e=>e)
   go_simp
   try with_reducible rfl))
  refine Qj ?_
  refine Za rfl (by first | kernel_rfl | simp [Region.wanted,yielded,Act.put,undef]) (fun K hK=>?_)
  go_simp
  refine (HK.out.all _ (HC.out.2.2.2.2.1.then kd)).mono ?_
  rintro e w6 ⟨v6,rfl,hv6,k6⟩
  have k56:=kd.then k6
  obtain ⟨ao6,c6,rfl,_,_⟩:=hv6.form
  refine hK _ _ k56 ?_
  clear hK K
  have hlr:=likeRecs_spec hv6 (BRow.no HC.out.2.2.2.2.2.1 k56)
  refine Za rfl (by first | kernel_rfl | simp [Region.wanted,yielded,Act.put,undef]) (fun K hK=>?_)
  go_simp
  refine hlr.mono ?_
  rintro e w7 ⟨rfl,k7⟩
  have k57:=k56.then k7
  refine hK _ _ k57 ?_
  clear hK K hlr hv6 k6 k56 k7
  refine Qh ?_
  iterate 3 (refine Qe (v:=?_) rfl rfl (by first | kernel_rfl | simp [Region.wanted,yielded,Act.put,undef]) ?_ ?_;rotate_left;focus (
   intro w' hS
   go_simp
   try with_reducible rfl))
  refine Qj (Qh ?_)
  iterate 6 (refine Qe (v:=?_) rfl rfl (by first | kernel_rfl | simp [Region.wanted,yielded,Act.put,undef]) ?_ ?_;rotate_left;focus (
   intro w' hS
   have f0:=hS.cell p0 (fun e=>e)
   have f1:=hS.cell y565 (fun e=>e)
   go_simp
   try with_reducible rfl))
  refine Qj ?_
  refine Za rfl (by first | kernel_rfl | simp [Region.wanted,yielded,Act.put,undef]) (fun K hK=>?_)
  go_simp
  refine (HK.out.stored _ (HC.out.2.2.2.2.1.then k57)).mono ?_
  rintro e w8 ⟨v8,rfl,hv8,k8⟩
  have k58:=k57.then k8
  obtain ⟨ao8,c8,rfl,_,_⟩:=hv8.form
  refine hK _ _ k58 ?_
  clear hK K
  have hlr:=likeRecs_spec hv8 (BRow.no HC.out.2.2.2.2.2.2 k58)
  refine Za rfl (by first | kernel_rfl | simp [Region.wanted,yielded,Act.put,undef]) (fun K hK=>?_)
  go_simp
  refine hlr.mono ?_
  rintro e w9 ⟨rfl,k9⟩
  have k59:=k58.then k9
  refine hK _ _ k59 ?_
  clear hK K hlr hv8 k8 k58 k9 k57
  refine Qh ?_
  iterate 2 (refine Qe (v:=?_) rfl rfl (by first | kernel_rfl | simp [Region.wanted,yielded,Act.put,undef]) ?_ ?_;rotate_left;focus (
   intro w' hS
   go_simp
   try with_reducible rfl))
  refine Qj (Qh ?_)
  unfold Vp
  have k09:=HC.out.2.2.2.2.1.then k59
  have p0:=k59.cell p0 (fun e=>e)
  have p1:=k59.cell p1 (fun e=>e)
  have r0:=k59.cell r0 (fun e=>e)
  have x2:=k59.cell x2 (fun e=>e)
  have y365:=k59.cell y365 (fun e=>e)
  have hz3:=k59.heap HC.out.1 (fun e=>e)
  have hz5:=k59.heap HC.out.2.1 (fun e=>e)
  have hS3:=StAt.no HC.out.2.2.1 k59
  have hS5:=StAt.no HC.out.2.2.2.1 k59
  have hlv3:=BRow.no HC.out.2.2.2.2.2.1 k59
  have HD:=Lib.hid (A6 hz3 hz5 hS3 hS5 k09 hlv3)
  clear hz3 hz5 hS3 hS5 hlv3 k09 k59 kd y30 y565 HC HA
  go_upto_block 0 with fail
  go_cut [] (fun wx=>Keep No w9 wx)
  case first =>
   go_wp2_with fail
   go_loopw [78] (fun v78 wr=>∃ a:Nat,a<=16/\v78=.int .i64 a/\Keep No w9 wr) (fun v78 _=>16 - (intOf v78).toNat)
   case atStart=>exact ⟨0,by decide,rfl,Keep.refl _ _⟩
   case round =>
    obtain ⟨a,ha,rfl,kr⟩:=hrel
    by_cases hlt:a<16
    ·obtain ⟨fl,tf,wn,ws,h1,h2,h3,h4,hfl,hwn,hws⟩:=HK.out.agent a hlt
     have hS3:=StAt.no HD.out.2.2.1 kr
     have hS5:=StAt.no HD.out.2.2.2.1 kr
     have hz3:=kr.heap HD.out.1 (fun e=>e)
     have hz5:=kr.heap HD.out.2.1 (fun e=>e)
     obtain ⟨g0,g1,g2,dv,g3,hdw⟩:=hS3.ags a _ h1
     obtain ⟨_,j1,j2,dv5,j3,hdw5⟩:=hS5.ags a _ h2
     obtain ⟨o3,n3,c3',rfl⟩:=hdw.form
     obtain ⟨o5,n5,c5',rfl⟩:=hdw5.form
     have a9:=Qq hz3 (1+a)
     have a0:=Qq hz3 (17+a*3)
     have a1:=Qq hz3 (17+a*3+1)
     have a2:=Qq hz3 (17+a*3+2)
     have q0:=Qq hz5 (17+a*3)
     have q1:=Qq hz5 (17+a*3+1)
     have q2:=Qq hz5 (17+a*3+2)
     rw [g0] at a9
     rw [g1] at a0
     rw [g2] at a1
     rw [g3] at a2
     rw [j1] at q0
     rw [j2] at q1
     rw [j3] at q2
     unfold u64v at a9 a0 a1 q0 q1
     dsimp only at a9 a0 a1 q0 q1
     have p0:=kr.cell p0 (fun e=>e)
     have hai:(a:Int)<16:=by omega
     have k0r:=HD.out.2.2.2.2.1.then kr
     have HL:=Lib.hid (A10 hlt kr k0r hdw hdw5 h3 h4 hfl hwn hws)
     clear hlt kr k0r hdw hdw5 h1 h2 h3 h4 hfl hwn hws hS3 hS5 hz3 hz5 g0 g1 g2 g3 j1 j2 j3 ha
     go_upto_region 8 with fail
     have kd:Keep No wr wr.drew:=(Keep.refl _ _).drew
     refine Vr (fun w'=>Keep No wr w') [([0,1,2,3,4,6,7,8,9],[5]),([10,11],[]),([12,13,14,15,16,18,19,20,21],[17,22]),([23,24,25],[]),([26,27,28,29,30,32,33,34,35],[31,36]),([37,38],[])] (by kernel_rfl) (by kernel_rfl) (fun _ _ _ _ _ h=>h) kd ?_
     iterate 9 (refine Qk (v:=?_) rfl rfl rfl ?_ ?_;rotate_left;focus (
      intro w' hS
      have f0:=hS.cell p0 (fun e=>e)
      have f1:=hS.cell a9 (fun e=>e)
      go_simp
      try with_reducible rfl))
     refine Qj ?_
     refine Za rfl (by first | kernel_rfl | simp [Region.wanted,yielded,Act.put,undef]) (fun K hK=>?_)
     go_simp
     refine (HL.out.2.2.2.2.2.2.2.1 _ (HL.out.2.2.1.then kd)).mono ?_
     rintro e w6 ⟨rfl,e6⟩
     have e6:=e6.symm
     subst e6
     refine hK _ _ kd ?_
     clear hK K
     refine Qh ?_
     iterate 2 (refine Qe (v:=?_) rfl rfl (by first | kernel_rfl | simp [Region.wanted,yielded,Act.put,undef]) ?_ ?_;rotate_left;focus (
      intro w' hS
      go_simp
      try with_reducible rfl))
     refine Qj (Qh ?_)
     iterate 9 (refine Qe (v:=?_) rfl rfl (by first | kernel_rfl | simp [Region.wanted,yielded,Act.put,undef]) ?_ ?_;rotate_left;focus (
      intro w' hS
      have f0:=hS.cell p0 (fun e=>e)
      have f1:=hS.cell a0 (fun e=>e)
      have f2:=hS.cell a1 (fun e=>e)
      have f3:=hS.cell a2 (fun e=>e)
      go_simp
      try with_reducible rfl))
     refine Qj ?_
     refine Za rfl (by first | kernel_rfl | simp [Region.wanted,yielded,Act.put,undef]) (fun K hK=>?_)
     go_simp
     refine (HL.out.2.2.2.2.2.2.2.2.1 _ (HL.out.2.2.1.then kd)).mono ?_
     rintro e w10 ⟨uw10,rfl,huw10,kw10⟩
     obtain ⟨uo,uc,rfl,hur⟩:=huw10.form
     have kw10':=kd.then kw10
     refine hK _ _ kw10' ?_
     clear hK K
     have hlw:=likeWindow_spec huw10 ((HL.out.2.2.2.1).no kw10') (by have:=HK.out.nL;omega) HL.out.2.2.2.2.2.1
     refine Za rfl (by first | kernel_rfl | simp [Region.wanted,yielded,Act.put,undef]) (fun K hK=>?_)
     go_simp
     refine hlw.mono ?_
     rintro e w11 ⟨rfl,kw11⟩
     have k11:=kw10'.then kw11
     refine hK _ _ k11 ?_
     clear hK K hlw huw10 hur kw10 kw11 kw10'
     refine Qh ?_
     iterate 3 (refine Qe (v:=?_) rfl rfl (by first | kernel_rfl | simp [Region.wanted,yielded,Act.put,undef]) ?_ ?_;rotate_left;focus (
      intro w' hS
      go_simp
      try with_reducible rfl))
     refine Qj (Qh ?_)
     iterate 9 (refine Qe (v:=?_) rfl rfl (by first | kernel_rfl | simp [Region.wanted,yielded,Act.put,undef]) ?_ ?_;rotate_left;focus (
      intro w' hS
      have f0:=hS.cell p0 (fun e=>e)
      have f1:=hS.cell q0 (fun e=>e)
      have f2:=hS.cell q1 (fun e=>e)
      have f3:=hS.cell q2 (fun e=>e)
      go_simp
      try with_reducible rfl))
     refine Qj ?_
     refine Za rfl (by first | kernel_rfl | simp [Region.wanted,yielded,Act.put,undef]) (fun K hK=>?_)
     go_simp
     refine (HL.out.2.2.2.2.2.2.2.2.2 _ (HL.out.2.2.1.then k11)).mono ?_
     rintro e w12 ⟨uw12,rfl,huw12,kw12⟩
     obtain ⟨uo,uc,rfl,hur⟩:=huw12.form
     have kw12':=k11.then kw12
     refine hK _ _ kw12' ?_
     clear hK K
     have hlw:=likeWindow_spec huw12 ((HL.out.2.2.2.2.1).no kw12') (by have:=HK.out.nT;omega) HL.out.2.2.2.2.2.2.1
     refine Za rfl (by first | kernel_rfl | simp [Region.wanted,yielded,Act.put,undef]) (fun K hK=>?_)
     go_simp
     refine hlw.mono ?_
     rintro e w13 ⟨rfl,kw13⟩
     have k13:=kw12'.then kw13
     refine hK _ _ k13 ?_
     clear hK K hlw huw12 hur kw12 kw13 kw12'
     refine Qh ?_
     iterate 2 (refine Qe (v:=?_) rfl rfl (by first | kernel_rfl | simp [Region.wanted,yielded,Act.put,undef]) ?_ ?_;rotate_left;focus (
      intro w' hS
      go_simp
      try with_reducible rfl))
     refine Qj (Qh ?_)
     unfold Vp
     have hfin:=HL.out.2.1.then k13
     clear k13 k11 kd p0 a9 a0 a1 a2 q0 q1 q2
     go_wp2_with fail
     go_roundw
     case rel=>exact ⟨a+1,HL.out.1,by go_num,hfin⟩
     case measure=>have:=HL.out.1;simp [intOf];omega
    ·have hai:¬(a:Int)<16:=by omega
     have HR:=Lib.hid kr
     clear kr hlt ha
     go_wp2_with fail
     go_meet
     exact HR.out
  case rest =>
   have kA:=hcut
   rename World=>WA
   have k0A:=HD.out.2.2.2.2.1.then kA
   have p0:=kA.cell p0 (fun e=>e)
   have p1:=kA.cell p1 (fun e=>e)
   have r0:=kA.cell r0 (fun e=>e)
   have x2:=kA.cell x2 (fun e=>e)
   have y365:=kA.cell y365 (fun e=>e)
   have hlv:=BRow.no HD.out.2.2.2.2.2 kA
   have HE:=Lib.hid (A2 k0A hlv)
   clear kA k0A hlv HD hcut
   obtain ⟨N,hN⟩:∃ N,N=L.recs.length:=⟨_,rfl⟩
   rw [<- hN] at y365
   have hNm:(N:Int)<=1000000:=by have:=HK.out.nL;omega
   go_upto_block 2 with fail
   go_cut [] (fun wx=>Keep No w wx)
   case first =>
    go_wp2_with fail
    go_loopw [124] (fun v124 wr=>∃ k:Nat,k<=N/\v124=.int .i64 k/\Keep No WA wr) (fun v124 _=>N - (intOf v124).toNat)
    case atStart=>exact ⟨0,Nat.zero_le _,rfl,Keep.refl _ _⟩
    case round =>
     obtain ⟨k,hk,rfl,kr⟩:=hrel
     by_cases hlt:k<N
     ·have hx:L.recs[k]?=some L.recs[k]:=List.getElem?_eq_getElem (by omega)
      have hget:=HK.out.get k _ hx
      generalize L.recs[k]=z at hx hget
      have hlr:=BRow.no HE.out.2 kr
      obtain ⟨bg,bu,hbg,hbu,_,_,hcs⟩:=BRow.at' hlr (fun _ _=>rfl) hx
      have b0:=hcs 0 _ rfl
      rw [Nat.add_zero] at b0
      have b1:=hcs 1 _ rfl
      have b2:=hcs 2 _ rfl
      have b3':=hcs 3 _ rfl
      obtain ⟨bo,bc,rfl⟩:=hbu.form
      subst hbg
      have hki:(k:Int)<(N:Int):=by omega
      obtain ⟨W,hW⟩:∃ W,W=wr.alloc (.cells #[.int .i64 z.who,.int .u64 z.n,.int .i64 z.s.c,.slice bo z.s.body.length bc] 175):=⟨_,rfl⟩
      have kW:Keep No wr W:=by rw [hW];exact (Keep.refl _ _).alloc _
      have hA:W.heap[wr.heap.size]?=some (.cells #[.int .i64 z.who,.int .u64 z.n,.int .i64 z.s.c,.slice bo z.s.body.length bc] 175 (0,0)):=by rw [hW];exact Qy _ _
      have p0:=(kr.then kW).cell p0 (fun e=>e)
      have c0:=Qq hA 0
      have c1:=Qq hA 1
      have c2:=Qq hA 2
      have c3:=Qq hA 3
      simp at c0 c1 c2 c3
      have HR:=Lib.hid (A6 kr hlt kW (hbu.no kW) hget (HE.out.1.then (kr.then kW)))
      clear kr hlt kW hget hbu hcs hx hk hlr hA
      go_upto_region 14 with fail
      rw [<- hW]
      clear hW b0 b1 b2 b3'
      go_cut [10,11] (fun v10 v11 wx=>∃ (b10:Nat) (so:Option Addr) (sc:Nat),v10=.pointer (some ⟨b10,0,none⟩)/\v11=.bool true/\wx.cell? ⟨b10,0,none⟩=some (.int .i64 z.s.c)/\wx.cell? ⟨b10,1,none⟩=some (.slice so z.s.body.length sc)/\Qv base wx (.slice so z.s.body.length sc) z.s.body/\Keep No W wx)
      case first =>
       have kd:Keep No W W.drew:=(Keep.refl _ _).drew
       refine wp_drawFT (fun w'=>Keep No W w') [(some (13,[10,11,12]),[0,1,2,3,4,5,6,7,8],[9]),(none,[],[14,15])] (by kernel_rfl) (by kernel_rfl) (fun _ _ _ _ _ h=>h) kd (stagesTN_some ?_)
       iterate 9 (refine Qk (v:=?_) rfl rfl rfl ?_ ?_;rotate_left;focus (
        intro w' hS
        have f0:=hS.cell p0 (fun e=>e)
        have f1:=hS.cell c0 (fun e=>e)
        have f2:=hS.cell c1 (fun e=>e)
        go_simp
        try with_reducible rfl))
       refine Qj ⟨?_,?_⟩
       ·refine Qx rfl rfl (fun K hK=>?_)
        go_simp
        have kA:=kd.alloc (.cells #[.int .i64 0,.slice none 0 0] 61)
        have hB0:(W.drew.alloc (.cells #[.int .i64 0,.slice none 0 0] 61)).heap[W.heap.size]?=some (.cells #[.int .i64 0,.slice none 0 0] 61 (0,0)):=Qy W.drew _
        refine hK _ _ kA ?_
        clear hK K
        refine Qx rfl rfl (fun K hK=>?_)
        go_simp
        refine (HR.out.2.2.2.2.1 _ (HR.out.2.2.2.2.2.then kA)).mono ?_
        rintro e w6 ⟨v6,rfl,hv6,k6⟩
        obtain ⟨so,sc,rfl⟩:=hv6.form
        have k16:=kA.then k6
        refine hK _ _ k16 ?_
        clear hK K
        refine Qh ?_
        iterate 3 (refine Qk (v:=?_) rfl rfl rfl ?_ ?_;rotate_left;focus (
         intro w' hS
         go_simp
         try with_reducible rfl))
        refine Qj (stagesTN_none (Qj ?_))
        have hB:=k6.heap hB0 (fun e=>e)
        have q0:=Qq hB 0
        have q1:=Qq hB 1
        have fB:=Qg hB
        have hb1:=Qz (i:=0) (u:=.int .i64 z.s.c) hB
        have hb2:=Qz (i:=1) (u:=.slice so z.s.body.length sc) hb1
        have kB:Keep (fun b=>b=W.heap.size) w6 ((w6.setCell ⟨W.heap.size,0,none⟩ (.int .i64 z.s.c)).setCell ⟨W.heap.size,1,none⟩ (.slice so z.s.body.length sc)):=((Keep.refl _ _).setCell (F:=(fun b=>b=W.heap.size)) (p:=⟨W.heap.size,0,none⟩) (.inl rfl) _).setCell (p:=⟨W.heap.size,1,none⟩) (.inl rfl) _
        have kS:Keep No W ((w6.setCell ⟨W.heap.size,0,none⟩ (.int .i64 z.s.c)).setCell ⟨W.heap.size,1,none⟩ (.slice so z.s.body.length sc)):=k16.absorb kB (fun b e=>by have e:b=W.heap.size:=e;omega)
        have hv7:Qv base ((w6.setCell ⟨W.heap.size,0,none⟩ (.int .i64 z.s.c)).setCell ⟨W.heap.size,1,none⟩ (.slice so z.s.body.length sc)) (.slice so z.s.body.length sc) z.s.body:=hv6.keep (foot_one hB (by have:=HE.out.1.size;have:=HR.out.2.2.2.2.2.size;have:=HB.out.1;omega) (by simp)) kB
        simp at q0 q1
        refine Qx rfl rfl (fun K hK=>?_)
        go_simp
        refine hK _ _ kS ?_
        clear hK K
        refine Qx rfl rfl (fun K hK=>?_)
        go_simp
        refine hK _ _ kS ?_
        clear hK K
        have e0:=Qq hb2 0
        have e1:=Qq hb2 1
        simp at e0 e1
        have HX:=Lib.hid (A4 kS hv7 e0 e1)
        clear kS hv7 e0 e1 hb1 hb2 fB q0 q1 hB hv6 k16 kB
        refine Qh (stagesTN_nil ?_)
        go_wp2_with fail
        go_meet
        exact ⟨_,so,sc,rfl,rfl,HX.out.2.2.1,HX.out.2.2.2,HX.out.2.1,HX.out.1⟩
       ·refine Qx rfl rfl (fun K hK=>?_)
        go_simp
        refine (HR.out.2.2.2.2.1 _ (HR.out.2.2.2.2.2.then kd)).mono ?_
        rintro e w5 ⟨v6,rfl,hv6,k6⟩
        obtain ⟨so,sc,rfl⟩:=hv6.form
        have k15:=kd.then k6
        refine hK _ _ k15 ?_
        clear hK K
        refine Qh ?_
        iterate 3 (refine Qk (v:=?_) rfl rfl rfl ?_ ?_;rotate_left;focus (
         intro w' hS
         go_simp
         try with_reducible rfl))
        refine Qj ?_
        refine Qx rfl rfl (fun K hK=>?_)
        go_simp
        refine hK _ _ (k15.alloc _) ?_
        clear hK K
        refine Qh (stagesTN_none (Qj ?_))
        have kA1:=(Keep.refl No w5).alloc (.cells #[.int .i64 z.s.c,.slice so z.s.body.length sc] 61)
        have hB:=Qy w5 (.cells #[.int .i64 z.s.c,.slice so z.s.body.length sc] 61)
        have kS:=k15.then kA1
        have hv7:=hv6.no kA1
        have fB:=Qg hB
        refine Qx rfl rfl (fun K hK=>?_)
        go_simp
        refine hK _ _ kS ?_
        clear hK K
        refine Qx rfl rfl (fun K hK=>?_)
        go_simp
        refine hK _ _ kS ?_
        clear hK K
        have HX:=Lib.hid (A2 kS hv7)
        clear kS hv7 fB hB hv6 kA1
        refine Qh (stagesTN_nil ?_)
        go_wp2_with fail
        go_meet
        exact ⟨_,so,sc,rfl,rfl,(Qq (Qy w5 (.cells #[.int .i64 z.s.c,.slice so z.s.body.length sc] 61)) 0).trans rfl,(Qq (Qy w5 (.cells #[.int .i64 z.s.c,.slice so z.s.body.length sc] 61)) 1).trans rfl,HX.out.2,HX.out.1⟩
      case rest =>
       obtain ⟨b10,so,sc,rfl,rfl,d0,d1,hv,kx⟩:=hcut
       rename World=>WX
       have c2:=kx.cell c2 (fun e=>e)
       have c3:=kx.cell c3 (fun e=>e)
       have hsm:=r4alike_spec (c:=z.s.c) hv (HR.out.2.2.2.1.no kx)
       have hfin:=HR.out.1.then (HR.out.2.2.1.then kx)
       clear hv kx c0 c1 p0
       go_wp2_with (go_at_call 79;refine hsm.mono ?_;rintro e w12 ⟨rfl,k12⟩)
       go_roundw
       case rel=>exact ⟨k+1,HR.out.2.1,by go_num,hfin.then k12⟩
       case measure=>have:=HR.out.2.1;simp [intOf];omega
     ·have hki:¬(k:Int)<(N:Int):=by omega
      have HR:=Lib.hid (HE.out.1.then kr)
      clear kr hlt hk
      go_wp2_with fail
      go_meet
      exact HR.out
   case rest =>
    have k0B:=hcut
    rename World=>wB
    have p0:=k0B.cell P0.out (fun e=>e)
    have p1:=k0B.cell P1.out (fun e=>e)
    have r0:=k0B.cell R0.out (fun e=>e)
    have x2:=k0B.cell X2.out (fun e=>e)
    have hS:=Lib.hid k0B
    clear k0B hcut y365 hNm hN HE
    have hsg:=HS.out.1 _ hS.out
    go_upto_region 19 with (go_at_call 80;refine hsg.mono ?_;rintro e w3 ⟨v3,rfl,hS3,k3,_⟩)
    obtain ⟨vo3,vc3,rfl,_,_⟩:=hS3.form
    have p0:=k3.cell p0 (fun e=>e)
    have k03:=hS.out.then k3
    have HW:=Lib.hid (A2 hS3 k03)
    have hmi:(sm.length:Int)<=10000:=by have:=HS.out.2.2.2.2.2.2;omega
    clear hsg hS3 k3 k03 p1 r0 x2 hS
    go_wp2_with fail
    go_loopw [164] (fun iv wr=>∃ j:Nat,j<=sm.length/\iv=.int .i64 j/\Keep No w3 wr) (fun iv _=>sm.length - (intOf iv).toNat)
    case atStart=>exact ⟨0,Nat.zero_le _,rfl,Keep.refl _ _⟩
    case round =>
     obtain ⟨j,hj,rfl,kr⟩:=hrel
     have b0:=kr.cell p0 (fun e=>e)
     have k0r:=HW.out.2.then kr
     by_cases hlt:j<sm.length
     ·obtain ⟨ga,rfl,hbg,hcells⟩:=HW.out.1.cells (by omega)
      have hej:sm[j]?=some sm[j]:=List.getElem?_eq_getElem hlt
      obtain ⟨u,hu,e0,e1⟩:=hcells j _ hej
      have hread:=HS.out.2.2.2.2.2.1 j _ hej
      have hrd:=fun (w':World) (k:Keep No w w')=>HS.out.2.2.1 w' k (sm[j]).1
      rw [hread] at hrd
      generalize sm[j]=e at *
      obtain ⟨uo,uc,rfl⟩:=hu.form
      have e0:=kr.cell e0 (fun e=>e)
      have e1:=kr.cell e1 (fun e=>e)
      have hu:=hu.no kr
      have hji:(j:Int)<(sm.length:Int):=by omega
      have kA:Keep No wr (wr.alloc (.cells #[.int .u64 e.1,.slice uo e.2.length uc] 182)):=(Keep.refl _ _).alloc _
      have hbx:=Qy wr (.cells #[.int .u64 e.1,.slice uo e.2.length uc] 182)
      have huA:=hu.no kA
      have HL:=Lib.hid (A6 hlt kr k0r hrd huA kA)
      have b0:=kA.cell b0 (fun e=>e)
      clear hcells hej hlt hread hrd hu huA kr k0r hj
      go_upto_region 22 with fail
      generalize wr.alloc (.cells #[.int .u64 e.1,.slice uo e.2.length uc] 182)=w9 at *
      have kA:=HL.out.2.2.2.2.2
      have f0:=Qq hbx 0
      have f1:=Qq hbx 1
      simp at f0 f1
      refine Vr (fun w'=>Keep No w9 w') [([0,1,2,3,6,7],[4,5,8]),([9,10,11],[12,13])] (by kernel_rfl) (by kernel_rfl) (fun _ _ _ _ _ h=>h) (Keep.refl _ _).drew ?_
      have kd:Keep No w9 w9.drew:=(Keep.refl _ _).drew
      iterate 6 (refine Qk (v:=?_) rfl rfl rfl ?_ ?_;rotate_left;focus (
       intro w' hq
       have b0':=hq.cell b0 (fun e=>e)
       have f0':=hq.cell f0 (fun e=>e)
       go_simp
       try with_reducible rfl))
      refine Qj ?_
      refine Qx rfl rfl (fun K hK=>?_)
      go_simp
      refine (HS.out.2.2.2.1 _ ((HL.out.2.2.1.then kA).then kd)).mono ?_
      rintro ee w10 ⟨rfl,rfl⟩
      refine hK _ _ kd ?_
      clear hK K
      refine Qx rfl rfl (fun K hK=>?_)
      go_simp
      refine (HS.out.2.2.2.2.1 _ ((HL.out.2.2.1.then kA).then kd)).mono ?_
      rintro ee w10 ⟨rfl,rfl⟩
      refine hK _ _ kd ?_
      clear hK K
      refine Qx rfl rfl (fun K hK=>?_)
      go_simp
      refine (HL.out.2.2.2.1 _ ((HL.out.2.2.1.then kA).then kd)).mono ?_
      rintro ee w11 ⟨v11,rfl,hv11,_,k11⟩
      have kd:=kd.then k11
      refine hK _ _ kd ?_
      clear hK K
      refine Qh ?_
      iterate 3 (refine Qk (v:=?_) rfl rfl rfl ?_ ?_;rotate_left;focus (
       intro w' hq
       go_simp
       try with_reducible rfl))
      refine Qj ?_
      iterate 2 (refine Qx rfl rfl (fun K hK=>?_);go_simp;refine hK _ _ kd ?_;clear hK K)
      refine Qh ?_
      unfold Vp
      obtain ⟨vo11,vc11,rfl⟩:=hv11.form
      have hsm:=r1same_spec hv11 (HL.out.2.2.2.2.1.no kd)
      rw [beq_self_eq_true] at hsm
      have f1:=kd.cell f1 (fun e=>e)
      have hfin:=HL.out.2.1.then (kA.then kd)
      clear b0 f0 e0 e1 hbx hv11 k11 kd
      go_wp2_with (go_at_call 82;refine hsm.mono ?_;rintro ee w12 ⟨rfl,k12⟩)
      go_roundw
      case rel=>exact ⟨j+1,HL.out.1,by go_num,hfin.then k12⟩
      case measure=>have:=HL.out.1;simp [intOf];omega
     ·have hji:¬(j:Int)<(sm.length:Int):=by omega
      have hlg:=HS.out.2.2.2.1 _ k0r
      have hdi:=HS.out.2.2.2.2.1 _ k0r
      have hds:=HS.out.2.1 _ k0r
      have hlm:(sm.map (fun e:Int × Qs=>e.1)).length=sm.length:=List.length_map _
      have HE:=Lib.hid k0r
      clear hlt hj kr k0r
      go_wp2_with (first
       | (go_at_call 83;refine hds.mono ?_;rintro ee w10 ⟨v10,rfl,hN,k10⟩;obtain ⟨no,nc,rfl,_,_⟩:=hN.form;rw [hlm])
       | (go_at_call 17;refine hdi.mono ?_;rintro ee w9 ⟨rfl,e9⟩;have e9:=e9.symm;subst e9)
       | (go_at_call 16;refine hlg.mono ?_;rintro ee w8 ⟨rfl,e8⟩;have e8:=e8.symm;subst e8))
      go_ret
      exact ⟨by simp,HE.out.then k10⟩
theorem open16_pair [bn:Inhabited Ban] {base:Nat} {w:World} (wd sg:Nat) (room:Int) (hr:100<=room/\room<=1000000) (hb:base<=w.heap.size) (hT:ban.top<=w.heap.size) :
  Calls Tryz.prog 12 #[.int .u16 wd,.int .u16 sg,.int .i64 room] w fun e w'=>∃ P B,e=.returned (.pointer (some ⟨P,0,none⟩))/\Pair16 base w' P (1+wd % 30) (1+sg % 300:Nat) 1 B/\(∀ b,B b->w.heap.size<=b)/\Keep No w w':=by
 obtain ⟨width,hwidth⟩:∃ n:Nat,n=1+wd % 30:=⟨_,rfl⟩
 obtain ⟨size,hsize⟩:∃ n:Nat,n=1+sg % 300:=⟨_,rfl⟩
 rw [<- hwidth,<- hsize]
 have e1:1+(wd:Int) % 30=(width:Int):=by omega
 have e2:1+(sg:Int) % 300=(size:Int):=by omega
 have hw:1<=width/\width<=1024:=by omega
 have hz:(1:Int)<=(size:Int):=by omega
 obtain ⟨ss2,d2,x2,⟨hgo,hro,hend⟩,_⟩:=new_both (bn:=bn) base width (size:Int) room hr hw hz
 have HH:=Lib.hid (A5 hb hT hr hw hz)
 have HN:=Lib.hid (A3 hgo hro (hend rfl))
 clear hgo hro hend
 clear hb hT hr hw hz hwidth hsize
 go_enter Tryz.func12,Tryz.ntmps12
 go_upto_region 2 with fail
 obtain ⟨W0,hW0⟩:∃ W0,W0=w.alloc (.cells #[.int .u64 width,.int .i64 size] 35):=⟨_,rfl⟩
 have hc0:W0.heap[w.heap.size]?=some (.cells #[.int .u64 width,.int .i64 size] 35 (0,0)):=by rw [hW0];exact Qy _ _
 have k0:Keep No w W0:=by rw [hW0];exact (Keep.refl _ _).alloc _
 rw [<- hW0]
 clear hW0
 have cc0:=Qq hc0 0
 have cc1:=Qq hc0 1
 simp at cc0 cc1
 have HA:=Lib.hid (A2 k0 hc0)
 clear hc0 k0
 have kd:Keep No W0 W0.drew:=(Keep.refl _ _).drew
 refine wp_drawN2 (fun w'=>Keep No W0 w') [0,2] [1,3,4] [5,6] [7,8] (by kernel_rfl) (by kernel_rfl) (fun _ _ _ _ _ h=>h) kd ?_
 iterate 2 (refine Qk (v:=?_) rfl rfl rfl ?_ ?_;rotate_left;focus (
  intro w' hS
  have f0:=hS.cell cc0 (fun e=>e)
  have f1:=hS.cell cc1 (fun e=>e)
  go_simp
  try with_reducible rfl))
 refine Qj (Qx rfl rfl (fun K hK=>?_))
 go_simp
 refine (new_spec (w:=W0.drew) base room (Nat.le_trans HH.out.1 (Nat.le_trans HA.out.1.size kd.size))).mono ?_
 rintro e w3 ⟨p,dn,ds,wv,rfl,hD,k3,hnew⟩
 refine hK _ _ (kd.then k3) ?_
 clear hK K
 have k03:=HA.out.1.then (kd.then k3)
 refine Qx rfl rfl (fun K hK=>?_)
 go_simp
 refine (HN.out.1 _ _ _ _ _ hD (Nat.le_trans HH.out.1 k03.size) (Nat.le_trans HH.out.2.1 k03.size)).mono ?_
 rintro e w4 ⟨v4,rfl,h4⟩
 rcases h4 with ⟨_,q,g,m,rfl,hq4,lv,n,s,wv1,sgv,rlv,hL,k4,ho4⟩ | ⟨h0,_⟩
 rotate_left
 ·exact absurd h0 (by decide)
 have k34:Keep No W0 w4:=(kd.then k3).trans k4 (fun b hb hf=>by have:=hnew b hf;have:=kd.size;omega)
 refine hK _ _ k34 ?_
 clear hK K
 refine Qx rfl rfl (fun K hK=>?_)
 go_simp
 refine hK _ _ k34 ?_
 clear hK K
 refine Qh ?_
 iterate 2 (refine Qk (v:=?_) rfl rfl rfl ?_ ?_;rotate_left;focus (
  intro w' hS
  go_simp
  try with_reducible rfl))
 refine Qj (Qx rfl rfl (fun K hK=>?_))
 go_simp
 refine hK _ _ k34 ?_
 clear hK K
 refine Qx rfl rfl (fun K hK=>?_)
 go_simp
 refine hK _ _ k34 ?_
 clear hK K
 refine Qh ?_
 have hFn:∀ b,Qi q g m lv p n s wv1 sgv rlv b->w.heap.size<=b:=fun b hb=>by
  have h1:=HA.out.1.size
  have h2:=kd.size
  have h3:=k3.size
  rcases ho4 b hb with h | h
  ·have:=hnew b h;omega
  ·omega
 have k04:=HA.out.1.then k34
 have hsz4:w.heap.size<w4.heap.size:=Nat.lt_of_lt_of_le (Qt HA.out.2) k34.size
 have cc0:=k34.cell cc0 (fun e=>e)
 have cc1:=k34.cell cc1 (fun e=>e)
 obtain ⟨W5,hW5⟩:∃ W5,W5=w4.alloc (.cells #[.int .i64 room,.bool false,.slice none 0 0,.int .i64 0] 119):=⟨_,rfl⟩
 have k45:Keep No w4 W5:=by rw [hW5];exact (Keep.refl _ _).alloc _
 have hx5:Zs base W5 w4.heap.size (.slice none 0 0) { room:=room,full:=false,l:=[],safe:=0 }:=⟨by rw [hW5];exact Qy _ _,LAt.nil _ _,Nat.le_trans HH.out.1 k04.size⟩
 have hop:=HN.out.2.1 _ _ _ hx5 (Nat.le_trans HH.out.1 (k04.then k45).size) (Nat.le_trans HH.out.2.1 (k04.then k45).size)
 have cc0:=k45.cell cc0 (fun e=>e)
 have cc1:=k45.cell cc1 (fun e=>e)
 have hq44:w4.heap.size<W5.heap.size:=by rw [hW5];simp
 have HB:=Lib.hid (A4 (hL.no k45) (k04.then k45) hFn hq44)
 clear hL k04 k45 hFn k34 k4 k03 ho4 hnew hD k3 kd hq4 hq44
 have H5:=Lib.hid hx5
 clear hx5
 subst hW5
 go_upto_region 4 with (go_at_call 50;refine hop.mono ?_;rintro e w6 ⟨v6,rfl,k6,h6⟩)
 rcases h6 with ⟨_,r,lv6,rfl,hr6,hR6,ho6⟩ | ⟨h0,_⟩
 rotate_left
 ·exact absurd h0 (by decide)
 have hq4:¬w.heap.size=w4.heap.size:=by omega
 have cc0:=k6.cell cc0 hq4
 have cc1:=k6.cell cc1 hq4
 have k06:Keep No w w6:=HB.out.2.1.trans k6 (fun b hb e=>by have e:b=w4.heap.size:=e;omega)
 have hL6:=HB.out.1.cellsAt H5.out.blk (by simp) (by simp) (by simp) H5.out.qb k6
 have HC:=Lib.hid (A5 hL6 k06 hR6 hr6 ho6)
 clear hR6 k6 hr6 hL6 hop k06 ho6 hq4
 go_wp2_with fail
 go_ret
 obtain ⟨hL6,k06,hR6,hr6,ho6⟩:=HC.out
 obtain ⟨e1,e2,e3,e4⟩:=HN.out.2.2
 have kz:=(Keep.refl No w6).alloc (.cells #[.pointer (some ⟨q,0,none⟩),.pointer (some ⟨r,0,none⟩),.int .u64 width,.int .i64 size] 37)
 have hs:=HB.out.2.2.2
 simp only [World.size_alloc] at hr6 ho6
 refine ⟨_,_,rfl,⟨q,g,m,lv,p,n,s,wv1,sgv,rlv,r,w4.heap.size,lv6,ss2,[.inc 1],d2.sync,x2.sync,((LedS.start width).step (.inc 1)).sync,1,⟨Qy _ _,hL6.no kz,⟨hR6.no kz,e1,by decide,hL6.tl,hL6.ok,e4⟩,e2,Nat.le_refl _,e3,Nat.le_trans HH.out.1 k06.size⟩,rfl⟩,fun b hb=>?_,k06.then kz⟩
 rcases hb with rfl | hb | rfl | rfl | hb
 ·exact k06.size
 ·exact HB.out.2.2.1 b hb
 ·omega
 ·omega
 ·rcases ho6 b hb with h | h
  ·simp [Value.ownBlock] at h
  ·omega
def Ku [bn:Inhabited Ban] (w:World) (P width:Nat) (size:Int) (j:Nat) (wr:World):Prop :=
 ∃ B,Pair16 w.heap.size wr P width size j B/\(∀ b,B b->w.heap.size<=b)/\Keep No w wr
theorem Jh.plays [bn:Inhabited Ban] {w wr w':World} {P width j:Nat} {size:Int} {B:Nat->Prop} (h:Jh w.heap.size wr P width size j B w') (hB:∀ b,B b->w.heap.size<=b) (k:Keep No w wr):Ku w P width size j w':=by
 obtain ⟨B',h1,h2,h3⟩:=h
 exact ⟨B',h1,fun b hb=>(h3 b hb).elim (hB b) (fun e=>Nat.le_trans k.size e),k.absorb h2 hB⟩
theorem Ku.like [bn:Inhabited Ban] {w wr:World} {P width j:Nat} {size:Int} (h:Ku w P width size j wr) (hT:ban.top<=w.heap.size) :
  Calls Tryz.prog 27 #[.pointer (some ⟨P,0,none⟩)] wr fun e w'=>e=.returned (.bool true)/\Ku w P width size j w':=by
 obtain ⟨B,⟨q,g,m,lv,p,n,s,wv,sgv,rlv,r,xq,lvd,ss,ts,d,x,L,cnt,hp,rfl⟩,hB,k⟩:=h
 refine (like16_spec hp k.size (Nat.le_trans hT k.size)).mono ?_
 rintro e w' ⟨rfl,k2⟩
 exact ⟨rfl,_,⟨q,g,m,lv,p,n,s,wv,sgv,rlv,r,xq,lvd,ss,ts,d,x,L,cnt,hp.no k2,rfl⟩,hB,k.then k2⟩
theorem Ku.no [bn:Inhabited Ban] {w wr w':World} {P width j:Nat} {size:Int} (h:Ku w P width size j wr) (k2:Keep No wr w'):Ku w P width size j w':=by
 obtain ⟨B,⟨q,g,m,lv,p,n,s,wv,sgv,rlv,r,xq,lvd,ss,ts,d,x,L,cnt,hp,rfl⟩,hB,k⟩:=h
 exact ⟨_,⟨q,g,m,lv,p,n,s,wv,sgv,rlv,r,xq,lvd,ss,ts,d,x,L,cnt,hp.no k2,rfl⟩,hB,k.then k2⟩
theorem Ku.do [bn:Inhabited Ban] {w wr:World} {P width j:Nat} {size:Int} (h:Ku w P width size j wr) (hT:ban.top<=w.heap.size) (hj:j+1<=450) (hz:1<=size) (kd ba ep:Nat) (ag kp tn:Int) (hkp:kp<=9223372036854775807) (on:Bool) (io:Option Addr) (il ic:Nat) (items:List Qc) (hits:Rw w.heap.size w (.slice io il ic) items) :
  Calls Tryz.prog 26 #[.pointer (some ⟨P,0,none⟩),.agg #[.int .u8 kd,.int .i64 ag,.int .u64 ba,.int .u64 ep,.slice io il ic,.bool on,.int .i64 kp,.int .i64 tn]] wr fun e w'=>e=.returned (.bool true)/\Ku w P width size (j+1) w':=by
 obtain ⟨B,⟨q,g,m,lv,p,n,s,wv,sgv,rlv,r,xq,lvd,ss,ts,d,x,L,cnt,hp,rfl⟩,hB,k⟩:=h
 refine (do16_any hp hj (Nat.le_refl _) hT k hB hz kd ba ep ag kp tn hkp on io il ic items hits).mono ?_
 rintro e w' ⟨rfl,hd⟩
 exact ⟨rfl,hd.plays hB k⟩
theorem gplays_walk [bn:Inhabited Ban] {w:World} (hT:ban.top<=w.heap.size) (wd sg rm:Nat) (hrm:rm<65536) {v2:Value} {acts:List Ue} (hv:Ux w.heap.size w v2 acts) :
  Calls Tryz.prog 4 #[.int .u16 wd,.int .u16 sg,.int .u16 rm,v2] w fun e w'=>e=.returned (.bool true)/\Keep No w w':=by
 obtain ⟨ao,cap,rfl,hac,hcm⟩:=hv.form
 have haw:=awake16_g (w:=w) hT
 have hli:(acts.length:Int)<=9223372036854775807:=by unfold maxLen at hcm;omega
 obtain ⟨rr,hrr⟩:∃ rr:Nat,rr=rm % 4000:=⟨_,rfl⟩
 have hr1:(rm:Int) % 4000=(rr:Int):=by omega
 have hr2:Int.tmod (rm:Int) 4000=(rr:Int):=by rw [hrr];rfl
 have hrb:(100:Int)<=100+(rr:Int)/\100+(rr:Int)<=1000000:=by omega
 have HT:=Lib.hid (A4 hT hv hrb hli)
 clear hT hv hac hcm hli hrb hrr hrm
 go_enter Tryz.func4,Tryz.ntmps4
 go_upto_region 3 with (go_at_call 11;refine haw.mono ?_;rintro e w1 ⟨rfl,k1⟩)
 clear haw
 have hop:=open16_pair (base:=w.heap.size) (w:=w1) wd sg (100+(rr:Int)) HT.out.2.2.1 k1.size (Nat.le_trans HT.out.1 k1.size)
 go_upto_region 6 with (go_at_call 12;refine hop.mono ?_;rintro e w2 ⟨P,B,rfl,hP,hB,k2⟩)
 clear hop
 obtain ⟨width,hwidth⟩:∃ n:Nat,n=1+wd % 30:=⟨_,rfl⟩
 obtain ⟨size,hsize⟩:∃ n:Nat,n=1+sg % 300:=⟨_,rfl⟩
 rw [<- hwidth,<- hsize] at hP
 have hz:(1:Int)<=(size:Int):=by omega
 have HI:=Lib.hid (A2 (show Ku w P width size 1 w2 from ⟨B,hP,fun b hb=>Nat.le_trans k1.size (hB b hb),k1.then k2⟩) hz)
 clear hP hB k1 k2 hwidth hsize hr1 hr2 hz
 go_wp2_with fail
 go_loopw [25] (fun v25 wr=>∃ i:Nat,v25=.int .i64 (i:Nat)/\i<=acts.length/\Ku w P width size (1+min i 20) wr) (fun v25 _=>acts.length - (intOf v25).toNat)
 case atStart=>exact ⟨0,rfl,Nat.zero_le _,HI.out.1⟩
 case round =>
  obtain ⟨i,rfl,hi,hW⟩:=hrel
  have hli:=HT.out.2.2.2
  by_cases hlt:i<acts.length
  ·have hx:acts[i]?=some acts[i]:=List.getElem?_eq_getElem hlt
   generalize acts[i]=a at hx
   obtain ⟨g,o,hgo,hA⟩:=Gu.at HT.out.2.1 hx
   subst hgo
   obtain ⟨u,hu,c0,c1,c2,c3,c4,c5,c6,c7⟩:=hA.cells
   obtain ⟨dn,hdn⟩:∃ dn:Nat,a.dop=dn:=⟨a.dop.toNat,by have:=hA.dop0;omega⟩
   rw [hdn] at c0
   have hkw:Keep No w wr:=by obtain ⟨_,_,_,k⟩:=hW;exact k
   have c0:=hkw.cell c0 (fun e=>e)
   have c1:=hkw.cell c1 (fun e=>e)
   have c2:=hkw.cell c2 (fun e=>e)
   have c3:=hkw.cell c3 (fun e=>e)
   have c4:=hkw.cell c4 (fun e=>e)
   have c5:=hkw.cell c5 (fun e=>e)
   have c6:=hkw.cell c6 (fun e=>e)
   have c7:=hkw.cell c7 (fun e=>e)
   obtain ⟨io,ic,rfl,hil,him⟩:=hu.form
   have hii:(i:Int)<(acts.length:Int):=by omega
   have hin:IntKind.i64.wrap ((i:Int)+1)=((i+1:Nat):Int):=by rw [IntKind.wrap_i64];omega
   have kA:=(Keep.refl No wr).alloc (.cells #[.int .u8 dn,.int .i64 a.agent,.int .u64 a.bas,.int .u64 a.epoch,.slice io a.items.length ic,.bool a.on,.int .i64 a.keep,.int .i64 a.torn] 30)
   have hWA:=hW.no kA
   by_cases h20:20<=i
   ·have q1:(20:Int)<=(i:Int):=by omega
    have HX:=Lib.hid (hkw.then kA)
    clear hW hkw hWA kA hA hu hdn hi hx h20 hlt hil him hin
    go_wp2_with fail
    go_ret
    exact ⟨rfl,HX.out⟩
   ·have q1:¬(20:Int)<=(i:Int):=by omega
    have hm:min i 20=i:=by omega
    have hm1:min (i+1) 20=i+1:=by omega
    rw [hm] at hWA
    have hdo:=hWA.do HT.out.1 (by omega) HI.out.2 dn a.bas a.epoch a.agent a.keep a.torn hA.kept a.on io a.items.length ic a.items hu
    have HR:=Lib.hid (A2 hlt hm1)
    clear hW hkw hWA kA hA hu hdn hi hx h20 hlt hil him hm hm1
    go_wp2_with (first
     | (go_at_call 27;refine hlk.mono ?_;rintro e w4 ⟨rfl,hW4⟩;have H4:=Lib.hid hW4;clear hW4)
     | (go_at_call 26;refine hdo.mono ?_;rintro e w3 ⟨rfl,hW3⟩;have hlk:=hW3.like HT.out.1;clear hW3))
    go_roundw
    case rel=>exact ⟨i+1,by go_num,HR.out.1,by rw [HR.out.2];exact H4.out⟩
    case measure=>have:=HR.out.1;simp [intOf];omega
  ·have hii:¬(i:Int)<(acts.length:Int):=by omega
   have hkw:Keep No w wr:=by obtain ⟨_,_,_,k⟩:=hW;exact k
   have HX:=Lib.hid hkw
   clear hW hi hlt hkw
   go_wp2_with fail
   go_ret
   exact ⟨rfl,HX.out⟩
end Go.Proofs.YtfdmbomlkpkegaaGreat
