/- Lemmas for LedgerPlays. -/
import Derived.Test.YtfdmbomlkpkegaaGreatS38
import Derived.Test.YtfdmbomlkpkegaaGreatS28
import Derived.Test.YtfdmbomlkpkegaaGreatS36
import Derived.Test.YtfdmbomlkpkegaaGreatS27
import Derived.Test.YtfdmbomlkpkegaaGreatS25
set_option maxRecDepth 100000
set_option maxHeartbeats 8000000
set_option linter.all false
namespace Go.Proofs.YtfdmbomlkpkegaaGreat
open Go Go.RowKit Go.Dr Go.Shelf
def DBoxA (w:World) (b:Nat) (y:WinS) (k:Nat) (vn:Value):Prop:=∃ vo n vc,w.heap[b]?=some (.cells #[.int .u64 y.low,.int .u64 y.width,.slice vo n vc] 164 (0,0))/\DocW w (.slice vo n vc) y k/\∀ c,vn.ownBlock=some c->¬(Value.slice vo n vc).ownBlock=some c
theorem DBoxA.no {w w':World} {b k:Nat} {y:WinS} {vn:Value} (h:DBoxA w b y k vn) (kk:Keep No w w'):DBoxA w' b y k vn:=by
 obtain ⟨vo,n,vc,h1,h2,h3⟩:=h
 exact ⟨vo,n,vc,kk.heap h1 (fun e=>e),h2.no kk,h3⟩
theorem DocW.keepN {w w':World} {v:Value} {x:WinS} {k:Nat} {F:Nat->Prop} (h:DocW w v x k) (kk:Keep F w w') (hF:∀ b,v.ownBlock=some b->¬F b):DocW w' v x k:=by
 obtain ⟨l,h1,h2,h3⟩:=h
 exact ⟨l,h1.keep kk hF,h2,h3⟩
theorem DocW.lt {w:World} {v:Value} {x:WinS} {k:Nat} (h:DocW w v x k):∀ b,v.ownBlock=some b->b<w.heap.size:=fun b hb=>by
 obtain ⟨l,h1,_⟩:=h
 obtain ⟨_,cur,hz⟩:=h1.kind b hb
 exact Qt hz
structure Re [bn:Inhabited Ban] (w wr:World) (b:Nat) (vn vb:Value) (y:WinS) (t:List Qc) (k:Nat):Prop where
 nums:OwnN wr w.heap.size vn (t.map (·.n))
 bytes:OwnB wr w.heap.size vb (Qb t)
 box:DBoxA wr b (y.putAll t) k vn
 kp:Keep No w wr
 new:w.heap.size<=b
theorem Re.no [bn:Inhabited Ban] {w wr w':World} {b k:Nat} {vn vb:Value} {y:WinS} {t:List Qc} (h:Re w wr b vn vb y t k) (kk:Keep No wr w'):Re w w' b vn vb y t k :=
 ⟨h.nums.no kk,h.bytes.keep kk (fun _ _ e=>e),h.box.no kk,h.kp.then kk,h.new⟩
theorem skip_low (x:WinS) (hx:x.Ok) (b:Nat) (hb:b<=4611686018427387904):(x.skip b).low=x.low ↔ x.skip b=x:=by
 constructor
 ·intro h
  unfold WinS.skip at h ⊢
  split
  ·rfl
  ·rename_i hn
   rw [if_neg hn] at h
   exfalso
   have hc:=(Gw (w:=⟨b - 1,x.width,x.set⟩) hx.set (fun r hr=>by have:=hx.above _ (hx.set.last hr);omega)).2.2.2.1
   rw [h] at hc
   have hc:b - 1<=x.low:=hc
   omega
 ·intro h;rw [h]
theorem wp_append_num {w:World} {o:Oper} {a:Act} {K:Act->World->Prop} {Q:Exit->Act->World->Prop} (s x:Operand)
  (ho:o.op=.call { callee:=.builtin .append,args:=#[s,x],argTypes:=#[52,52] }) {B:Nat} {v:Value} {l:List Nat} (h:OwnN w B v l) (hs:a.eval s=v) {D n:Nat}
  (hD:w.heap[D]?=some (.cells #[.int .u64 n] 27 (0,0))) (hx:a.eval x=.slice (some ⟨D,0,none⟩) 1 1) (hl:l.length<=1099511627776) (hb:B<=w.heap.size)
  (hK:∀ vo vc w',OwnN w' B (.slice vo (l.length+1) vc) (l++[n])->Keep (fun b=>v.ownBlock=some b) w w'->(∀ c,(Value.slice vo (l.length+1) vc).ownBlock=some c->v.ownBlock=some c\/w.heap.size<=c)->K (a.put o.dst (.slice vo (l.length+1) vc)) w'):o.wp Tryz.prog a w K Q:=by
 obtain ⟨i0,hi0,hz0,hz1,hz2⟩:=info_parts info_u64n
 refine wp_append_lies w s x 52 ho B 27 i0 _ 1 8 Tryz.underlying52 hi0 hz0 hz1 hz2 rfl (by omega) v l.length (l.map u64v) hs h
  ⟨D,0,none⟩ 1 1 [.int .u64 n] hx rfl (World.news_of_block (cs:=#[.int .u64 n]) (t:=27) (fr:=(0,0)) hD) (by simp [Value.oneCell']) (by omega) (by unfold maxLen;omega) (by omega) hb w.heap.size rfl ?_
 intro g cap w' hown hgr hat hlt
 refine hK _ _ _ ?_ (Jr hgr) (fun c hc=>by
  have hc:g=c:=by simpa [Value.ownBlock] using hc
  subst hc
  exact hat.imp id (fun e=>by omega))
 unfold OwnN
 rw [List.length_append,List.map_append]
 exact hown
def RPut [bn:Inhabited Ban] (base:Nat) (w:World) (p q:Nat) (lv:Value) (x':Qn) (width:Nat) (size safe:Int) (w':World):Option LRec->Prop
 | none=>Keep No w w'
 | some _=>Ho base w p q lv x' width size safe w'
theorem r16Put_spec [bn:Inhabited Ban] {base:Nat} {w:World} {p q width j cnt a b:Nat} {lv iv:Value} {x x':Qn} {size safe c:Int} {ss:List SegL} {ts:List LRec} {L:LedS} {d:Qr} {l:List Qc} (h:RR base w p q lv x width size safe ss ts L j cnt d) (ha:a<16) (hits:Gs base w iv l) (hr:Yv b l=true) (hl8:l.length<=8) (hbl:∀ x∈l,x.s.body.length<=40) (hrec:L.recs.length<=900000)
  (hb:base<=w.heap.size) (hT:ban.top<=w.heap.size) (hap:∀ r,L.putR a b l=some r->x.append (appS (logD size ss)).n (appB (logD size ss) r.bytes)=(x',c)) :
  Calls Tryz.prog 72 #[.pointer (some ⟨p,0,none⟩),.int .i64 a,.int .u64 b,iv] w fun e w' =>
   ∃ tv,e=.returned (.tuple #[tv,.int .i64 (putC c (L.putR a b l))])/\OwnN w' w.heap.size tv (if putC c (L.putR a b l)=0 then (pick ((L.win a).skip b) l).map (·.n) else [])/\RPut base w p q lv x' width size safe w' (L.putR a b l):=by
 obtain ⟨io,ic,rfl,_,_⟩:=BRow.form hits
 obtain ⟨g,hg,hgo,hgw,_⟩:=h.okL.at ha
 have hnow:L.now[a]?=some (g.floor,g.now):=by unfold LedS.now;rw [List.getElem?_map,hg];rfl
 obtain ⟨hright,hb61⟩:=(Jm b l).1 hr
 have htold:=h.told hb hT
 have hai:(a:Int)<16:=by omega
 have hbi:((2305843009213693952:Int)<=(b:Int))=False:=eq_false (by omega)
 have h8:(l.length:Int)<=8:=by omega
 obtain ⟨pr,hpr⟩:∃ pr,pr=L.putR a b l:=⟨_,rfl⟩
 obtain ⟨y,hy⟩:∃ y,y=g.now.skip b:=⟨_,rfl⟩
 have hyf:=hgo.fine.skip (b:=b) (by omega)
 rw [<- hy] at hyf
 rw [hgw,<- hpr,<- hy]
 have hprd:pr=if pick y l=[]/\y=g.now then none else some (.put a b (pick y l)):=by rw [hpr];unfold LedS.putR;rw [hgw,<- hy]
 have hcan:∀ r,pr=some r->L.can r:=fun r e=>LedS.putR_can ha hr (by omega) (by rw [<- hpr];exact e)
 rw [<- hpr] at hap
 obtain ⟨cc,hcc⟩:∃ cc,cc=putC c pr:=⟨_,rfl⟩
 obtain ⟨nl,hnl⟩:∃ nl:List Nat,nl=if cc=0 then (pick y l).map (·.n) else []:=⟨_,rfl⟩
 rw [<- hcc,<- hnl]
 have hlow:=skip_low g.now hgo.now b (by omega)
 rw [<- hy] at hlow
 have cp:=fun i=>Qq h.mem.blk i
 have cp0:=cp 0
 have cp2:=cp 2
 simp at cp0 cp2
 have HC:=Lib.hid (A2 hcc hnl)
 have HH:=Lib.hid (A9 h hits hb hT hap hprd hcan hrec ha)
 have HP:=Lib.hid (A9 hyf hright hb61 hl8 hbl hgo hlow hy hnow)
 clear h hits hr hl8 hbl hrec hb hT hap hprd hcan hpr hyf hright hb61 hgo hlow hy hnow hg hgw ha hcc hnl cp
 go_enter Tryz.func72,Tryz.ntmps72
 go_wp2_with fail
 go_loopw [35] (fun v35 wr=>∃ k,v35=.int .i64 (k:Nat)/\k<=l.length/\Keep No w wr) (fun v35 _=>l.length - (intOf v35).toNat)
 case atStart=>exact ⟨0,rfl,Nat.zero_le _,Keep.refl _ _⟩
 case round =>
  obtain ⟨k,rfl,hk,kr⟩:=hrel
  by_cases hlt:k<l.length
  ·have hx:l[k]?=some l[k]:=List.getElem?_eq_getElem hlt
   generalize l[k]=z at hx
   have hzm:=List.mem_of_getElem? hx
   have hzr:=HP.out.2.1 z hzm
   have hzb:=HP.out.2.2.2.2.1 z hzm
   obtain ⟨gi,ui,hgi,hub,_,_,hcs⟩:=BRow.at' (BRow.no HH.out.2.1 kr) (fun _ _=>rfl) hx
   have e0:=hcs 0 _ rfl
   rw [Nat.add_zero] at e0
   have e1:=hcs 1 _ rfl
   have e2:=hcs 2 _ rfl
   obtain ⟨uo,uc,rfl⟩:=hub.form
   subst hgi
   have hki:(k:Int)<(l.length:Int):=by omega
   have kA:=(Keep.refl No wr).alloc (.cells #[.int .u64 z.n,.int .i64 z.s.c,.slice uo z.s.body.length uc] 206)
   have hnewA:=Qy wr (.cells #[.int .u64 z.n,.int .i64 z.s.c,.slice uo z.s.body.length uc] 206)
   have hrt:Calls Tryz.prog 120 #[.agg #[.int .i64 z.s.c,.slice uo z.s.body.length uc]] (wr.alloc (.cells #[.int .u64 z.n,.int .i64 z.s.c,.slice uo z.s.body.length uc] 206)) _:=r4Right_spec (by omega)
   have hni:((2305843009213693952:Int)<=(z.n:Int))=False:=eq_false (by have:=hzr.1;omega)
   have hs:z.s.right=true:=by simpa [Ys.right,Ys.Right] using hzr.2
   rw [hs] at hrt
   have HR:=Lib.hid (A3 (kr.then kA) hnewA hlt)
   clear kr kA hnewA hzr hs hx hzb hub hcs hk hlt hzm
   go_wp2_with (go_at_call 120;refine hrt.mono ?_;rintro e w2 ⟨rfl,k2⟩;have hn2:=k2.heap HR.out.2.1 (fun e=>e);have n0:=Qq hn2 0;simp at n0)
   go_roundw
   case rel=>exact ⟨k+1,by congr 1,by have:=HR.out.2.2;omega,HR.out.1.then k2⟩
   case measure=>have:=HR.out.2.2;simp [intOf];omega
  ·have hki:¬(k:Int)<(l.length:Int):=by omega
   rename World=>w1
   have htold:=HH.out.1.no kr |>.told (Nat.le_trans HH.out.2.2.1 kr.size) (Nat.le_trans HH.out.2.2.2.1 kr.size)
   have HK:=Lib.hid kr
   clear kr hk hlt
   go_upto_region 10 with (first
    | (go_at_call 74;refine htold.mono ?_;rintro e w2 ⟨cs,rfl,hst,k2⟩;have hsz:=hst.size;have hone:=hst.all;have hinf:=hst.info;have HS:=Lib.hid hst;clear hst)
    | (refine wpList_store_row rfl 168 _ _ rfl w2.heap.size cs rfl rfl 168 Tryz.zeroCells168 (Qy _ _) hinf (by rw [hsz];rfl) hone ?_))
   have hz9:=setRow_heap _ w2.heap.size _ cs _ _ (Qy w2 (.cells Tryz.zeroCells168 168))
   have k3:Keep No w2 ((w2.alloc (.cells Tryz.zeroCells168 168)).setRow w2.heap.size cs):=((Keep.refl No w2).alloc _).trans (Zi _ w2.heap.size cs) (fun c hc e=>by have e:c=w2.heap.size:=e;omega)
   generalize (w2.alloc (.cells Tryz.zeroCells168 168)).setRow w2.heap.size cs=W3 at *
   obtain ⟨b12,hb12⟩:∃ b12,b12=w2.heap.size:=⟨_,rfl⟩
   rw [<- hb12] at hz9 ⊢
   have hS3:StAt base W3 cs L.inc L.now L.recs L.recs.length:=StAt.no HS.out k3
   obtain ⟨_,g1,g2,dv,g3,hdw⟩:=hS3.ags a _ HP.out.2.2.2.2.2.2.2.2
   obtain ⟨dvo,dvn,dvc,rfl⟩:=hdw.form
   have a0:=Qq hz9 (17+a*3)
   have a1:=Qq hz9 (17+a*3+1)
   have a2:=Qq hz9 (17+a*3+2)
   rw [g1] at a0
   rw [g2] at a1
   rw [g3] at a2
   unfold u64v at a0 a1
   have hsk:=dSkip_spec hdw (by have:=HH.out.2.2.2.2.2.2.2.1;omega) HP.out.2.2.2.2.2.1.now b (by have:=HP.out.2.2.1;omega)
   rw [<- HP.out.2.2.2.2.2.2.2.1] at hsk
   have hyw:y.width=g.now.width:=by rw [HP.out.1.width,HP.out.2.2.2.2.2.1.fine.width]
   rw [<- hyw] at hsk a1
   have k03:=(HK.out.then k2).then k3
   have h3:=k03.size
   have HA:=Lib.hid (A3 k03 h3 hb12)
   clear hz9 hinf hone hsz htold k2 k3 hb12 hS3 g1 g2 g3 hdw hyw k03 h3
   go_upto_region 11 with (go_at_call 121;refine hsk.mono ?_;rintro e w4 ⟨u4,rfl,hw4,k4⟩;obtain ⟨o4,n4,c4,rfl⟩:=hw4.form)
   clear hsk
   have kA:=(Keep.refl No w4).alloc (.cells #[.int .u64 y.low,.int .u64 y.width,.slice o4 n4 c4] 164)
   have hA:=Qy w4 (.cells #[.int .u64 y.low,.int .u64 y.width,.slice o4 n4 c4] 164)
   obtain ⟨W5,hW5⟩:∃ W5,W5=w4.alloc (.cells #[.int .u64 y.low,.int .u64 y.width,.slice o4 n4 c4] 164):=⟨_,rfl⟩
   rw [<- hW5] at kA hA ⊢
   obtain ⟨b14,hb14⟩:∃ b14,b14=w4.heap.size:=⟨_,rfl⟩
   rw [<- hb14] at hA ⊢
   have k45:=k4.then kA
   have d0:=Qq hA 0
   simp at d0
   have a0:=k45.cell a0 (fun e=>e)
   obtain ⟨sn,hsn⟩:∃ sn,sn=((y.low:Int) != (g.now.low:Int)):=⟨_,rfl⟩
   have hsmq:=hsn.symm
   have hsm:sn=!decide (y=g.now):=by
    rw [hsn]
    have:=HP.out.2.2.2.2.2.2.1
    by_cases e:y=g.now
    ·have e1:=this.2 e
     rw [e1]
     simp [e]
    ·have e1:¬y.low=g.now.low:=fun e1=>e (this.1 e1)
     simp [e]
     omega
   clear hsn
   have hT0:Re w W5 b14 (.slice none 0 0) (.slice none 0 0) y [] L.recs.length:=⟨OwnN.nil _ _,OwnB.nil _ _,⟨o4,n4,c4,hA,hw4.no kA,fun c e=>by simp [Value.ownBlock] at e⟩,HA.out.1.then k45,by have:=HA.out.2.1;have:=k4.size;omega⟩
   have HT0:=Lib.hid (A2 hT0 hsm)
   clear hT0 hsm hw4 kA hA hW5 hb14 k45 k4 a1 a2
   have kd:Keep No W5 W5.drew:=(Keep.refl _ _).drew
   refine Ql (fun w'=>Keep No W5 w') [0,1,2,3,4,5,6,7] [8] [] (by kernel_rfl) (by kernel_rfl) (fun _ _ _ _ _ h=>h) kd ?_
   iterate 8 (refine Qk (v:=?_) rfl rfl rfl ?_ ?_;rotate_left;focus (
    intro w' hS
    have f0:=hS.cell d0 (fun e=>e)
    have f1:=hS.cell a0 (fun e=>e)
    go_simp
    try with_reducible rfl))
   refine Qj (Qx rfl rfl (fun K hK=>?_))
   go_simp
   refine hK _ _ kd ?_
   clear hK K
   refine Qh (Qm ?_)
   have HT0:=Lib.hid (A2 (HT0.out.1.no kd) HT0.out.2)
   obtain ⟨W6,hW6⟩:∃ W6,W6=W5.drew:=⟨_,rfl⟩
   rw [<- hW6] at HT0 ⊢
   clear kd hW6 d0 a0 hsmq
   go_wp2_with fail
   go_loopw [16,17,70] (fun v16 v17 v70 wr=>∃ k,v70=.int .i64 (k:Nat)/\k<=l.length/\Re w wr b14 v16 v17 y (pick y (l.take k)) (L.recs.length+(pick y (l.take k)).length)) (fun _ _ v70 _=>l.length - (intOf v70).toNat)
   case atStart=>exact ⟨0,rfl,Nat.zero_le _,HT0.out.1⟩
   case round =>
    obtain ⟨k,rfl,hk,htk⟩:=hrel
    obtain ⟨t,ht⟩:∃ t,t=pick y (l.take k):=⟨_,rfl⟩
    rw [<- ht] at htk
    obtain ⟨to',tc,hto,htc1,htc2⟩:=htk.nums.form
    obtain ⟨po,pc,hpo⟩:=htk.bytes.form
    subst hto hpo
    by_cases hlt:k<l.length
    ·have hx:l[k]?=some l[k]:=List.getElem?_eq_getElem hlt
     have htake:l.take (k+1)=l.take k++[l[k]]:=List.take_succ_eq_append_getElem hlt
     generalize l[k]=z at hx htake
     have hzm:=List.mem_of_getElem? hx
     have hzr:=HP.out.2.1 z hzm
     have hzb:=HP.out.2.2.2.2.1 z hzm
     have htsub:t.length<=8/\∀ x∈t,x.Right/\x.s.body.length<=40:=by
      rw [ht]
      have hs:=(Xi y (l.take k)).trans (List.take_sublist k l)
      exact ⟨Nat.le_trans hs.length_le HP.out.2.2.2.1,fun x hx=>⟨HP.out.2.1 x (hs.subset hx),HP.out.2.2.2.2.1 x (hs.subset hx)⟩⟩
     have hsn:=Uw y (l.take k) z
     rw [<- htake,<- ht] at hsn
     obtain ⟨gi,ui,hgi,hub,_,_,hcs⟩:=BRow.at' (BRow.no HH.out.2.1 htk.kp) (fun _ _=>rfl) hx
     have e0:=hcs 0 _ rfl
     rw [Nat.add_zero] at e0
     have e1:=hcs 1 _ rfl
     have e2:=hcs 2 _ rfl
     obtain ⟨uo,uc,rfl⟩:=hub.form
     subst hgi
     have hki:(k:Int)<(l.length:Int):=by omega
     have hfine:(y.putAll t).Fine width:=HP.out.1.putAll (fun x hx=>(htsub.2 x hx).1.1)
     obtain ⟨T,hTe⟩:∃ T,T=y.putAll t:=⟨_,rfl⟩
     have hbox:=htk.box
     rw [<- hTe] at hsn hfine hbox
     obtain ⟨xo,xn,xc,hbz,hbd,_⟩:=hbox
     have b0:=Qq hbz 0
     have b1:=Qq hbz 1
     have b2:=Qq hbz 2
     simp at b0 b1 b2
     have kA:=(Keep.refl No wr).alloc (.cells #[.int .u64 z.n,.int .i64 z.s.c,.slice uo z.s.body.length uc] 206)
     have b0A:=fun o=>((Keep.refl No wr).alloc o).cell b0 (fun e=>e)
     have b1A:=fun o=>((Keep.refl No wr).alloc o).cell b1 (fun e=>e)
     have b2A:=fun o=>((Keep.refl No wr).alloc o).cell b2 (fun e=>e)
     have hnewA:=Qy wr (.cells #[.int .u64 z.n,.int .i64 z.s.c,.slice uo z.s.body.length uc] 206)
     have hbzA:=kA.heap hbz (fun e=>e)
     have h14:=Qt hbz
     have htks:=dTakes_spec (hbd.no kA) (by have:=HH.out.2.2.2.2.2.2.2.1;have:=htsub.1;omega) hfine.ok z.n
     have htlen:(t.map (·.n)).length=t.length:=by simp
     rw [htlen] at htk ⊢
     cases htt:T.takes z.n
     ·rw [htt] at htks hsn
      have hsn:pick y (l.take (k+1))=t:=by rw [hsn];simp
      have HR:=Lib.hid (A3 (htk.no kA) hlt hsn)
      clear htk hlt hsn hx htake hzm hzr hzb htsub hub hfine hTe hbz hbd kA hnewA hbzA h14 htt ht hk htlen hcs b0 b1 b2
      go_wp2_with (go_at_call 122;refine htks.mono ?_;rintro e w6 ⟨rfl,k6⟩)
      go_roundw
      case rel=>exact ⟨k+1,by congr 1,by have:=HR.out.2.1;omega,by rw [HR.out.2.2];exact HR.out.1.no k6⟩
      case measure=>have:=HR.out.2.1;simp [intOf];omega
     ·rw [htt] at htks hsn
      have hsn:pick y (l.take (k+1))=t++[z]:=by rw [hsn];simp
      have hput:=fun (w':World) (kk:Keep No (wr.alloc (.cells #[.int .u64 z.n,.int .i64 z.s.c,.slice uo z.s.body.length uc] 206)) w')=>dPut_fresh ((hbd.no kA).no kk) (by have:=HH.out.2.2.2.2.2.2.2.1;have:=htsub.1;omega) hfine.ok z.n (by have:=hzr.1;omega) htt
      have hTn:(y.putAll (t++[z]))=T.put z.n:=by rw [Kq,<- hTe];rfl
      have hwd:(T.put z.n).width=T.width:=by rw [(hfine.put hzr.1).width,hfine.width]
      have HR:=Lib.hid (A13 (htk.no kA) hlt hsn hbzA hnewA (hub.no kA) hzr hzb htsub hTn hput h14 hwd)
      clear htk hlt hsn hx htake hzm hzr hzb htsub hub hfine hTe hbz hbd kA hnewA hbzA h14 htt ht hk htlen hcs b0 b1 b2 hput hTn hwd
      go_upto_region 19 with (first
       | (go_at_call 123;refine (HR.out.2.2.2.2.2.2.2.2.2.2.1 w6 k6).mono ?_;rintro e w7 ⟨u7,rfl,hd7,k7,hf7⟩;obtain ⟨o7,n7,c7,rfl⟩:=hd7.form;have hb7:=k7.heap hb6 (fun e=>e);have hn7:=k7.heap hn6 (fun e=>e);have q0:=Qq hb7 0;have q1:=Qq hb7 1;have q2:=Qq hb7 2;simp at q0 q1 q2;have fq:=Qg hb7)
       | (go_at_call 122;refine htks.mono ?_;rintro e w6 ⟨rfl,k6⟩;have hb6:=k6.heap HR.out.2.2.2.1 (fun e=>e);have p0:=Qq hb6 0;have p1:=Qq hb6 1;have p2:=Qq hb6 2;have hn6:=k6.heap HR.out.2.2.2.2.1 (fun e=>e);have n0:=Qq hn6 0;simp at n0 p0 p1 p2))
      obtain ⟨htk,hrlt,hrsn,_,_,hrub,hrzr,hrzb,hrsub,hrTn,_,hr14,hrwd⟩:=HR.out
      obtain ⟨_,kst⟩:=DBox.ofV (y:=T.put z.n) hb7 hd7
      have hstz:=Qz (i:=2) (u:=.slice o7 n7 c7) (Qz (i:=1) (u:=.int .u64 T.width) (Qz (i:=0) (u:=.int .u64 (T.put z.n).low) hb7))
      rw [hrwd] at kst
      have hstd:=hd7.block hb7 (by decide) kst
      have hapt:∀ c,(Value.slice to' t.length tc).ownBlock=some c->¬(Value.slice o7 n7 c7).ownBlock=some c:=fun c h1 h2=>by
       obtain ⟨_,cur,hz⟩:=((htk.no k6).nums).kind c h1
       have:=Qt hz
       have:=hf7 c h2
       omega
      have hnl7:=hstd.lt
      have k67:=k6.then k7
      have hnZ:=kst.heap hn7 (fun e=>by have e:wr.heap.size=b14:=e;omega)
      have htk7:=htk.no k67
      have hb14:w.heap.size<=b14:=htk.new
      have hnums:=htk7.nums.keep kst (fun b hb e=>by
       obtain ⟨_,cur,hz⟩:=htk7.nums.kind b hb
       have e:b=b14:=e
       rw [e,hb7] at hz
       simp at hz)
      have hbytes:=htk7.bytes.keep kst (fun b hb e=>by
       obtain ⟨_,cur,hz⟩:=Qa htk7.bytes b hb
       have e:b=b14:=e
       rw [e,hb7] at hz
       simp at hz)
      have hub7:=(hrub.no k67).keep (F:=(·=b14)) (fun c hc=>by have hc:c=b14:=hc;subst hc;exact ⟨Nat.le_trans HH.out.2.2.1 hb14,Qt hb7,fun cs fr e=>by rw [hb7] at e;simp at e⟩) kst
      have kZ:Keep No w _:=htk7.kp.absorb kst (fun c e=>by have e:c=b14:=e;omega)
      obtain ⟨Z,hZ⟩:∃ Z,Z=((w7.setCell ⟨b14,0,none⟩ (.int .u64 (T.put z.n).low)).setCell ⟨b14,1,none⟩ (.int .u64 T.width)).setCell ⟨b14,2,none⟩ (.slice o7 n7 c7):=⟨_,rfl⟩
      rw [<- hZ] at hstz hstd hnl7 kst hnZ hnums hbytes hub7 kZ ⊢
      have hstz:Z.heap[b14]?=some (.cells #[.int .u64 (T.put z.n).low,.int .u64 (T.put z.n).width,.slice o7 n7 c7] 164 (0,0)):=by rw [hrwd];simpa using hstz
      have z0:=Qq hnZ 0
      have z1:=Qq hnZ 1
      have z2:=Qq hnZ 2
      simp at z0 z1 z2
      have hne19:∀ b,(Value.slice to' t.length tc).ownBlock=some b->¬wr.heap.size=b:=fun b hb e=>by
       obtain ⟨_,cur,hz⟩:=hnums.kind b hb
       rw [<- e,hnZ] at hz
       simp at hz
      have HZ:=Lib.hid (A7 (A4 hstz hstd hapt hnl7) hnums hbytes hub7 kZ hnZ hne19)
      have HR:=Lib.hid (A7 hrlt hrsn hrzr hrzb hrsub hrTn hb14)
      clear hstz hstd hapt hnl7 hf7 kst hnums hbytes hub7 kZ hnZ hne19 htk7 htk hrlt hrsn hrub hrzr hrzb hrsub hrTn hr14 hrwd hb14 k67 hn7 hb7 hd7 hn6 hb6 n0 p0 p1 p2 q0 q1 q2 fq hZ b0A b1A b2A e0 e1 e2 htks k6 k7
      have kd:Keep (fun b=>(Value.slice to' t.length tc).ownBlock=some b) Z Z.drew:=(Keep.refl _ _).drew
      refine Ql (fun w'=>Keep (fun b=>(Value.slice to' t.length tc).ownBlock=some b) Z w') [0,1,2,5,6] [3,4,7] [8,9,10,11] (by kernel_rfl) (by kernel_rfl) (fun _ _ _ _ _ h=>h) kd ?_
      iterate 5 (refine Qk (v:=?_) rfl rfl rfl ?_ ?_;rotate_left;focus (
       intro w' hS
       have y0:=hS.cell z0 (fun e=>HZ.out.2.2.2.2.2.2 _ e rfl)
       have y1:=hS.cell z1 (fun e=>HZ.out.2.2.2.2.2.2 _ e rfl)
       have y2:=hS.cell z2 (fun e=>HZ.out.2.2.2.2.2.2 _ e rfl)
       go_simp
       try with_reducible rfl))
      refine Qj ?_
      refine Qx rfl rfl (fun K hK=>?_)
      go_simp
      have kN:=((Keep.refl No Z).drew).alloc (.cells #[.int .u64 z.n] 27)
      have hN:=Qy Z.drew (.cells #[.int .u64 z.n] 27)
      refine hK _ _ kN.no ?_
      clear hK K
      refine Qx rfl rfl (fun K hK=>?_)
      have hnumsN:=HZ.out.2.1.keep kN (fun _ _ e=>e)
      refine wp_append_num _ _ rfl hnumsN rfl hN rfl (by have:=HR.out.2.2.2.2.1.1;simp;omega) (Nat.le_trans HZ.out.2.2.2.2.1.size kN.size) ?_
      intro vo8 vc8 w8 hn8 k8 ho8
      have kZ8:=kN.no.trans k8 (fun _ _ e=>e)
      refine hK _ _ kZ8 ?_
      clear hK K
      have hF8:Foot base (Z.drew.alloc (.cells #[.int .u64 z.n] 27)) (fun b=>(Value.slice to' t.length tc).ownBlock=some b):=fun c hc=>by
       obtain ⟨h1,cur,hzc⟩:=hnumsN.kind c hc
       exact ⟨Nat.le_trans HH.out.2.2.1 h1,Qt hzc,fun cs fr e=>by rw [hzc] at e;simp at e⟩
      have hub8:=(HZ.out.2.2.2.1.no kN).keep hF8 k8
      have hby8:=(HZ.out.2.2.1.keep kN (fun _ _ e=>e)).keep k8 (fun c hc e=>by
       obtain ⟨_,cur,hz⟩:=hnumsN.kind c e
       obtain ⟨_,cur2,hz2⟩:=Qa (HZ.out.2.2.1.keep kN (fun _ _ e=>e)) c hc
       rw [hz] at hz2;simp at hz2)
      have hT8:ban.top<=w8.heap.size:=Nat.le_trans HH.out.2.2.2.1 (Nat.le_trans HZ.out.2.2.2.2.1.size kZ8.size)
      have hw8:w.heap.size<=w8.heap.size:=Nat.le_trans HZ.out.2.2.2.2.1.size kZ8.size
      refine Qx rfl rfl (fun K hK=>?_)
      go_simp
      refine (r4PutItem_spec hub8 HR.out.2.2.1 hT8).mono ?_
      rintro e w9 ⟨v9,rfl,own9,k9⟩
      have kZ9:=kZ8.then k9
      refine hK _ _ kZ9 ?_
      clear hK K
      have hsz9:=k9.size
      have hsl:=Ko ((hby8.keep k9 (fun _ _ e=>e)).bytes (base:=base) (fun _=>HH.out.2.2.2.1)) (own9.bytes (base:=base) (fun _=>hT8))
      have hle2:=Vo HR.out.2.2.2.2.1.2
      have hzl:=Vo (l:=[z]) (N:=40) (fun x hx=>by rw [List.mem_singleton.1 hx];exact ⟨HR.out.2.2.1,HR.out.2.2.2.1⟩)
      have hzl2:z.bytes.length<=61:=by simpa [Qb] using hzl
      have hjn:=Xv hsl (by have:=HR.out.2.2.2.2.1.1;simp;omega)
      have he:[Qb t,z.bytes].flatten=Qb (t++[z]):=by simp [Qb]
      rw [he] at hjn
      obtain ⟨o9,c9,e9⟩:=own9.form
      obtain ⟨l9,hl9⟩:∃ l9,l9=z.bytes.length:=⟨_,rfl⟩
      rw [<- hl9] at e9
      subst e9
      obtain ⟨lb,hlb⟩:∃ lb,lb=(Qb t).length:=⟨_,rfl⟩
      rw [<- hlb] at hjn ⊢
      have kB:=(Keep.refl No w9).alloc (.cells #[.slice po lb pc,.slice o9 l9 c9] 59)
      have HY:=Lib.hid (A8 hn8 k8 ho8 kN hw8 hsz9 k9 kB)
      clear hn8 k8 ho8 kN hw8 hT8 hsz9 k9 kB hub8 hby8 hF8 hnumsN hsl hle2 hzl hzl2 he own9 hl9 hlb hN kd kZ8 kZ9
      refine Qh (Qu rfl (Qu rfl (Qu rfl (Qu rfl (Qm ?_)))))
      go_wp2_with fail
      refine hjn.mono ?_
      rintro e w10 ⟨v10,rfl,own10,k10⟩
      obtain ⟨o10,c10,e10⟩:=own10.form
      obtain ⟨l10,hl10⟩:∃ l10,l10=(Qb (t++[z])).length:=⟨_,rfl⟩
      rw [<- hl10] at e10
      subst e10
      have HL10:=Lib.hid (A3 own10 k10 hl10)
      clear own10 k10 hl10 hjn
      go_wp2_with fail
      go_roundw
      case rel =>
       have k810:=(HY.out.2.2.2.2.2.2.1.then HY.out.2.2.2.2.2.2.2).then HL10.out.2.1
       refine ⟨k+1,by congr 1,by have:=HR.out.1;omega,?_⟩
       rw [HR.out.2.1]
       refine ⟨?_,?_,?_,?_,HR.out.2.2.2.2.2.2⟩
       ·have h8:=HY.out.1.no k810
        rw [List.length_map] at h8
        rw [List.map_append]
        exact h8
       ·exact HL10.out.1.mono (by have:=HY.out.2.2.2.2.1;have:=HY.out.2.2.2.2.2.1;have:=HY.out.2.2.2.2.2.2.2.size;omega)
       ·obtain ⟨hz1,hz2,hz3,hz4⟩:=HZ.out.1
        have hnumsN:=HZ.out.2.1.keep HY.out.2.2.2.1 (fun _ _ e=>e)
        have hz1N:=HY.out.2.2.2.1.heap hz1 (fun e=>e)
        rw [HR.out.2.2.2.2.2.1,List.length_append]
        refine ⟨o7,n7,c7,k810.heap (HY.out.2.1.heap hz1N (fun e=>?_)) (fun e=>e),(((hz2.no HY.out.2.2.2.1).keepN HY.out.2.1 (fun b hb e=>hz3 b e hb)).no k810).mono (by simp;omega),fun c hc e=>?_⟩
        ·obtain ⟨_,cur,hz⟩:=hnumsN.kind _ e
         rw [hz1N] at hz
         simp at hz
        ·rcases HY.out.2.2.1 c (by simpa [Value.ownBlock] using hc) with h1 | h1
         ·exact hz3 c h1 e
         ·have h1:(Z.drew.alloc (.cells #[.int .u64 z.n] 27)).heap.size<=c:=h1
          have:=hz4 c e
          have:=HY.out.2.2.2.1.size
          omega
       ·exact ((HZ.out.2.2.2.2.1.then HY.out.2.2.2.1).absorb HY.out.2.1 (fun c e=>((HZ.out.2.1.keep HY.out.2.2.2.1 (fun _ _ e=>e)).kind c e).1)).then k810
      case measure=>have:=HR.out.1;simp [intOf];omega
    ·have hke:k=l.length:=by omega
     have hki:¬(k:Int)<(l.length:Int):=by omega
     rename World=>w8
     have htl:t=pick y l:=by rw [ht,hke,List.take_of_length_le (Nat.le_refl _)]
     have htlen:(t.map (·.n)).length=t.length:=by simp
     have hts8:t.length<=8/\∀ x∈t,x.Right/\x.s.body.length<=40:=by
      rw [htl]
      have hs:=Xi y l
      exact ⟨Nat.le_trans hs.length_le HP.out.2.2.2.1,fun x hx=>⟨HP.out.2.1 x (hs.subset hx),HP.out.2.2.2.2.1 x (hs.subset hx)⟩⟩
     rw [htlen] at htk ⊢
     have hprt:=HH.out.2.2.2.2.2.1
     rw [<- htl] at hprt
     have hsme:=HT0.out.2
     by_cases hnone:t=[]/\y=g.now
     ·obtain ⟨h1,h2⟩:=hnone
      have hpn:pr=none:=by rw [hprt,if_pos ⟨h1,h2⟩]
      obtain rfl:sn=false:=by rw [hsme];simp [h2]
      have HR:=Lib.hid (A4 htk hpn htl h1)
      have h1l:((t.length:Nat):Int)=0:=by rw [h1];rfl
      have h1e:(((t.length:Nat):Int)==0)=true:=by rw [h1l];rfl
      clear htk hpn htl h1 h2 hprt hsme hke hlt hk ht hts8 htlen h1l
      go_wp2_with fail
      go_ret2
      have hc0:cc=0:=by rw [HC.out.1,HR.out.2.1];rfl
      have hn0:nl=[]:=by rw [HC.out.2,if_pos hc0,<- HR.out.2.2.1,HR.out.2.2.2];rfl
      subst hc0
      refine ⟨.slice none 0 0,rfl,?_,?_⟩
      ·rw [hn0];exact OwnN.nil _ _
      ·rw [HR.out.2.1];exact HR.out.1.kp
     ·have hps:pr=some (.put a b t):=by rw [hprt,if_neg hnone]
      have hroom:=HH.out.2.2.2.2.1
      have hcn:=HH.out.2.2.2.2.2.2.1
      rw [hps] at hroom hcn
      have hdec:(((t.length:Nat):Int)==0)=false\/((((t.length:Nat):Int)==0)=true/\sn=true):=by
       by_cases h0:t=[]
       ·right
        refine ⟨by rw [h0];rfl,?_⟩
        rw [hsme]
        simp
        exact fun e=>hnone ⟨h0,e⟩
       ·left
        have:=List.length_pos_iff.2 h0
        simp
        omega
      have ha16:=HH.out.2.2.2.2.2.2.2.2
      have hb61:=HP.out.2.2.1
      have hrlen:(LRec.put a b t).bytes.length<=600:=by
       have h1:=Vo hts8.2
       have h2:=Qp (n:=a) (by omega)
       have h3:=Qp (n:=b) (by omega)
       have h4:=Qp (n:=t.length) (by omega)
       simp only [LRec.bytes,List.length_cons,List.length_append]
       omega
      have HR:=Lib.hid (A9 htk (hroom _ rfl) (hcn _ rfl) hps htl hts8 hb61 ha16 hrlen)
      clear htk hroom hcn hps htl hprt hsme hke hlt hk ht htlen hb61 ha16 hrlen hnone
      have htli:((t.length:Nat):Int)<=8:=by have:=hts8.1;omega
      have htw:IntKind.u64.wrap ((t.length:Nat):Int)=((t.length:Nat):Int):=by rw [wraps_u64 _ (by omega) (by omega)]
      clear hts8
      go_upto_region 21 with fail
      go_cut [99] (fun v99 wx=>v99=.bool false/\w8=wx)
      case first =>
       rcases hdec with h0 | ⟨h0,rfl⟩
       ·go_wp2_with fail
        go_meet
        exact ⟨rfl,rfl⟩
       ·go_wp2_with fail
        go_meet
        exact ⟨rfl,rfl⟩
      case rest =>
       obtain ⟨rfl,rfl⟩:=hcut
       have haw:IntKind.u64.wrap (a:Int)=(a:Int):=by have:=HR.out.2.2.2.2.2.2.2.1;rw [wraps_u64 _ (by omega) (by omega)]
       go_upto_region 23 with fail
       have kb:=(Keep.refl No w8).alloc (.cells #[.int .u8 3] 5)
       have hby:=Vc w8 3 (by decide)
       have hT8:ban.top<=w8.heap.size:=Nat.le_trans HH.out.2.2.2.1 HR.out.1.kp.size
       have hn1:Calls Tryz.prog 98 #[.int .u64 a] (w8.alloc (.cells #[.int .u8 3] 5)) _:=Jo 9 a (by have:=HR.out.2.2.2.2.2.2.2.1;omega) (by have:=HR.out.2.2.2.2.2.2.2.1;omega) _
       have HB:=Lib.hid (A3 kb hby hT8)
       clear kb hby hT8
       go_wp2_with fail
       refine hn1.mono ?_
       rintro e u1 ⟨v1,rfl,own1,k1⟩
       obtain ⟨o1,c1,e1⟩:=own1.form
       obtain ⟨l1,hl1⟩:∃ l1,l1=(numB a).length:=⟨_,rfl⟩
       rw [<- hl1] at e1
       subst e1
       have H1:=Lib.hid (A3 own1 k1 hl1)
       clear own1 k1 hl1 hn1
       have hn2:Calls Tryz.prog 98 #[.int .u64 b] u1 _:=Jo 9 b (by have:=HR.out.2.2.2.2.2.2.1;omega) (by have:=HR.out.2.2.2.2.2.2.1;omega) _
       go_wp2_with fail
       refine hn2.mono ?_
       rintro e u2 ⟨v2,rfl,own2,k2⟩
       obtain ⟨o2,c2,e2⟩:=own2.form
       obtain ⟨l2,hl2⟩:∃ l2,l2=(numB b).length:=⟨_,rfl⟩
       rw [<- hl2] at e2
       subst e2
       have H2:=Lib.hid (A3 own2 k2 hl2)
       clear own2 k2 hl2 hn2
       have hn3:Calls Tryz.prog 98 #[.int .u64 t.length] u2 _:=Jo 9 t.length (by omega) (by omega) _
       go_wp2_with fail
       refine hn3.mono ?_
       rintro e u3 ⟨v3,rfl,own3,k3⟩
       have kn:Keep No w8 u3:=((HB.out.1.then H1.out.2.1).then H2.out.2.1).then k3
       have hB0:=((((HB.out.2.1.keep H1.out.2.1 (fun _ _ e=>e)).keep H2.out.2.1 (fun _ _ e=>e)).keep k3 (fun _ _ e=>e))).bytes (base:=base) (fun _=>HB.out.2.2)
       have hB1:=((H1.out.1.keep H2.out.2.1 (fun _ _ e=>e)).keep k3 (fun _ _ e=>e)).bytes (base:=base) (fun _=>Nat.le_trans HB.out.2.2 HB.out.1.size)
       have hB2:=(H2.out.1.keep k3 (fun _ _ e=>e)).bytes (base:=base) (fun _=>Nat.le_trans HB.out.2.2 (HB.out.1.then H1.out.2.1).size)
       have hB3:=own3.bytes (base:=base) (fun _=>Nat.le_trans HB.out.2.2 ((HB.out.1.then H1.out.2.1).then H2.out.2.1).size)
       have he:[[UInt8.ofNat 3],numB a,numB b,numB t.length].flatten++Qb t=(LRec.put a b t).bytes:=by simp [LRec.bytes]
       obtain ⟨hd,hhd⟩:∃ hd,hd=[[UInt8.ofNat 3],numB a,numB b,numB t.length].flatten:=⟨_,rfl⟩
       have hdl:hd.length<=600:=by
        rw [<- hhd] at he
        have h1:=congrArg List.length he
        rw [List.length_append] at h1
        have:=HR.out.2.2.2.2.2.2.2.2
        omega
       have hjn:=Xv (slices4 hB0 hB1 hB2 hB3) (by rw [<- hhd];omega)
       rw [<- hhd] at hjn he
       obtain ⟨o3,c3,e3⟩:=own3.form
       obtain ⟨l3,hl3⟩:∃ l3,l3=(numB t.length).length:=⟨_,rfl⟩
       rw [<- hl3] at e3
       subst e3
       have kC:=kn.alloc (.cells #[.slice (some ⟨w8.heap.size,0,none⟩) 1 1,.slice o1 l1 c1,.slice o2 l2 c2,.slice o3 l3 c3] 59)
       have H3:=Lib.hid (A3 kC he hdl)
       clear own3 k3 kn hB0 hB1 hB2 hB3 hl3 kC hhd he hdl hn3
       go_wp2_with fail
       refine hjn.mono ?_
       rintro e u4 ⟨v4,rfl,own4,k4⟩
       obtain ⟨o4,c4,e4⟩:=own4.form
       obtain ⟨l4,hl4⟩:∃ l4,l4=hd.length:=⟨_,rfl⟩
       rw [<- hl4] at e4
       subst e4
       have k84:=H3.out.1.then k4
       have kw4:=HR.out.1.kp.then k84
       have htk4:=HR.out.1.no k84
       have cp0:=kw4.cell cp0 (fun e=>e)
       have cp2:=kw4.cell cp2 (fun e=>e)
       have hpq:¬p=q:=fun e=>HH.out.1.mem.ne e.symm
       have hT4:=Nat.le_trans HH.out.2.2.2.1 kw4.size
       have hb4:=own4.bytes (base:=base) (fun _=>Nat.le_trans HB.out.2.2 H3.out.1.size)
       have hib:=htk4.bytes.bytes (base:=base) (fun _=>HH.out.2.2.2.1)
       obtain ⟨lb,hlb⟩:∃ lb,lb=(Qb t).length:=⟨_,rfl⟩
       rw [<- hlb] at hib ⊢
       have happ:∀ (X:World) (v:Value),Keep No u4 X->Qv base X v (LRec.put a b t).bytes->Calls Tryz.prog 96 #[.pointer (some ⟨q,0,none⟩),.int .i64 size,v] X fun e w'=>∃ (nx:Int) (lv':Value),e=.returned (.tuple #[.int .u64 nx,.int .i64 c])/\Zs base w' q lv' x'/\Keep (·=q) X w'/\∀ b,lv'.ownBlock=some b->lv.ownBlock=some b\/X.heap.size<=b:=by
        intro X v kX hv
        have hR:=HH.out.1.no (kw4.then kX)
        have:=hR.app (Nat.le_trans HH.out.2.2.1 (kw4.then kX).size) (Nat.le_trans hT4 kX.size) hv (by have:=HR.out.2.2.2.2.2.2.2.2;omega)
        rw [HR.out.2.1] at this
        exact this.mono (fun e w' ⟨lv',h1,h2,h3,h4⟩=>⟨_,lv',h1,h2,h3,h4⟩)
       have HX:=Lib.hid (A6 kw4 htk4 hT4 hb4 hib happ)
       clear hjn own4 k4 hl4 k84 kw4 htk4 hT4 hb4 hib happ hlb
       go_upto_region 24 with fail
       have kd:Keep No u4 u4.drew:=(Keep.refl _ _).drew
       have kd2:Keep (·=q) u4 u4.drew:=kd.no
       go_cut [21,22] (fun v21 v22 wx=>v22=.int .i64 c/\Ho base w p q lv x' width size safe wx/\OwnN wx w.heap.size (.slice to' t.length tc) (t.map (·.n)))
       case first =>
        refine wp_drawFS (fun w'=>Keep (·=q) u4 w') [(none,[0,1,2,3,4,5,6,7,8,9],[10,11,12,13]),(none,[14,15],[16,17])] (by kernel_rfl) (by kernel_rfl) (fun _ _ _ _ _ h=>h) kd2 (Jz ?_)
        iterate 10 (refine Qk (v:=?_) rfl rfl rfl ?_ ?_;rotate_left;focus (
         intro w' hS
         have d1:=hS.cell cp0 hpq
         have d2:=hS.cell cp2 hpq
         go_simp
         try with_reducible rfl))
        refine Qj ?_
        refine Qx rfl rfl (fun K hK=>?_)
        go_simp
        have kS:=kd.alloc (.cells #[.slice o4 l4 c4,.slice po lb pc] 59)
        refine hK _ _ kS.no ?_
        clear hK K
        have hjn:=Xv (Ko (HX.out.2.2.2.1.no kd) (HX.out.2.2.2.2.1.no kd)) (by have:=HR.out.2.2.2.2.2.2.2.2;have h1:=congrArg List.length H3.out.2.1;rw [List.length_append] at h1;simp;omega)
        have he:[hd,Qb t].flatten=(LRec.put a b t).bytes:=by rw [<- H3.out.2.1];simp
        rw [he] at hjn
        refine Qx rfl rfl (fun K hK=>?_)
        go_simp
        refine hjn.mono ?_
        rintro e w6 ⟨v6,rfl,own6,k6⟩
        have k36:=kS.then k6
        refine hK _ _ k36.no ?_
        clear hK K
        have happ:=HX.out.2.2.2.2.2 w6 _ k36 (own6.bytes (base:=base) (fun _=>Nat.le_trans HX.out.2.2.1 kS.size))
        obtain ⟨o6,c6,e6⟩:=own6.form
        obtain ⟨l6,hl6⟩:∃ l6,l6=(LRec.put a b t).bytes.length:=⟨_,rfl⟩
        rw [<- hl6] at e6
        subst e6
        clear hl6 own6 hjn he
        refine Qx rfl rfl (fun K hK=>?_)
        go_simp
        refine happ.mono ?_
        rintro e w7 ⟨nx,lv7,rfl,hx7,k7,o7⟩
        have k37:Keep (·=q) u4 w7:=k36.no.trans k7 (fun _ _ e=>e)
        refine hK _ _ k37 ?_
        clear hK K
        refine Qx rfl rfl (fun K hK=>?_)
        go_simp
        refine hK _ _ k37 ?_
        clear hK K
        refine Qh (Jz ?_)
        iterate 2 (refine Qk (v:=?_) rfl rfl rfl ?_ ?_;rotate_left;focus (
         intro w' hS
         go_simp
         try with_reducible rfl))
        refine Qj ?_
        refine Qx rfl rfl (fun K hK=>?_)
        go_simp
        refine hK _ _ k37 ?_
        clear hK K
        refine Qx rfl rfl (fun K hK=>?_)
        go_simp
        refine hK _ _ k37 ?_
        clear hK K
        refine Qh (stagesFN_nil ?_)
        go_wp2_with fail
        go_meet
        refine ⟨rfl,HH.out.1.wrote (HX.out.1.then k36) hx7 k7 o7,?_⟩
        have hn4:=HX.out.2.1.nums
        exact hn4.keep k37 (fun b hb e=>by
         obtain ⟨h1,cur,hz⟩:=hn4.kind b hb
         have e:b=q:=e
         have h2:=Qt HH.out.1.mem.rdisk.blk
         omega)
       case rest =>
        obtain ⟨rfl,hwr,hnn⟩:=hcut
        rename World=>w9
        have hc05:c=0\/c=5:=by
         have h1:=HR.out.2.1
         rcases x_append_cases x (appS (logD size ss)).n (appB (logD size ss) (LRec.put a b t).bytes) with h2 | h2
         ·rw [h1] at h2;exact .inr h2.2
         ·rw [h1] at h2;exact .inl h2
        rcases hc05 with rfl | rfl
        ·go_wp2_with fail
         go_ret2
         have hc0:cc=0:=by rw [HC.out.1,HR.out.2.2.2.1];rfl
         have hn0:nl=t.map (·.n):=by rw [HC.out.2,if_pos hc0,<- HR.out.2.2.2.2.1]
         rw [HR.out.2.2.2.1]
         subst hc0
         refine ⟨_,rfl,?_,hwr⟩
         rw [hn0]
         exact hnn
        ·go_wp2_with fail
         go_ret2
         have hc0:cc=5:=by rw [HC.out.1,HR.out.2.2.2.1];rfl
         have hn0:nl=[]:=by rw [HC.out.2,if_neg (by rw [hc0];decide)]
         rw [HR.out.2.2.2.1]
         subst hc0
         refine ⟨_,rfl,?_,hwr⟩
         rw [hn0]
         exact OwnN.nil _ _
theorem r4alike_spec [bn:Inhabited Ban] {base:Nat} {w:World} {c:Int} {u v:Value} {l:Qs} (hu:Qv base w u l) (hv:Qv base w v l) :
  Calls Tryz.prog 79 #[.agg #[.int .i64 c,u],.agg #[.int .i64 c,v]] w fun e w'=>e=.returned (.bool true)/\Keep No w w':=by
 obtain ⟨uo,uc,rfl⟩:=hu.form
 obtain ⟨vo,vc,rfl⟩:=hv.form
 have k2:Keep No w ((w.alloc (.cells #[.int .i64 c,.slice uo l.length uc] 173)).alloc (.cells #[.int .i64 c,.slice vo l.length vc] 173)):=((Keep.refl _ _).alloc _).alloc _
 have hs:=r1same_spec (hu.no k2) (hv.no k2)
 rw [show (l==l)=true from by simp] at hs
 clear hu hv
 go_enter Tryz.func79,Tryz.ntmps79
 go_wp2_with fail
 refine hs.mono ?_
 rintro e w1 ⟨rfl,k1⟩
 go_wp2_with fail
 go_ret
 exact ⟨rfl,k2.then k1⟩
theorem likeRecs_spec [bn:Inhabited Ban] {base:Nat} {w:World} {lv mv:Value} {l:List RecS} (hl:Yi base w lv l) (hm:Hy base w mv l) :
  Calls Tryz.prog 75 #[lv,mv] w fun e w'=>e=.returned (.bool true)/\Keep No w w':=by
 obtain ⟨lo,lc,rfl,h1,h2⟩:=hl.form
 obtain ⟨mo,mc,rfl,_,_⟩:=BRow.form hm
 have hlm:(l.length:Int)<=9223372036854775807:=by unfold maxLen at h2;omega
 have HH:=Lib.hid (A2 hl hm)
 clear hl hm h1 h2
 go_enter Tryz.func75,Tryz.ntmps75
 go_wp2_with fail
 go_loopw [14] (fun v14 wr=>∃ k,v14=.int .i64 (k:Nat)/\k<=l.length/\Keep No w wr) (fun v14 _=>l.length - (intOf v14).toNat)
 case atStart=>exact ⟨0,rfl,Nat.zero_le _,Keep.refl _ _⟩
 case round =>
  obtain ⟨k,rfl,hk,kr⟩:=hrel
  by_cases hlt:k<l.length
  ·have hx:l[k]?=some l[k]:=List.getElem?_eq_getElem hlt
   generalize l[k]=z at hx
   obtain ⟨ag,au,hag,hau,a0,a1,a2,a3⟩:=(Yi.keep HH.out.1 (Foot.no _ _) kr (fun _ _ e=>e)).cell hx
   obtain ⟨bg,bu,hbg,hbu,_,_,hcs⟩:=BRow.at' (BRow.no HH.out.2 kr) (fun _ _=>rfl) hx
   have b0:=hcs 0 _ rfl
   rw [Nat.add_zero] at b0
   have b1:=hcs 1 _ rfl
   have b2:=hcs 2 _ rfl
   have b3:=hcs 3 _ rfl
   obtain ⟨ao,ac,rfl⟩:=hau.form
   obtain ⟨bo,bc,rfl⟩:=hbu.form
   subst hag
   subst hbg
   have hki:(k:Int)<(l.length:Int):=by omega
   have hkw:IntKind.i64.wrap ((k:Int)+1)=((k+1:Nat):Int):=by rw [IntKind.wrap_i64];omega
   obtain ⟨W,hW⟩:∃ W,W=wr.alloc (.cells #[.int .i64 z.who,.int .u64 z.n,.int .i64 z.s.c,.slice ao z.s.body.length ac] 63):=⟨_,rfl⟩
   have kW:Keep No wr W:=by rw [hW];exact (Keep.refl _ _).alloc _
   have hA:W.heap[wr.heap.size]?=some (.cells #[.int .i64 z.who,.int .u64 z.n,.int .i64 z.s.c,.slice ao z.s.body.length ac] 63 (0,0)):=by rw [hW];exact Qy _ _
   have c0:=Qq hA 0
   have c1:=Qq hA 1
   have c2:=Qq hA 2
   have c3:=Qq hA 3
   simp at c0 c1 c2 c3
   have d0:=kW.cell b0 (fun e=>e)
   have d1:=kW.cell b1 (fun e=>e)
   have d2:=kW.cell b2 (fun e=>e)
   have d3:=kW.cell b3 (fun e=>e)
   have hsm:=fun (X:World) (kX:Keep No W X)=>r4alike_spec (c:=z.s.c) ((hau.no kW).no kX) ((hbu.no kW).no kX)
   have HR:=Lib.hid (A4 kr hlt kW hsm)
   clear kr hlt kW hsm hA hau hbu hcs hx hk b0 b1 b2 b3
   go_upto_region 6 with fail
   rw [<- hW]
   clear hW
   have kd:Keep No W W.drew:=(Keep.refl _ _).drew
   refine Vr (fun w'=>Keep No W w') [([0,1,2,3,4,5,6,7,8,9],[]),([10,11,12,13,14,15,16,17,18,19,20],[]),([21,22,23,24,25,26,27],[28]),([29],[30])] (by kernel_rfl) (by kernel_rfl) (fun _ _ _ _ _ h=>h) kd ?_
   iterate 10 (refine Qk (v:=?_) rfl rfl rfl ?_ ?_;rotate_left;focus (
    intro w' hS
    have f0:=hS.cell c0 (fun e=>e)
    have f1:=hS.cell d0 (fun e=>e)
    go_simp
    try with_reducible rfl))
   refine Qj (Qh ?_)
   iterate 11 (refine Qe (v:=?_) rfl rfl (by first | kernel_rfl | simp [Region.wanted,yielded,Act.put,undef]) ?_ ?_;rotate_left;focus (
    intro w' hS
    have f0:=hS.cell c1 (fun e=>e)
    have f1:=hS.cell d1 (fun e=>e)
    go_simp
    try with_reducible rfl))
   refine Qj (Qh ?_)
   iterate 7 (refine Qe (v:=?_) rfl rfl (by first | kernel_rfl | simp [Region.wanted,yielded,Act.put,undef]) ?_ ?_;rotate_left;focus (
    intro w' hS
    have f0:=hS.cell c2 (fun e=>e)
    have f1:=hS.cell d2 (fun e=>e)
    have f2:=hS.cell c3 (fun e=>e)
    have f3:=hS.cell d3 (fun e=>e)
    go_simp
    try with_reducible rfl))
   refine Qj ?_
   refine Za rfl (by first | kernel_rfl | simp [Region.wanted,yielded,Act.put,undef]) (fun K hK=>?_)
   go_simp
   refine (HR.out.2.2.2 _ kd).mono ?_
   rintro e w3 ⟨rfl,k3⟩
   have k13:=kd.then k3
   refine hK _ _ k13 ?_
   clear hK K
   refine Qh ?_
   refine Qe (v:=?_) rfl rfl (by first | kernel_rfl | simp [Region.wanted,yielded,Act.put,undef]) ?_ ?_
   rotate_left
   focus (
    intro w' hS
    go_simp
    try with_reducible rfl)
   refine Qj ?_
   refine Qx rfl rfl (fun K hK=>?_)
   go_simp
   refine hK _ _ k13 ?_
   clear hK K
   refine Qh ?_
   have HX:=Lib.hid ((HR.out.1.then HR.out.2.2.1).then k13)
   clear k13 k3 kd c0 c1 c2 c3 d0 d1 d2 d3
   show wpList _ _ _ [] _ _
   go_wp2_with fail
   go_roundw
   case rel=>exact ⟨k+1,by congr 1,by have:=HR.out.2.1;omega,HX.out⟩
   case measure=>have:=HR.out.2.1;simp [intOf];omega
  ·have hke:k=l.length:=by omega
   have hki:¬(k:Int)<(l.length:Int):=by omega
   have HR:=Lib.hid kr
   clear kr hk hlt hke
   go_wp2_with fail
   go_ret
   exact ⟨rfl,HR.out⟩
theorem own16_spec [bn:Inhabited Ban] {base B:Nat} {w:World} {iv:Value} {l:List Qc} (h:Xr base w B iv l) (hl:l.length<=1048576) (hb:base<=w.heap.size) :
  Calls Tryz.prog 73 #[iv] w fun e w'=>∃ v',e=.returned v'/\Gs base w' v' l/\Keep No w w':=by
 obtain ⟨io,ic,rfl,_,_⟩:=h.form
 have h20:(l.length:Int)<=1048576:=by omega
 have HH:=Lib.hid (A3 h hl hb)
 clear h hl hb
 go_enter Tryz.func73,Tryz.ntmps73
 go_wp2_with fail
 go_loopw [3,8] (fun v3 v8 wr=>∃ k,v8=.int .i64 (k:Nat)/\k<=l.length/\Gs base wr v3 (l.take k)/\(∀ b,v3.ownBlock=some b->w.heap.size<=b)/\Keep No w wr) (fun _ v8 _=>l.length - (intOf v8).toNat)
 case atStart=>exact ⟨0,rfl,Nat.zero_le _,BRow.nil _ _ _ _ _ _,fun b e=>by simp [Value.ownBlock] at e,Keep.refl _ _⟩
 case round =>
  obtain ⟨k,rfl,hk,hd,hown,kr⟩:=hrel
  obtain ⟨o3,c3,rfl,_,_⟩:=BRow.form hd
  obtain ⟨t,ht⟩:∃ t,t=l.take k:=⟨_,rfl⟩
  rw [<- ht] at hd hown ⊢
  by_cases hlt:k<l.length
  ·have hx:l[k]?=some l[k]:=List.getElem?_eq_getElem hlt
   have htake:l.take (k+1)=l.take k++[l[k]]:=List.take_succ_eq_append_getElem hlt
   rw [<- ht] at htake
   generalize l[k]=z at hx htake
   obtain ⟨gi,ui,hgi,hub,e0,e1,e2⟩:=(HH.out.1.no kr).cell hx
   obtain ⟨uo,uc,rfl⟩:=hub.form
   subst hgi
   have hki:(k:Int)<(l.length:Int):=by omega
   obtain ⟨W,hW⟩:∃ W,W=wr.alloc (.cells #[.int .u64 z.n,.int .i64 z.s.c,.slice uo z.s.body.length uc] 111):=⟨_,rfl⟩
   have kW:Keep No wr W:=by rw [hW];exact (Keep.refl _ _).alloc _
   have hA:W.heap[wr.heap.size]?=some (.cells #[.int .u64 z.n,.int .i64 z.s.c,.slice uo z.s.body.length uc] 111 (0,0)):=by rw [hW];exact Qy _ _
   have c0:=Qq hA 0
   have c1:=Qq hA 1
   have c2:=Qq hA 2
   simp at c0 c1 c2
   have kA:=(Keep.refl No W).alloc (.cells #[.int .u64 z.n,.int .i64 z.s.c,.slice uo z.s.body.length uc] 206)
   have hnew:=Qy W (.cells #[.int .u64 z.n,.int .i64 z.s.c,.slice uo z.s.body.length uc] 206)
   have htl:t.length<=1048576:=by rw [ht,List.length_take];have:=HH.out.2.1;omega
   have hsz:w.heap.size<=(W.alloc (.cells #[.int .u64 z.n,.int .i64 z.s.c,.slice uo z.s.body.length uc] 206)).heap.size:=(kr.then (kW.then kA)).size
   have HR:=Lib.hid (A9 (BRow.no hd (kW.then kA)) hown (kr.then (kW.then kA)) hnew (hub.no (kW.then kA)) htl hsz hlt htake)
   clear hd hown kr hnew hub htl hsz hlt htake hx hk kW kA hA ht
   go_upto_region 5 with fail
   rw [<- hW]
   clear hW e0 e1 e2
   go_wp2_with (at_builtin;refine wpList_append_brow rfl _ _ _ rfl rfl info_dit rfl (by decide) (by decide) (by decide) HR.out.1 rfl HR.out.2.2.2.1 rfl (fun q hq=>by simp [ditCell] at hq;rcases hq with rfl | rfl | rfl <;> rfl) rfl rfl HR.out.2.2.2.2.1 (by have:=HR.out.2.2.2.2.2.1;omega) (by have:=HR.out.2.2.2.2.2.2.1;have:=HH.out.2.2;omega) (B:=w.heap.size) HH.out.2.2 HR.out.2.1 HR.out.2.2.2.2.2.2.1 ?_;intro vo6 vc6 w6 hits6 hown6 k6)
   go_roundw
   case rel=>exact ⟨k+1,by congr 1,by have:=HR.out.2.2.2.2.2.2.2.1;omega,by rw [HR.out.2.2.2.2.2.2.2.2];exact hits6,hown6,HR.out.2.2.1.absorb k6 (fun c e=>HR.out.2.1 c e)⟩
   case measure=>have:=HR.out.2.2.2.2.2.2.2.1;simp [intOf];omega
  ·have hke:k=l.length:=by omega
   have hki:¬(k:Int)<(l.length:Int):=by omega
   have htl:t=l:=by rw [ht,hke,List.take_of_length_le (Nat.le_refl _)]
   have HR:=Lib.hid (A3 hd kr htl)
   clear hd hown kr hk hlt hke ht htl
   go_wp2_with fail
   go_ret
   obtain ⟨hd,kr,rfl⟩:=HR.out
   exact ⟨_,rfl,hd,kr⟩
end Go.Proofs.YtfdmbomlkpkegaaGreat
