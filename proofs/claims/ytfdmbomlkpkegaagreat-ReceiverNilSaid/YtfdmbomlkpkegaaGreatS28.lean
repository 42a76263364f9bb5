/- Lemmas for ReceiverNil. -/
import Derived.Test.YtfdmbomlkpkegaaGreatS27
set_option maxRecDepth 100000
set_option maxHeartbeats 8000000
set_option linter.all false
namespace Go.Proofs.YtfdmbomlkpkegaaGreat
open Go Go.RowKit Go.Dr
def putC (c:Int):Option LRec->Int
 | none=>0
 | some _=>c
def PutG [bn:Inhabited Ban] (base:Nat) (w:World) (q g m p width:Nat) (size:Int) (ss:List SegL) (ts:List LRec) (d:Qr) (L:LedS) (F:Nat->Prop) (w':World):Option LRec->Prop
 | none=>Keep No w w'
 | some _=>Ga base w q g m p width size ss ts d L F w'
theorem Sb [bn:Inhabited Ban] {base B0:Nat} {w:World} {q g m p n s width a b:Nat} {lv wv sgv rlv iv:Value} {size:Int} {ss ss':List SegL} {ts ts':List LRec} {d d':Qr} {L L':LedS} {l:List Qc} {c:Int} {j:Nat} {lc:List Qf}
  (h:Zc base w q g m lv p n s wv sgv rlv width size ss ts d L) (hgd:Good j lc ss) (hj:j<=1000) (hsm:Ur d) (ha:a<16) (hits:Xr base w B0 iv l) (hr:Yv b l=true) (hl8:l.length<=8) (hbl:∀ x∈l,x.s.body.length<=40) (hrec:L.recs.length<=1073741824)
  (hb:base<=w.heap.size) (hT:ban.top<=w.heap.size) (hwr:∀ r,L.putR a b l=some r->Ha c size ss ts d L r ss' ts' d' L') :
  Calls Tryz.prog 24 #[.pointer (some ⟨q,0,none⟩),.int .i64 a,.int .u64 b,iv] w fun e w' =>
   ∃ tv,e=.returned (.tuple #[tv,.int .i64 (putC c (L.putR a b l))])/\OwnN w' w.heap.size tv (if putC c (L.putR a b l)=0 then (pick ((L.win a).skip b) l).map (·.n) else [])/\PutG base w q g m p width size ss' ts' d' L' (Qi q g m lv p n s wv sgv rlv) w' (L.putR a b l):=by
 obtain ⟨io,ic,rfl,_,_⟩:=hits.form
 obtain ⟨x,hx,hxo,hxw,_⟩:=h.ok.at ha
 obtain ⟨ns,_,hns,_,_,a1,a2,a3,_⟩:=h.led.agCell hx
 obtain ⟨no,nc,rfl,_,_⟩:=hns.form
 obtain ⟨hright,hb61⟩:=(Jm b l).1 hr
 have hag:=Vj (w:=w) q a ha
 have hrg:=gRight_spec b hits (by omega) (fun x hx=>by have:=hbl x hx;omega)
 rw [hr] at hrg
 obtain ⟨y,hy⟩:∃ y,y=x.now.skip b:=⟨_,rfl⟩
 have hyf:=hxo.fine.skip (b:=b) (by omega)
 rw [<- hy] at hyf
 have hskp:=fun (X:World) (kX:Keep No w X)=>wSkip_spec (w:=X) (u:=.agg #[.int .u64 x.now.low,.int .u64 x.now.width,.slice no x.now.set.length nc]) (x:=x.now) ⟨_,rfl,hns.no kX⟩ hxo.now.pre (fun r hr=>by have:=hxo.below _ (hxo.now.set.last hr);omega) b (by omega)
 rw [<- hy] at hskp
 rw [hxw,<- hy]
 obtain ⟨pr,hpr⟩:∃ pr,pr=L.putR a b l:=⟨_,rfl⟩
 rw [<- hpr]
 have hprd:pr=if pick y l=[]/\y=x.now then none else some (.put a b (pick y l)):=by rw [hpr];unfold LedS.putR;rw [hxw,<- hy]
 have hcan:∀ r,pr=some r->L.can r:=fun r e=>LedS.putR_can ha hr (by omega) (by rw [<- hpr];exact e)
 obtain ⟨cc,hcc⟩:∃ cc,cc=putC c pr:=⟨_,rfl⟩
 obtain ⟨nl,hnl⟩:∃ nl:List Nat,nl=if cc=0 then (pick y l).map (·.n) else []:=⟨_,rfl⟩
 rw [<- hcc,<- hnl]
 have HCC:=Lib.hid (A2 hcc hnl)
 clear hcc hnl
 have hai:(a:Int)<16:=by omega
 have hlen8:(l.length:Int)<=8:=by omega
 have HH:=Lib.hid (A9 h hits (A3 hgd hj hsm) hrec hb hT (show ∀ r,pr=some r->Ha c size ss ts d L r ss' ts' d' L' from fun r e=>hwr r (by rw [<- hpr];exact e)) hprd hcan)
 have HP:=Lib.hid (A8 hyf hright hb61 hl8 hbl hns hxo ha)
 clear h hits hr hl8 hbl hgd hj hsm hrec hb hT hwr hprd hcan hpr hyf hright hb61 hns hxo hx hxw hy ha
 go_enter Tryz.func24,Tryz.ntmps24
 go_upto_region 7 with (first
  | (go_at_call 64;refine (hskp _ k1).mono ?_;rintro e w2 ⟨u2,rfl,hw2,k2⟩;obtain ⟨o2,c2,rfl,hr2⟩:=hw2.form)
  | (go_at_call 63;refine hrg.mono ?_;rintro e w1 ⟨rfl,k1⟩;have b1:=k1.cell a1 (fun e=>e);have b2:=k1.cell a2 (fun e=>e);have b3:=k1.cell a3 (fun e=>e))
  | (go_at_call 61;refine hag.mono ?_;rintro e w0 ⟨rfl,hw0⟩;have hw0:=hw0.symm;subst hw0))
 clear hag hrg hskp
 have kA:=(Keep.refl No w2).alloc (.cells #[.int .u64 y.low,.int .u64 y.width,.slice o2 y.set.length c2] 92)
 have hA:=Qy w2 (.cells #[.int .u64 y.low,.int .u64 y.width,.slice o2 y.set.length c2] 92)
 obtain ⟨W3,hW3⟩:∃ W3,W3=w2.alloc (.cells #[.int .u64 y.low,.int .u64 y.width,.slice o2 y.set.length c2] 92):=⟨_,rfl⟩
 rw [<- hW3] at kA hA ⊢
 obtain ⟨b11,hb11⟩:∃ b11,b11=w2.heap.size:=⟨_,rfl⟩
 rw [<- hb11] at hA ⊢
 have k123:Keep No w W3:=(k1.then k2).then kA
 have hbx:Xf W3 b11 y:=⟨o2,c2,hA,hr2.no kA⟩
 have hnew:w.heap.size<=b11:=by rw [hb11];exact Nat.le_trans k1.size k2.size
 have d0:=Qq hA 0
 have d1:=Qq hA 1
 have d2:=Qq hA 2
 simp at d0 d1 d2
 have a1:=k123.cell a1 (fun e=>e)
 have a2:=k123.cell a2 (fun e=>e)
 have a3:=k123.cell a3 (fun e=>e)
 have hsm:=fun (X:World) (kX:Keep No W3 X)=>wSame_spec (w:=X) (ua:=.agg #[.int .u64 y.low,.int .u64 y.width,.slice o2 y.set.length c2]) (ub:=.agg #[.int .u64 x.now.low,.int .u64 x.now.width,.slice no x.now.set.length nc]) (x:=y) (y:=x.now) ⟨_,rfl,(hr2.no kA).no kX⟩ ⟨_,rfl,(HP.out.2.2.2.2.2.1.no k123).no kX⟩ HP.out.1.ok.few HP.out.2.2.2.2.2.2.1.now.few
 obtain ⟨sm,hsme⟩:∃ sm,sm=decide (y=x.now):=⟨_,rfl⟩
 rw [<- hsme] at hsm
 have HA:=Lib.hid (A5 k123 hbx hnew hsm hsme)
 clear hW3 hb11 k123 hbx hnew hsm hsme k1 k2 kA hA hr2 hw2 b1 b2 b3
 have kd:Keep No W3 W3.drew:=(Keep.refl _ _).drew
 refine Ql (fun w'=>Keep No W3 w') [0,1,2,3,4] [5,6,7] [] (by kernel_rfl) (by kernel_rfl) (fun _ _ _ _ _ h=>h) kd ?_
 iterate 5 (refine Qk (v:=?_) rfl rfl rfl ?_ ?_;rotate_left;focus (
  intro w' hS
  have f0:=hS.cell d0 (fun e=>e)
  have f1:=hS.cell d1 (fun e=>e)
  have f2:=hS.cell d2 (fun e=>e)
  have g1:=hS.cell a1 (fun e=>e)
  have g2:=hS.cell a2 (fun e=>e)
  have g3:=hS.cell a3 (fun e=>e)
  go_simp
  try with_reducible rfl))
 refine Qj (Qx rfl rfl (fun K hK=>?_))
 go_simp
 refine (HA.out.2.2.2.1 _ kd).mono ?_
 rintro e w4 ⟨rfl,k4⟩
 have k34:=kd.then k4
 refine hK _ _ k34 ?_
 clear hK K
 refine Qx rfl rfl (fun K hK=>?_)
 go_simp
 refine hK _ _ k34 ?_
 clear hK K
 refine Qx rfl rfl (fun K hK=>?_)
 go_simp
 refine hK _ _ k34 ?_
 clear hK K
 refine Qh (Qm ?_)
 have hT0:Rk w w4 b11 (.slice none 0 0) (.slice none 0 0) y []:=⟨OwnN.nil _ _,OwnB.nil _ _,HA.out.2.1.keep (Zn.no _) k34 (fun e=>e),HA.out.1.then k34,HA.out.2.2.1⟩
 have HT0:=Lib.hid hT0
 clear hT0 k4 k34 kd d0 d1 d2 a1 a2 a3
 go_wp2_with fail
 go_loopw [13,14,49] (fun v13 v14 v49 wr=>∃ k,v49=.int .i64 (k:Nat)/\k<=l.length/\Rk w wr b11 v13 v14 y (pick y (l.take k))) (fun _ _ v49 _=>l.length - (intOf v49).toNat)
 case atStart=>exact ⟨0,rfl,Nat.zero_le _,HT0.out⟩
 case round =>
  obtain ⟨k,rfl,hk,htk⟩:=hrel
  obtain ⟨t,ht⟩:∃ t,t=pick y (l.take k):=⟨_,rfl⟩
  rw [<- ht] at htk
  obtain ⟨to',tc,hto,htc1,htc2⟩:=htk.nums.form
  obtain ⟨po,pc,hpo⟩:=htk.bytes.form
  subst hto hpo
  by_cases hlt:k<l.length
  ·have hx:l[k]?=some l[k]:=List.getElem?_eq_getElem hlt
   have htake:l.take (k+1)=l.take k++[l[k]]:=List.take_succ_eq_append_getElem hlt
   generalize l[k]=z at hx htake
   have hzm:=List.mem_of_getElem? hx
   have hzr:=HP.out.2.1 z hzm
   have hzb:=HP.out.2.2.2.2.1 z hzm
   have htsub:t.length<=8/\∀ x∈t,x.Right/\x.s.body.length<=40:=by
    rw [ht]
    have hs:=(Xi y (l.take k)).trans (List.take_sublist k l)
    exact ⟨Nat.le_trans hs.length_le HP.out.2.2.2.1,fun x hx=>⟨HP.out.2.1 x (hs.subset hx),HP.out.2.2.2.2.1 x (hs.subset hx)⟩⟩
   have hsn:=Uw y (l.take k) z
   rw [<- htake,<- ht] at hsn
   obtain ⟨gi,ui,hgi,hub,e0,e1,e2⟩:=(HH.out.2.1.no htk.k).cell hx
   obtain ⟨uo,uc,rfl⟩:=hub.form
   subst hgi
   have hki:(k:Int)<(l.length:Int):=by omega
   have hfine:(y.putAll t).Fine width:=HP.out.1.putAll (fun x hx=>(htsub.2 x hx).1.1)
   obtain ⟨T,hTe⟩:∃ T,T=y.putAll t:=⟨_,rfl⟩
   have hbox:=htk.box
   rw [<- hTe] at hsn hfine hbox
   obtain ⟨bo,bc,b0,b1,b2,_,hv⟩:=hbox.cells
   have kA:=(Keep.refl No wr).alloc (.cells #[.int .u64 z.n,.int .i64 z.s.c,.slice uo z.s.body.length uc] 111)
   have b0A:=fun o=>((Keep.refl No wr).alloc o).cell b0 (fun e=>e)
   have b1A:=fun o=>((Keep.refl No wr).alloc o).cell b1 (fun e=>e)
   have b2A:=fun o=>((Keep.refl No wr).alloc o).cell b2 (fun e=>e)
   have hnewA:=Qy wr (.cells #[.int .u64 z.n,.int .i64 z.s.c,.slice uo z.s.body.length uc] 111)
   have hb11:=hbox.lt
   have htks:=wTakes_spec (hv.no kA) hfine.ok.pre z.n
   have htlen:(t.map (·.n)).length=t.length:=by simp
   rw [htlen] at htk ⊢
   cases htt:T.takes z.n
   ·rw [htt] at htks hsn
    have hsn:pick y (l.take (k+1))=t:=by rw [hsn];simp
    have HR:=Lib.hid (A3 (htk.no kA) hlt hsn)
    clear htk hlt hsn hx htake hzm hzr hzb htsub hub hfine hTe hbox hv kA hnewA hb11 htt ht hk htlen
    go_wp2_with (go_at_call 65;refine htks.mono ?_;rintro e w6 ⟨rfl,k6⟩)
    go_roundw
    case rel=>exact ⟨k+1,by congr 1,by have:=HR.out.2.1;omega,by rw [HR.out.2.2];exact HR.out.1.no k6⟩
    case measure=>have:=HR.out.2.1;simp [intOf];omega
   ·rw [htt] at htks hsn
    have hsn:pick y (l.take (k+1))=t++[z]:=by rw [hsn];simp
    have hput:=fun (w':World) (k:Keep No (wr.alloc (.cells #[.int .u64 z.n,.int .i64 z.s.c,.slice uo z.s.body.length uc] 111)) w')=>wPut_spec ((hv.no kA).no k) hfine.ok z.n (by have:=hzr.1;omega)
    have hTn:(y.putAll (t++[z]))=T.put z.n:=by rw [Kq,<- hTe];rfl
    have HR:=Lib.hid (A12 (htk.no kA) hlt hsn (hbox.keep (Zn.no _) kA (fun e=>e)) hnewA ((hub.no kA)) hzr hzb htsub hTn hput hb11)
    clear htk hlt hsn hx htake hzm hzr hzb htsub hub hfine hTe hbox hv kA hnewA hb11 htt ht hk htlen hput hTn
    go_wp2_with (go_at_call 65;refine htks.mono ?_;rintro e w6 ⟨rfl,k6⟩;have p0:=k6.cell (b0A _) (fun e=>e);have p1:=k6.cell (b1A _) (fun e=>e);have p2:=k6.cell (b2A _) (fun e=>e);have hn6:=k6.heap HR.out.2.2.2.2.1 (fun e=>e);have n0:=Qq hn6 0;simp at n0)
    refine (HR.out.2.2.2.2.2.2.2.2.2.2.1 w6 k6).mono ?_
    rintro e w7 ⟨u7,rfl,hv7,k7⟩
    obtain ⟨o7,c7,rfl,hr7⟩:=hv7.form
    have k67:=k6.then k7
    have hb7:=HR.out.2.2.2.1.keep (Zn.no _) k67 (fun e=>e)
    obtain ⟨_,_,q0,q1,q2,fq,_⟩:=hb7.cells
    obtain ⟨hst,kst⟩:=hb7.store hr7
    obtain ⟨Z,hZ⟩:∃ Z,((w7.setCell ⟨b11,0,none⟩ (.int .u64 (T.put z.n).low)).setCell ⟨b11,1,none⟩ (.int .u64 (T.put z.n).width)).setCell ⟨b11,2,none⟩ (.slice o7 (T.put z.n).set.length c7)=Z:=⟨_,rfl⟩
    rw [hZ] at hst kst
    have hb11:=HR.out.2.2.2.2.2.2.2.2.2.2.2
    have hnZ:=kst.heap (k67.heap HR.out.2.2.2.2.1 (fun e=>e)) (show ¬wr.heap.size=b11 by omega)
    obtain ⟨hnums,hbytes,kZ⟩:=(HR.out.1.no k67).box2 hst kst
    have hubZ:=(HR.out.2.2.2.2.2.1.no k67).keep (hb7.foot (Nat.le_trans HH.out.2.2.2.2.1 HR.out.1.new)) kst
    have z0:=Qq hnZ 0
    have z1:=Qq hnZ 1
    have z2:=Qq hnZ 2
    simp at z0 z1 z2
    have kN:=(Keep.refl No Z).alloc (.cells #[.int .u64 z.n] 27)
    have hN:=Qy Z (.cells #[.int .u64 z.n] 27)
    have hszZ:=kZ.size
    have HZ:=Lib.hid (A9 hst (hnums.keep kN (fun _ _ e=>e)) (hbytes.keep kN (fun _ _ e=>e)) (kZ.then kN) (hubZ.no kN) hN (kN.heap hnZ (fun e=>e)) kN hszZ)
    clear hst kst hnZ hnums hbytes kZ hubZ kN hN hszZ hb7 hv7 hr7 k67 k7 hn6
    have hkd:=HZ.out.2.1.kind
    go_wp2_with (first
     | (go_at_call 67;refine hput8.mono ?_;rintro e w9 ⟨v9,rfl,own9,k9⟩;obtain ⟨o9,c9,rfl⟩:=own9.form)
     | (at_builtin;refine wpList_append_num rfl _ _ rfl HZ.out.2.1 rfl HZ.out.2.2.2.2.2.1 rfl (by have:=HR.out.2.2.2.2.2.2.2.2.1.1;simp;omega) HZ.out.2.2.2.1.size ?_;intro vo8 vc8 w8 hn8 k8;have hit8:=k8.heap HZ.out.2.2.2.2.2.2.1 (fun e=>by obtain ⟨_,cur,hz⟩:=hkd _ e;have:=HZ.out.2.2.2.2.2.2.1;rw [hz] at this;simp at this);have s0:=Qq hit8 0;have s1:=Qq hit8 1;have s2:=Qq hit8 2;simp at s0 s1 s2;have hF8:Foot base (Z.alloc (.cells #[.int .u64 z.n] 27)) (fun b=>(Value.slice to' t.length tc).ownBlock=some b):=(fun c hc=>by obtain ⟨h1,cur,hz⟩:=hkd c hc;exact ⟨Nat.le_trans HH.out.2.2.2.2.1 h1,Qt hz,fun cs fr e=>by rw [hz] at e;simp at e⟩);have hub8:=HZ.out.2.2.2.2.1.keep hF8 k8;have hby8:=HZ.out.2.2.1.keep k8 (fun c hc e=>by obtain ⟨_,cur,hz⟩:=hkd c e;obtain ⟨_,cur2,hz2⟩:=Qa HZ.out.2.2.1 c hc;rw [hz] at hz2;simp at hz2);have hsz8:=HZ.out.2.2.2.1.size;have hsz9:=k8.size;have hput8:=tPut_spec (w:=w8) (i:=z) (Nat.le_trans HH.out.2.2.2.2.2.1 (Nat.le_trans hsz8 hsz9)) hub8 (hby8.bytes (base:=0) (fun _=>HH.out.2.2.2.2.2.1)) (by have:=HR.out.2.2.2.2.2.2.1.1;omega) (by have h1:=HR.out.2.2.2.2.2.2.2.2.1;have h2:=Vo h1.2;omega) (by have:=HR.out.2.2.2.2.2.2.2.1;omega)))
    go_roundw
    case rel =>
     have hF8R:Zn (Z.alloc (.cells #[.int .u64 z.n] 27)) (fun b=>(Value.slice to' t.length tc).ownBlock=some b):=fun c hc hr=>by
      obtain ⟨h1,cur,hz⟩:=hkd c hc
      obtain ⟨cs,fr,e⟩:=hr
      rw [hz] at e;simp at e
     have hbxN:=HZ.out.1.keep (Zn.no _) HZ.out.2.2.2.2.2.2.2.1 (fun e=>e)
     have hbx8:=hbxN.keep hF8R k8 (fun e=>by
      obtain ⟨_,cur,hz⟩:=hkd _ e
      obtain ⟨_,_,hz2,_⟩:=hbxN
      rw [hz] at hz2;simp at hz2)
     refine ⟨k+1,by congr 1,by have:=HR.out.2.1;omega,?_⟩
     rw [HR.out.2.2.1]
     refine ⟨?_,?_,?_,?_,HR.out.1.new⟩
     ·have h8:=hn8.keep k9 (fun _ _ e=>e)
      rw [List.length_map] at h8
      rw [List.map_append]
      exact h8
     ·have e:Qb (t++[z])=Qb t++z.bytes:=by simp [Qb]
      have h9:=own9.mono (Nat.le_trans hsz8 hsz9)
      rw [List.length_append] at h9
      rw [e]
      exact h9
     ·rw [HR.out.2.2.2.2.2.2.2.2.2.1]
      exact hbx8.keep (Zn.no _) k9 (fun e=>e)
     ·exact (HZ.out.2.2.2.1.trans k8 (fun c hc e=>by have:=(hkd c e).1;omega)).then k9
    case measure=>have:=HR.out.2.1;simp [intOf];omega
  ·have hke:k=l.length:=by omega
   have hki:¬(k:Int)<(l.length:Int):=by omega
   have htl:t=pick y l:=by rw [ht,hke,List.take_of_length_le (Nat.le_refl _)]
   have htlen:(t.map (·.n)).length=t.length:=by simp
   have hts8:t.length<=8/\∀ x∈t,x.Right/\x.s.body.length<=40:=by
    rw [htl]
    have hs:=Xi y l
    exact ⟨Nat.le_trans hs.length_le HP.out.2.2.2.1,fun x hx=>⟨HP.out.2.1 x (hs.subset hx),HP.out.2.2.2.2.1 x (hs.subset hx)⟩⟩
   rw [htlen] at htk ⊢
   have hprt:=HH.out.2.2.2.2.2.2.2.1
   rw [<- htl] at hprt
   have hsme:=HA.out.2.2.2.2
   by_cases hnone:t=[]/\y=x.now
   ·obtain ⟨h1,h2⟩:=hnone
    have hpn:pr=none:=by rw [hprt,if_pos ⟨h1,h2⟩]
    obtain rfl:sm=true:=by rw [hsme];simp [h2]
    have HR:=Lib.hid (A4 htk hpn htl h1)
    have h1l:((t.length:Nat):Int)=0:=by rw [h1];rfl
    have h1e:(((t.length:Nat):Int)==0)=true:=by rw [h1l];rfl
    clear htk hpn htl h1 h2 hprt hsme hke hlt hk ht hts8 htlen h1l
    go_wp2_with fail
    go_ret2
    have hc0:cc=0:=by rw [HCC.out.1,HR.out.2.1];rfl
    have hn0:nl=[]:=by rw [HCC.out.2,if_pos hc0,<- HR.out.2.2.1,HR.out.2.2.2];rfl
    subst hc0
    refine ⟨.slice none 0 0,rfl,?_,?_⟩
    ·rw [hn0];exact OwnN.nil _ _
    ·rw [HR.out.2.1];exact HR.out.1.k
   ·have hps:pr=some (.put a b t):=by rw [hprt,if_neg hnone]
    have hroom:=HH.out.2.2.2.2.2.2.1
    have hcn:=HH.out.2.2.2.2.2.2.2.2
    rw [hps] at hroom hcn
    have hdec:(((t.length:Nat):Int)==0)=false\/((((t.length:Nat):Int)==0)=true/\sm=false):=by
     by_cases h0:t=[]
     ·right
      refine ⟨by rw [h0];rfl,?_⟩
      rw [hsme]
      simp
      exact fun e=>hnone ⟨h0,e⟩
     ·left
      have:=List.length_pos_iff.2 h0
      simp
      omega
    have hb61:=HP.out.2.2.1
    have ha16:=HP.out.2.2.2.2.2.2.2
    have hrlen:(LRec.put a b t).bytes.length<=600:=by
     have h1:=Vo hts8.2
     have h2:=Qp (n:=a) (by omega)
     have h3:=Qp (n:=b) (by omega)
     have h4:=Qp (n:=t.length) (by omega)
     simp only [LRec.bytes,List.length_cons,List.length_append]
     omega
    have HR:=Lib.hid (A9 htk hroom hcn hps htl hts8 hb61 ha16 hrlen)
    clear htk hroom hcn hps htl hts8 hprt hsme hke hlt hk ht htlen hb61 ha16 hrlen hnone
    have htli:((t.length:Nat):Int)<=8:=by have:=HR.out.2.2.2.2.2.1.1;omega
    rcases hdec with h0 | ⟨h0,rfl⟩
    ·go_wp2_with fail
     refine (Xk (bn:=Xl) (Vq wr 3 (by decide)) a (by have:=HR.out.2.2.2.2.2.2.2.1;omega) (by simp)).mono ?_
     rintro e u2 ⟨x2,rfl,own2,k2⟩
     have hl2:([UInt8.ofNat 3]++numB a).length<=11:=by have:=Qp (n:=a) (by have:=HR.out.2.2.2.2.2.2.2.1;omega);simp;omega
     obtain ⟨o2,c2,rfl⟩:=own2.form
     generalize hg2:[UInt8.ofNat 3]++numB a=g2 at own2 hl2 ⊢
     have H2:=Lib.hid (A4 own2 k2 hg2 hl2)
     clear own2 k2 hg2 hl2
     go_wp2_with fail
     refine (Xk (bn:=Xl) (H2.out.1.bytes (bn:=Xl) (base:=0) (fun _=>Nat.zero_le _)) b (by have:=HR.out.2.2.2.2.2.2.1;omega) (by have:=H2.out.2.2.2;omega)).mono ?_
     rintro e u3 ⟨x3,rfl,own3,k3⟩
     have hl3:(g2++numB b).length<=21:=by have:=Qp (n:=b) (by have:=HR.out.2.2.2.2.2.2.1;omega);have:=H2.out.2.2.2;simp;omega
     obtain ⟨o3,c3,rfl⟩:=own3.form
     generalize hg3:g2++numB b=g3 at own3 hl3 ⊢
     have H3:=Lib.hid (A4 own3 k3 hg3 hl3)
     clear own3 k3 hg3 hl3
     go_wp2_with fail
     refine (Xk (bn:=Xl) (H3.out.1.bytes (bn:=Xl) (base:=0) (fun _=>Nat.zero_le _)) t.length (by omega) (by have:=H3.out.2.2.2;omega)).mono ?_
     rintro e u4 ⟨x4,rfl,own4,k4⟩
     have hl4:(g3++numB t.length).length<=31:=by have:=Qp (n:=t.length) (by omega);have:=H3.out.2.2.2;simp;omega
     obtain ⟨o4,c4,rfl⟩:=own4.form
     generalize hg4:g3++numB t.length=g4 at own4 hl4 ⊢
     have kL:=(Keep.refl No wr).alloc (.cells #[.int .u8 3] 5)
     have k14:Keep No wr u4:=((kL.then H2.out.2.1).then H3.out.2.1).then k4
     have hT4:=HR.out.1.no k14
     have hsz3:w.heap.size<=u3.heap.size:=Nat.le_trans HR.out.1.k.size ((kL.then H2.out.2.1).then H3.out.2.1).size
     have hpb:=hT4.bytes.bytes (base:=base) (fun _=>HH.out.2.2.2.2.2.1)
     have hib:(Qb t).length<=600:=by have:=HR.out.2.2.2.2.2.2.2.2;simp [LRec.bytes] at this;omega
     have hall:g4++Qb t=(LRec.put a b t).bytes:=by
      rw [<- hg4,<- H3.out.2.2.1,<- H2.out.2.2.1]
      simp [LRec.bytes]
     have H4:=Lib.hid (A7 own4 hT4 hsz3 hpb hall hib k4.size)
     clear own4 hT4 hsz3 hpb hall k14 kL hg4 k4
     go_wp2_with (at_builtin;refine Zq rfl _ _ rfl u3.heap.size H4.out.1 H4.out.2.2.2.1 rfl rfl (by have:=H4.out.2.2.2.2.2.1;omega) H4.out.2.2.2.2.2.2 ?_;intro v6 w6 own6 k6;obtain ⟨o6,c6,rfl⟩:=own6.form)
     have hge:=H4.out.1.lt
     have kw6:Keep No w w6:=H4.out.2.1.k.trans k6 (fun c hc e=>by have:=(hge c e).1;have:=H4.out.2.2.1;omega)
     have own6:OwnB w6 u3.heap.size (.slice o6 (g4.length+(Qb t).length) c6) (LRec.put a b t).bytes:=by rw [<- H4.out.2.2.2.2.1];have h6:=own6;rw [List.length_append] at h6;exact h6
     refine (gWrite_g (r:=.put a b t) (HH.out.1.no kw6) (own6.bytes (base:=base) (fun _=>Nat.le_trans HH.out.2.2.2.2.2.1 H4.out.2.2.1)) (HR.out.2.2.1 _ rfl) (by have:=HR.out.2.2.2.2.2.2.2.2;omega) HH.out.2.2.1.1 HH.out.2.2.1.2.1 HH.out.2.2.1.2.2 HH.out.2.2.2.1 (Nat.le_trans HH.out.2.2.2.2.1 kw6.size) (Nat.le_trans HH.out.2.2.2.2.2.1 kw6.size) (HR.out.2.1 _ rfl)).mono ?_
     rintro e w7 ⟨rfl,hpost⟩
     have hn6:=H4.out.2.1.nums.keep k6 (fun c hc e=>by
      obtain ⟨_,cur,hz⟩:=H4.out.2.1.nums.kind c hc
      obtain ⟨_,cur2,hz2⟩:=Qa H4.out.1 c e
      rw [hz] at hz2;simp at hz2)
     have H5:=Lib.hid (A3 hpost hn6 kw6)
     have hc05:=(HR.out.2.1 _ rfl).code
     clear hpost hn6 kw6 own6 k6 hge
     rcases hc05 with rfl | rfl
     ·go_wp2_with fail
      go_ret2
      obtain ⟨lv',n',s',wv',sgv',rlv',hR',kF,hoF⟩:=H5.out.1
      have hn6:=H5.out.2.1
      have hlt:=HH.out.1.lt
      have hc0:cc=0:=by rw [HCC.out.1,HR.out.2.2.2.1];rfl
      have hn0:nl=t.map (·.n):=by rw [HCC.out.2,if_pos hc0,<- HR.out.2.2.2.2.1]
      rw [HR.out.2.2.2.1]
      subst hc0
      refine ⟨_,rfl,?_,?_⟩
      ·rw [hn0]
       exact hn6.keep kF (fun c hc e=>by have:=(hn6.kind c hc).1;have:=hlt c e;omega)
      ·exact ⟨lv',n',s',wv',sgv',rlv',hR',(H5.out.2.2.no (F:=Qi q g m lv p n s wv sgv rlv)).trans kF (fun _ _ e=>e),fun c hc=>(hoF c hc).elim .inl (fun e=>.inr (Nat.le_trans H5.out.2.2.size e))⟩
     ·go_wp2_with fail
      go_ret2
      obtain ⟨lv',n',s',wv',sgv',rlv',hR',kF,hoF⟩:=H5.out.1
      have hc0:cc=5:=by rw [HCC.out.1,HR.out.2.2.2.1];rfl
      have hn0:nl=[]:=by rw [HCC.out.2,if_neg (by rw [hc0];decide)]
      rw [HR.out.2.2.2.1]
      subst hc0
      refine ⟨.slice none 0 0,rfl,by rw [hn0];exact OwnN.nil _ _,?_⟩
      exact ⟨lv',n',s',wv',sgv',rlv',hR',(H5.out.2.2.no (F:=Qi q g m lv p n s wv sgv rlv)).trans kF (fun _ _ e=>e),fun c hc=>(hoF c hc).elim .inl (fun e=>.inr (Nat.le_trans H5.out.2.2.size e))⟩
    ·go_wp2_with fail
     refine (Xk (bn:=Xl) (Vq wr 3 (by decide)) a (by have:=HR.out.2.2.2.2.2.2.2.1;omega) (by simp)).mono ?_
     rintro e u2 ⟨x2,rfl,own2,k2⟩
     have hl2:([UInt8.ofNat 3]++numB a).length<=11:=by have:=Qp (n:=a) (by have:=HR.out.2.2.2.2.2.2.2.1;omega);simp;omega
     obtain ⟨o2,c2,rfl⟩:=own2.form
     generalize hg2:[UInt8.ofNat 3]++numB a=g2 at own2 hl2 ⊢
     have H2:=Lib.hid (A4 own2 k2 hg2 hl2)
     clear own2 k2 hg2 hl2
     go_wp2_with fail
     refine (Xk (bn:=Xl) (H2.out.1.bytes (bn:=Xl) (base:=0) (fun _=>Nat.zero_le _)) b (by have:=HR.out.2.2.2.2.2.2.1;omega) (by have:=H2.out.2.2.2;omega)).mono ?_
     rintro e u3 ⟨x3,rfl,own3,k3⟩
     have hl3:(g2++numB b).length<=21:=by have:=Qp (n:=b) (by have:=HR.out.2.2.2.2.2.2.1;omega);have:=H2.out.2.2.2;simp;omega
     obtain ⟨o3,c3,rfl⟩:=own3.form
     generalize hg3:g2++numB b=g3 at own3 hl3 ⊢
     have H3:=Lib.hid (A4 own3 k3 hg3 hl3)
     clear own3 k3 hg3 hl3
     go_wp2_with fail
     refine (Xk (bn:=Xl) (H3.out.1.bytes (bn:=Xl) (base:=0) (fun _=>Nat.zero_le _)) t.length (by omega) (by have:=H3.out.2.2.2;omega)).mono ?_
     rintro e u4 ⟨x4,rfl,own4,k4⟩
     have hl4:(g3++numB t.length).length<=31:=by have:=Qp (n:=t.length) (by omega);have:=H3.out.2.2.2;simp;omega
     obtain ⟨o4,c4,rfl⟩:=own4.form
     generalize hg4:g3++numB t.length=g4 at own4 hl4 ⊢
     have kL:=(Keep.refl No wr).alloc (.cells #[.int .u8 3] 5)
     have k14:Keep No wr u4:=((kL.then H2.out.2.1).then H3.out.2.1).then k4
     have hT4:=HR.out.1.no k14
     have hsz3:w.heap.size<=u3.heap.size:=Nat.le_trans HR.out.1.k.size ((kL.then H2.out.2.1).then H3.out.2.1).size
     have hpb:=hT4.bytes.bytes (base:=base) (fun _=>HH.out.2.2.2.2.2.1)
     have hib:(Qb t).length<=600:=by have:=HR.out.2.2.2.2.2.2.2.2;simp [LRec.bytes] at this;omega
     have hall:g4++Qb t=(LRec.put a b t).bytes:=by
      rw [<- hg4,<- H3.out.2.2.1,<- H2.out.2.2.1]
      simp [LRec.bytes]
     have H4:=Lib.hid (A7 own4 hT4 hsz3 hpb hall hib k4.size)
     clear own4 hT4 hsz3 hpb hall k14 kL hg4 k4
     go_wp2_with (at_builtin;refine Zq rfl _ _ rfl u3.heap.size H4.out.1 H4.out.2.2.2.1 rfl rfl (by have:=H4.out.2.2.2.2.2.1;omega) H4.out.2.2.2.2.2.2 ?_;intro v6 w6 own6 k6;obtain ⟨o6,c6,rfl⟩:=own6.form)
     have hge:=H4.out.1.lt
     have kw6:Keep No w w6:=H4.out.2.1.k.trans k6 (fun c hc e=>by have:=(hge c e).1;have:=H4.out.2.2.1;omega)
     have own6:OwnB w6 u3.heap.size (.slice o6 (g4.length+(Qb t).length) c6) (LRec.put a b t).bytes:=by rw [<- H4.out.2.2.2.2.1];have h6:=own6;rw [List.length_append] at h6;exact h6
     refine (gWrite_g (r:=.put a b t) (HH.out.1.no kw6) (own6.bytes (base:=base) (fun _=>Nat.le_trans HH.out.2.2.2.2.2.1 H4.out.2.2.1)) (HR.out.2.2.1 _ rfl) (by have:=HR.out.2.2.2.2.2.2.2.2;omega) HH.out.2.2.1.1 HH.out.2.2.1.2.1 HH.out.2.2.1.2.2 HH.out.2.2.2.1 (Nat.le_trans HH.out.2.2.2.2.1 kw6.size) (Nat.le_trans HH.out.2.2.2.2.2.1 kw6.size) (HR.out.2.1 _ rfl)).mono ?_
     rintro e w7 ⟨rfl,hpost⟩
     have hn6:=H4.out.2.1.nums.keep k6 (fun c hc e=>by
      obtain ⟨_,cur,hz⟩:=H4.out.2.1.nums.kind c hc
      obtain ⟨_,cur2,hz2⟩:=Qa H4.out.1 c e
      rw [hz] at hz2;simp at hz2)
     have H5:=Lib.hid (A3 hpost hn6 kw6)
     have hc05:=(HR.out.2.1 _ rfl).code
     clear hpost hn6 kw6 own6 k6 hge
     rcases hc05 with rfl | rfl
     ·go_wp2_with fail
      go_ret2
      obtain ⟨lv',n',s',wv',sgv',rlv',hR',kF,hoF⟩:=H5.out.1
      have hn6:=H5.out.2.1
      have hlt:=HH.out.1.lt
      have hc0:cc=0:=by rw [HCC.out.1,HR.out.2.2.2.1];rfl
      have hn0:nl=t.map (·.n):=by rw [HCC.out.2,if_pos hc0,<- HR.out.2.2.2.2.1]
      rw [HR.out.2.2.2.1]
      subst hc0
      refine ⟨_,rfl,?_,?_⟩
      ·rw [hn0]
       exact hn6.keep kF (fun c hc e=>by have:=(hn6.kind c hc).1;have:=hlt c e;omega)
      ·exact ⟨lv',n',s',wv',sgv',rlv',hR',(H5.out.2.2.no (F:=Qi q g m lv p n s wv sgv rlv)).trans kF (fun _ _ e=>e),fun c hc=>(hoF c hc).elim .inl (fun e=>.inr (Nat.le_trans H5.out.2.2.size e))⟩
     ·go_wp2_with fail
      go_ret2
      obtain ⟨lv',n',s',wv',sgv',rlv',hR',kF,hoF⟩:=H5.out.1
      have hc0:cc=5:=by rw [HCC.out.1,HR.out.2.2.2.1];rfl
      have hn0:nl=[]:=by rw [HCC.out.2,if_neg (by rw [hc0];decide)]
      rw [HR.out.2.2.2.1]
      subst hc0
      refine ⟨.slice none 0 0,rfl,by rw [hn0];exact OwnN.nil _ _,?_⟩
      exact ⟨lv',n',s',wv',sgv',rlv',hR',(H5.out.2.2.no (F:=Qi q g m lv p n s wv sgv rlv)).trans kF (fun _ _ e=>e),fun c hc=>(hoF c hc).elim .inl (fun e=>.inr (Nat.le_trans H5.out.2.2.size e))⟩
end Go.Proofs.YtfdmbomlkpkegaaGreat
