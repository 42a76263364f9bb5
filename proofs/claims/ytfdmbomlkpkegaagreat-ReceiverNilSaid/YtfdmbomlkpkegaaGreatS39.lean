/- Lemmas for ReceiverNil. -/
import Derived.Test.YtfdmbomlkpkegaaGreatS38
set_option maxRecDepth 100000
set_option maxHeartbeats 8000000
set_option linter.all false
namespace Go.Proofs.YtfdmbomlkpkegaaGreat
open Go Go.RowKit Go.Dr Go.Shelf
section
variable [bn:Inhabited Ban] {base:Nat} {w w':World} {p n s width j k y:Nat} {wv yv:Value} {size:Int} {D d2:Qr} {X x2:Qn} {ss2:List SegL} {ts2:List LRec} {L2:LedS}
theorem Sr.led0 (h:Sr base width size j D X 0 k ss2 ts2 d2 x2 L2) (hd:Qo base w p n s wv D) (hb:base<=w.heap.size) (hT:ban.top<=w.heap.size) :
  Calls Tryz.prog 20 #[.pointer (some ⟨p,0,none⟩),.agg #[.int .u64 width,.int .i64 size]] w fun z w'=>∃ q F,z=.returned (.tuple #[.pointer (some ⟨q,0,none⟩),.int .i64 0])/\w.heap.size<=q/\LedH base w' q p width size ⟨ss2,ts2,d2.sync,x2.sync,L2.sync,k⟩ F/\Keep (foot p n s wv) w w'/\∀ b,F b->foot p n s wv b\/w.heap.size<=b:=by
 refine (h.1 w p n s wv hd hb hT).mono ?_
 rintro z w1 ⟨v,rfl,⟨_,q,g,m,rfl,hq,lv,n',s',wv',sgv,rlv,hL,hk,ho⟩ | ⟨h0,_⟩⟩
 ·exact ⟨q,_,rfl,hq,⟨g,m,lv,n',s',wv',sgv,rlv,hL,rfl⟩,hk,ho⟩
 ·exact absurd h0 (by decide)
theorem Sr.doc0 (h:Sr base width size j D X 0 k ss2 ts2 d2 x2 L2) (hd:Zs base w y yv X) (hb:base<=w.heap.size) (hT:ban.top<=w.heap.size) :
  Calls Tryz.prog 50 #[.pointer (some ⟨y,0,none⟩),.int .u64 width,.int .i64 size] w fun z w'=>∃ r G,z=.returned (.tuple #[.pointer (some ⟨r,0,none⟩),.int .i64 0])/\w.heap.size<=r/\DocH base w' r y width size ⟨ss2,ts2,d2.sync,x2.sync,L2.sync,k⟩ G/\Keep (·=y) w w'/\∀ b,G b->b=y\/yv.ownBlock=some b\/w.heap.size<=b:=by
 refine (h.2.1 w y yv hd hb hT).mono ?_
 rintro z w1 ⟨v,rfl,hk,⟨_,r,lv',rfl,hr,hR,ho⟩ | ⟨h0,_⟩⟩
 ·refine ⟨r,_,rfl,hr,⟨lv',hR,rfl⟩,hk,fun b hb=>?_⟩
  rcases hb with rfl | rfl | hb
  ·exact .inr (.inr hr)
  ·exact .inl rfl
  ·exact .inr (ho b hb)
 ·exact absurd h0 (by decide)
theorem Sr.ok0 {q:Nat} {F:Nat->Prop} (h:Sr base width size j D X 0 k ss2 ts2 d2 x2 L2) (hl:LedH base w q p width size ⟨ss2,ts2,d2.sync,x2.sync,L2.sync,k⟩ F):Ok16 width (j+1) ⟨ss2,ts2,d2.sync,x2.sync,L2.sync,k⟩:=by
 obtain ⟨g,m,lv,n',s',wv',sgv,rlv,hL,_⟩:=hl
 obtain ⟨e1,e2,e3,e4⟩:=h.2.2 rfl
 exact ⟨e1,hL.tl,hL.ok,e4,e2,Nat.le_refl _,e3⟩
end
def Se (q:Nat) (o:List Nat):Array Value:=(Value.pointer (some ⟨q,0,none⟩) :: o.map (fun n:Nat=>Value.int .i64 n)).toArray
structure RdvAt (base:Nat) (w:World) (X r:Nat) (o:List Nat):Prop where
 blk:w.heap[X]?=some (.cells (Se r o) 190 (0,0))
 len:o.length=16
 pb:base<=X
structure P17 [bn:Inhabited Ban] (base:Nat) (w:World) (P R X q p r xq width:Nat) (size:Int) (S:S16) (o:List Nat) (F G:Nat->Prop):Prop where
 blk:w.heap[P]?=some (.cells #[.pointer (some ⟨R,0,none⟩),.pointer (some ⟨X,0,none⟩),.int .u64 width,.int .i64 size] 81 (0,0))
 rcv:Su base w R q o
 rdv:RdvAt base w X r o
 led:LedH base w q p width size S F
 dcl:DocH base w r xq width size S G
 pb:base<=P
def foot17 (P R X:Nat) (F G:Nat->Prop):Nat->Prop:=fun b=>b=P\/b=R\/b=X\/F b\/G b
theorem open17_spec [bn:Inhabited Ban] {base:Nat} {w:World} (wd sg:Nat) (hb:base<=w.heap.size) (hT:ban.top<=w.heap.size) :
  Calls Tryz.prog 29 #[.int .u16 wd,.int .u16 sg] w fun e w'=>∃ P R X q p r xq S F G,e=.returned (.pointer (some ⟨P,0,none⟩))/\P17 base w' P R X q p r xq (1+wd % 30) (1+sg % 300:Nat) S (List.replicate 16 0) F G/\Ok16 (1+wd % 30) 1 S/\(S.d.full=false/\S.d.room=60000/\msum S.d.now<=60)/\S.L=((LedS.start (1+wd % 30)).step (.inc 1)).sync/\S.ts=[.inc 1]/\(∀ b,foot17 P R X F G b->w.heap.size<=b)/\Keep No w w':=by
 obtain ⟨width,hwidth⟩:∃ n:Nat,n=1+wd % 30:=⟨_,rfl⟩
 obtain ⟨size,hsize⟩:∃ n:Nat,n=1+sg % 300:=⟨_,rfl⟩
 rw [<- hwidth,<- hsize]
 have e1:1+(wd:Int) % 30=(width:Int):=by omega
 have e2:1+(sg:Int) % 300=(size:Int):=by omega
 have hw:1<=width/\width<=1024:=by omega
 have hz:(1:Int)<=(size:Int):=by omega
 obtain ⟨ss2,d2,x2,hbo,hf,hr,hm⟩:=new_both (bn:=bn) base width (size:Int) 60000 (by decide) hw hz
 have HH:=Lib.hid (A6 hb hT hbo hf hr hm)
 clear hb hT hw hz hwidth hsize hbo hf hr hm
 go_enter Tryz.func29,Tryz.ntmps29
 go_upto_region 2 with fail
 obtain ⟨W0,hW0⟩:∃ W0,W0=w.alloc (.cells #[.int .u64 width,.int .i64 size] 35):=⟨_,rfl⟩
 have hc0:W0.heap[w.heap.size]?=some (.cells #[.int .u64 width,.int .i64 size] 35 (0,0)):=by rw [hW0];exact Qy _ _
 have k0:Keep No w W0:=by rw [hW0];exact (Keep.refl _ _).alloc _
 rw [<- hW0]
 clear hW0
 have cc0:=Qq hc0 0
 have cc1:=Qq hc0 1
 simp at cc0 cc1
 have HA:=Lib.hid (A2 k0 hc0)
 clear hc0 k0
 have kd:Keep No W0 W0.drew:=(Keep.refl _ _).drew
 refine Vr (fun w'=>Keep No W0 w') [([1],[0,2]),([3,4,5],[6,7])] (by kernel_rfl) (by kernel_rfl) (fun _ _ _ _ _ h=>h) kd ?_
 iterate 1 (refine Qk (v:=?_) rfl rfl rfl ?_ ?_;rotate_left;focus (
  intro w' hS
  have f0:=hS.cell cc0 (fun e=>e)
  have f1:=hS.cell cc1 (fun e=>e)
  go_simp
  try with_reducible rfl))
 refine Qj (Qx rfl rfl (fun K hK=>?_))
 go_simp
 refine (Sl (w:=W0.drew) base 60000 (Nat.le_trans HH.out.1 (Nat.le_trans HA.out.1.size kd.size))).mono ?_
 rintro e w3 ⟨p,dn,ds,wv,rfl,hD,k3,hnew⟩
 refine hK _ _ (kd.then k3) ?_
 clear hK K
 have k03:=HA.out.1.then (kd.then k3)
 refine Qx rfl rfl (fun K hK=>?_)
 go_simp
 refine (HH.out.2.2.1.led0 hD (Nat.le_trans HH.out.1 k03.size) (Nat.le_trans HH.out.2.1 k03.size)).mono ?_
 rintro e w4 ⟨q,F,rfl,hq4,hL,k4,ho4⟩
 have k34:Keep No W0 w4:=(kd.then k3).trans k4 (fun b hb hf=>by have:=hnew b hf;have:=kd.size;omega)
 refine hK _ _ k34 ?_
 clear hK K
 refine Qh ?_
 iterate 3 (refine Qk (v:=?_) rfl rfl rfl ?_ ?_;rotate_left;focus (
  intro w' hS
  go_simp
  try with_reducible rfl))
 refine Qj (Qx rfl rfl (fun K hK=>?_))
 go_simp
 refine hK _ _ k34 ?_
 clear hK K
 refine Qx rfl rfl (fun K hK=>?_)
 go_simp
 refine hK _ _ k34 ?_
 clear hK K
 refine Qh ?_
 unfold Vp
 have hFn:∀ b,F b->w.heap.size<=b:=fun b hb=>by
  have h1:=HA.out.1.size
  have h2:=kd.size
  have h3:=k3.size
  rcases ho4 b hb with h | h
  ·have:=hnew b h;omega
  ·omega
 have k04:=HA.out.1.then k34
 have hsz4:w.heap.size<w4.heap.size:=Nat.lt_of_lt_of_le (Qt HA.out.2) k34.size
 have cc0:=k34.cell cc0 (fun e=>e)
 have cc1:=k34.cell cc1 (fun e=>e)
 obtain ⟨W5,hW5⟩:∃ W5,W5=w4.alloc (.cells #[.int .i64 60000,.bool false,.slice none 0 0,.int .i64 0] 119):=⟨_,rfl⟩
 have k45:Keep No w4 W5:=by rw [hW5];exact (Keep.refl _ _).alloc _
 have hx5:Zs base W5 w4.heap.size (.slice none 0 0) { room:=60000,full:=false,l:=[],safe:=0 }:=⟨by rw [hW5];exact Qy _ _,LAt.nil _ _,Nat.le_trans HH.out.1 k04.size⟩
 have hop:=HH.out.2.2.1.doc0 hx5 (Nat.le_trans HH.out.1 (k04.then k45).size) (Nat.le_trans HH.out.2.1 (k04.then k45).size)
 have cc0:=k45.cell cc0 (fun e=>e)
 have cc1:=k45.cell cc1 (fun e=>e)
 have hq44:w4.heap.size<W5.heap.size:=by rw [hW5];simp
 have HB:=Lib.hid (A5 (hL.no k45) (k04.then k45) hFn hq44 hx5)
 clear hL k04 k45 hFn k34 k4 k03 ho4 hnew hD k3 kd hq4 hq44 hx5
 subst hW5
 go_upto_region 4 with (go_at_call 50;refine hop.mono ?_;rintro e w6 ⟨r,G,rfl,hr6,hR6,k6,ho6⟩)
 have hq4:¬w.heap.size=w4.heap.size:=by omega
 have cc0:=k6.cell cc0 hq4
 have cc1:=k6.cell cc1 hq4
 have k06:Keep No w w6:=HB.out.2.1.trans k6 (fun b hb e=>by have e:b=w4.heap.size:=e;omega)
 have hL6:=(HB.out.1.cellsAt HB.out.2.2.2.2.blk (by simp) (by simp) (by simp) HB.out.2.2.2.2.qb k6).1
 have hrn:=rcNew_spec (base:=base) (w:=w6) q (Nat.le_trans HH.out.1 k06.size)
 have HC:=Lib.hid (A5 hL6 k06 hR6 hr6 ho6)
 clear hR6 k6 hr6 hL6 hop k06 ho6 hq4
 go_upto_region 5 with (go_at_call 30;refine hrn.mono ?_;rintro e w7 ⟨rfl,hrc,k7⟩)
 have cc0:=k7.cell cc0 (fun e=>e)
 have cc1:=k7.cell cc1 (fun e=>e)
 have HD:=Lib.hid (A2 hrc k7)
 have ca0:=fun o=>((Keep.refl No w7).alloc o).cell cc0 (fun e=>e)
 have ca1:=fun o=>((Keep.refl No w7).alloc o).cell cc1 (fun e=>e)
 clear hrc k7 hrn
 go_wp2_with fail
 go_ret
 obtain ⟨hL6,k06,hR6,hr6,ho6⟩:=HC.out
 obtain ⟨hrc,k7⟩:=HD.out
 have kz1:=(Keep.refl No w7).alloc (.cells (Se r (List.replicate 16 0)) 190)
 have kz2:=(Keep.refl No (w7.alloc (.cells (Se r (List.replicate 16 0)) 190))).alloc (.cells #[.pointer (some ⟨w6.heap.size,0,none⟩),.pointer (some ⟨w7.heap.size,0,none⟩),.int .u64 width,.int .i64 size] 81)
 have kz:=kz1.then kz2
 have hX:=kz2.heap (Qy w7 (.cells (Se r (List.replicate 16 0)) 190)) (fun e=>e)
 have hPb:=Qy (w7.alloc (.cells (Se r (List.replicate 16 0)) 190)) (.cells #[.pointer (some ⟨w6.heap.size,0,none⟩),.pointer (some ⟨w7.heap.size,0,none⟩),.int .u64 width,.int .i64 size] 81)
 rw [World.size_alloc] at hPb
 have hs:=HB.out.2.2.2.1
 simp only [World.size_alloc] at hr6 ho6
 have hs6:=k06.size
 have hs7:=k7.size
 have hbw:=HH.out.1
 refine ⟨_,w6.heap.size,w7.heap.size,q,p,r,w4.heap.size,_,F,G,rfl,⟨hPb,hrc.no kz,⟨hX,rfl,by omega⟩,(hL6.no k7).no kz,(hR6.no k7).no kz,by omega⟩,HH.out.2.2.1.ok0 hL6,⟨HH.out.2.2.2.1,HH.out.2.2.2.2.1,HH.out.2.2.2.2.2⟩,rfl,rfl,fun b hb=>?_,(k06.then k7).then kz⟩
 rcases hb with rfl | rfl | rfl | hb | hb
 ·omega
 ·omega
 ·omega
 ·exact HB.out.2.2.1 b hb
 ·rcases ho6 b hb with h | h | h
  ·omega
  ·simp [Value.ownBlock] at h
  ·omega
theorem midN_off {P:Program} {ops:Array Oper} {Q:Exit->Act->World->Prop} {S:World->Prop} {K:Act->World->Prop} {i:Nat} {r:List Nat} {a:Act} {w:World} {o:Oper} (hi:ops.toList[i]?=some o) (hg:Region.wanted o (yielded ops a.tmps)=false)
  (hS:S w) (h:midN P ops Q S K r (a.put o.dst undef) w):midN P ops Q S K (i :: r) a w:=by
 unfold midN
 refine ⟨o,hi,?_⟩
 rw [if_neg (by rw [hg];simp)]
 exact ⟨hS,h⟩
structure FrmS where
 kind:Nat
 agent:Int
 epoch:Nat
 inc:Nat
 base:Nat
 cum:Nat
 limit:Nat
 runs:List RunN
 items:List Qc
def FrmS.cells (f:FrmS) (rv iv:Value):Array Value:=#[.int .u8 f.kind,.int .i64 f.agent,.int .u64 f.epoch,.int .u64 f.inc,.int .u64 f.base,.int .u64 f.cum,.int .u64 f.limit,rv,iv]
def RcvN [bn:Inhabited Ban] (base:Nat) (w:World) (R q p width:Nat) (size:Int) (S:S16) (o:List Nat) (F:Nat->Prop) (w':World):Prop :=
 ∃ F',LedH base w' q p width size S F'/\Su base w' R q o/\Keep (fun b=>F b\/b=R) w w'/\∀ b,F' b->F b\/w.heap.size<=b
theorem LedN.rcv [bn:Inhabited Ban] {base:Nat} {w w':World} {R q p width:Nat} {size:Int} {S S0:S16} {o:List Nat} {F:Nat->Prop} (h:LedN base w q p width size S F w') (h0:LedH base w q p width size S0 F) (hr:Su base w R q o):RcvN base w R q p width size S o F w':=by
 obtain ⟨F',h1,k,ho⟩:=h
 exact ⟨F',h1,hr.keep k (hr.byLed h0),k.mono (fun b _ e=>.inl e),ho⟩
theorem RcvN.then [bn:Inhabited Ban] {base:Nat} {w w' w'':World} {R q p width:Nat} {size:Int} {S':S16} {o':List Nat} {F F':Nat->Prop} (hk:Keep (fun b=>F b\/b=R) w w') (ho:∀ b,F' b->F b\/w.heap.size<=b) (h:RcvN base w' R q p width size S' o' F' w''):RcvN base w R q p width size S' o' F w'':=by
 obtain ⟨F2,h1,h2,k2,ho2⟩:=h
 refine ⟨F2,h1,h2,hk.trans k2 (fun b hb e=>?_),fun b hb=>?_⟩
 ·rcases e with e | e
  ·exact (ho b e).elim .inl (fun e=>by omega)
  ·exact .inr e
 ·rcases ho2 b hb with e | e
  ·exact ho b e
  ·exact .inr (Nat.le_trans hk.size e)
def Hello17 (width j:Nat) (size:Int) (S:S16) (a e b:Nat) (ok:Bool) (S2:S16):Prop :=
 (e<S.L.floor a/\ok=false/\S2=S) \/
 (S.L.floor a<e/\(∃ c,c≠0/\Sp size S a e c S2)/\ok=false) \/
 (ok=true/\∃ S1 c nl,((e=S.L.floor a/\S1=S)\/(S.L.floor a<e/\Sp size S a e 0 S1))/\Ok16 width (j+1) S1/\Tz size S1 a b [] c nl S2)
section
variable [bn:Inhabited Ban] {base:Nat} {w w':World} {R q p width j:Nat} {size:Int} {o:List Nat} {S S':S16} {F:Nat->Prop}
theorem LedH.floorOf (h:LedH base w q p width size S F) {a:Nat} (ha:a<16):Calls Tryz.prog 39 #[.pointer (some ⟨q,0,none⟩),.int .i64 a] w fun e w'=>e=.returned (.int .u64 (S.L.floor a))/\w'=w:=by
 obtain ⟨g,m,lv,n,s,wv,sgv,rlv,h1,_⟩:=h
 obtain ⟨x,hx,_,_,hf⟩:=h1.ok.at ha
 rw [hf]
 exact gFloor_in h1.led ha hx
theorem rcHello_spec (hl:LedH base w q p width size S F) (hr:Su base w R q o) (ok:Ok16 width j S) (hj:j+2<=450) (f:FrmS) (rv iv:Value) (a:Nat) (hfa:f.agent=a) (ha:a<16) {okb:Bool} (hh:Hello17 width j size S a f.epoch f.base okb S') (hb:base<=w.heap.size) (hT:ban.top<=w.heap.size) :
  Calls Tryz.prog 85 #[.pointer (some ⟨R,0,none⟩),.agg (f.cells rv iv)] w fun z w'=>z=.returned (.bool okb)/\RcvN base w R q p width size S' (if okb then o.set a 2 else o) F w':=by
 obtain ⟨W,hW⟩:∃ W,W=w.alloc (.cells #[.int .u8 f.kind,.int .i64 a,.int .u64 f.epoch,.int .u64 f.inc,.int .u64 f.base,.int .u64 f.cum,.int .u64 f.limit,rv,iv] 69):=⟨_,rfl⟩
 have kW:Keep No w W:=by rw [hW];exact (Keep.refl _ _).alloc _
 have hA:W.heap[w.heap.size]?=some (.cells #[.int .u8 f.kind,.int .i64 a,.int .u64 f.epoch,.int .u64 f.inc,.int .u64 f.base,.int .u64 f.cum,.int .u64 f.limit,rv,iv] 69 (0,0)):=by rw [hW];exact Qy _ _
 have c1:=Qq hA 1
 have c2:=Qq hA 2
 have c4:=Qq hA 4
 simp at c1 c2 c4
 have r0:=(hr.no kW).led
 have kd0:Keep No W W.drew:=(Keep.refl _ _).drew
 have hfl:=((hl.no kW).no kd0).floorOf ha
 obtain ⟨fl,hfle⟩:∃ fl,fl=S.L.floor a:=⟨_,rfl⟩
 rw [<- hfle] at hfl
 have ha1:(a:Int)<16:=by omega
 have hFR:=hr.byLed hl
 have hFw:¬F w.heap.size:=fun e=>by have:=(hl.foot _ e).2.1;omega
 have hRw:¬R=w.heap.size:=fun e=>by have:=Qt hr.blk;omega
 have hwR:¬w.heap.size=R:=fun e=>hRw e.symm
 have HH:=Lib.hid (A9 (hl.no kW) (hr.no kW) ok hj (Nat.le_trans hb kW.size) (Nat.le_trans hT kW.size) kW hFR hFw)
 have HO:=Lib.hid hh
 have HWl:=Lib.hid (show w.heap.size<W.heap.size by rw [hW];simp)
 have HL:=Lib.hid hfle
 have hcase:f.epoch<fl\/f.epoch=fl\/fl<f.epoch:=by omega
 clear hl hr ok hj hb hT kW hA hh ha hFR hFw hfle
 unfold FrmS.cells
 rw [hfa]
 go_enter Tryz.func85,Tryz.ntmps85
 go_upto_region 1 with fail
 rw [<- hW]
 clear hW
 refine Ql (fun w'=>Keep No W w') [0,1,2,3,4,5] [6] [7] (by kernel_rfl) (by kernel_rfl) (fun _ _ _ _ _ h=>h) kd0 ?_
 iterate 6 (refine Qk (v:=?_) rfl rfl rfl ?_ ?_;rotate_left;focus (
  intro w' hS
  have f0:=hS.cell r0 (fun e=>e)
  have f1:=hS.cell c1 (fun e=>e)
  go_simp
  try with_reducible rfl))
 refine Qj (Qx rfl rfl (fun K hK=>?_))
 go_simp
 refine hfl.mono ?_
 rintro e w1 ⟨rfl,e1⟩
 subst e1
 refine hK _ _ kd0 ?_
 clear hK K
 refine Qh (Qu rfl (Qm ?_))
 go_upto_region 2 with fail
 have r0:=kd0.cell r0 (fun e=>e)
 have c1:=kd0.cell c1 (fun e=>e)
 have c2:=kd0.cell c2 (fun e=>e)
 have c4:=kd0.cell c4 (fun e=>e)
 have kd1:Keep No W.drew W.drew.drew:=(Keep.refl _ _).drew
 have HK:=Lib.hid (kd0.then kd1)
 rcases hcase with hlt | heq | hgt
 ·have q1:(f.epoch:Int)<(fl:Int):=by omega
  have hres:okb=false/\S'=S:=by
   rcases HO.out with ⟨_,h1,h2⟩ | ⟨h1,_⟩ | ⟨_,S1,c,nl,h1,_⟩
   ·exact ⟨h1,h2⟩
   ·have:=HL.out;omega
   ·have:=HL.out;rcases h1 with ⟨h1,_⟩ | ⟨h1,_⟩ <;> omega
  obtain ⟨rfl,rfl⟩:=hres
  clear hlt
  refine Vr (fun w'=>Keep No W.drew w') [([0,1,2,3,4],[]),([5,6,7,8,9],[]),([10,11,12,13,14,15,16,17],[18]),([19,20],[21])] (by kernel_rfl) (by kernel_rfl) (fun _ _ _ _ _ h=>h) kd1 ?_
  iterate 5 (refine Qe (v:=?_) rfl rfl (by first | kernel_rfl | simp [Region.wanted,yielded,Act.put,undef]) ?_ ?_;rotate_left;focus (
   intro w' hS
   have f0:=hS.cell c2 (fun e=>e)
   go_simp
   try with_reducible rfl))
  refine Qj (Qh ?_)
  iterate 5 (refine Sh rfl rfl (by first | kernel_rfl | simp [Region.wanted,yielded,Act.put,undef]) ?_)
  refine Qj (Qh ?_)
  iterate 8 (refine Sh rfl rfl (by first | kernel_rfl | simp [Region.wanted,yielded,Act.put,undef]) ?_)
  refine Qj (midN_off rfl (by first | kernel_rfl | simp [Region.wanted,yielded,Act.put,undef]) kd1 (Qh ?_))
  iterate 2 (refine Sh rfl rfl (by first | kernel_rfl | simp [Region.wanted,yielded,Act.put,undef]) ?_)
  refine Qj ?_
  refine Qx rfl rfl (fun K hK=>?_)
  go_simp
  refine hK _ _ kd1 ?_
  clear hK K
  refine Qh ?_
  unfold Vp
  go_wp2_with fail
  go_ret
  have k:=HH.out.2.2.2.2.2.2.1.then HK.out
  exact ⟨rfl,(LedH.still HH.out.1 HK.out).rcv HH.out.1 HH.out.2.1 |> RcvN.then HH.out.2.2.2.2.2.2.1.no (fun b hb=>.inl hb)⟩
 ·have q1:¬(f.epoch:Int)<(fl:Int):=by omega
  have q2:¬(fl:Int)<(f.epoch:Int):=by omega
  have hres:okb=true/\∃ c nl,Tz size S a f.base [] c nl S':=by
   rcases HO.out with ⟨h1,_⟩ | ⟨h1,_⟩ | ⟨h0,S1,c,nl,h1,_,h3⟩
   ·have:=HL.out;omega
   ·have:=HL.out;omega
   ·rcases h1 with ⟨_,rfl⟩ | ⟨h1,_⟩
    ·exact ⟨h0,c,nl,h3⟩
    ·have:=HL.out;omega
  obtain ⟨rfl,c,nl,hput⟩:=hres
  clear heq
  refine Vr (fun w'=>Keep No W.drew w') [([0,1,2,3,4],[]),([5,6,7,8,9],[]),([10,11,12,13,14,15,16,17],[18]),([19,20],[21])] (by kernel_rfl) (by kernel_rfl) (fun _ _ _ _ _ h=>h) kd1 ?_
  iterate 5 (refine Qe (v:=?_) rfl rfl (by first | kernel_rfl | simp [Region.wanted,yielded,Act.put,undef]) ?_ ?_;rotate_left;focus (
   intro w' hS
   have f0:=hS.cell c2 (fun e=>e)
   go_simp
   try with_reducible rfl))
  refine Qj (Qh ?_)
  iterate 5 (refine Qe (v:=?_) rfl rfl (by first | kernel_rfl | simp [Region.wanted,yielded,Act.put,undef]) ?_ ?_;rotate_left;focus (
   intro w' hS
   have f0:=hS.cell c2 (fun e=>e)
   go_simp
   try with_reducible rfl))
  refine Qj (Qh ?_)
  iterate 8 (refine Sh rfl rfl (by first | kernel_rfl | simp [Region.wanted,yielded,Act.put,undef]) ?_)
  refine Qj (midN_off rfl (by first | kernel_rfl | simp [Region.wanted,yielded,Act.put,undef]) kd1 (Qh ?_))
  iterate 1 (refine Sh rfl rfl (by first | kernel_rfl | simp [Region.wanted,yielded,Act.put,undef]) ?_)
  iterate 1 (refine Qe (v:=?_) rfl rfl (by first | kernel_rfl | simp [Region.wanted,yielded,Act.put,undef]) ?_ ?_;rotate_left;focus (
   intro w' hS
   go_simp
   try with_reducible rfl))
  refine Qj ?_
  refine Qx rfl rfl (fun K hK=>?_)
  go_simp
  refine hK _ _ kd1 ?_
  clear hK K
  refine Qh ?_
  unfold Vp
  have HP:=Lib.hid hput
  clear hput q1 q2 hfl
  go_upto_region 4 with fail
  have r0:=kd1.cell r0 (fun e=>e)
  have c1:=kd1.cell c1 (fun e=>e)
  have c4:=kd1.cell c4 (fun e=>e)
  generalize W.drew.drew=W2 at *
  have hl2:=HH.out.1.no HK.out
  have hr2:=HH.out.2.1.no HK.out
  have ok2:=HH.out.2.2.1.mono (Nat.le_succ j)
  have hF2:∀ b,F b->F b\/W.heap.size<=b:=fun b hb=>.inl hb
  have kk2:Keep (fun b=>F b\/b=R) W W2:=HK.out.no
  obtain ⟨on,hon,e0⟩:=hr2.owes a (by omega)
  have f0:=Qg hr2.blk (1+a)
  have kS:Keep (·=R) W2 (W2.setCell ⟨R,1+a,none⟩ (.int .u8 2)):=Qd _ _
  have hr3:=hr2.set a 2
  have hl3:=(hl2.cellsAt hr2.blk (by simp) (by simp) (by simp) hr2.pb kS).1
  have kSd:Keep No (W2.setCell ⟨R,1+a,none⟩ (.int .u8 2)) (W2.setCell ⟨R,1+a,none⟩ (.int .u8 2)).drew:=(Keep.refl _ _).drew
  have kT:=kS.then kSd
  have hr4:=hr3.no kSd
  have hl4:=hl3.no kSd
  have r0':=hr4.led
  have c1':=kT.cell c1 hwR
  have c4':=kT.cell c4 hwR
  have kk4:Keep (fun b=>F b\/b=R) W (W2.setCell ⟨R,1+a,none⟩ (.int .u8 2)).drew:=kk2.trans kT (fun b _ e=>.inr e)
  have hb4:base<=(W2.setCell ⟨R,1+a,none⟩ (.int .u8 2)).drew.heap.size:=Nat.le_trans HH.out.2.2.2.2.1 kk4.size
  have hT4:ban.top<=(W2.setCell ⟨R,1+a,none⟩ (.int .u8 2)).drew.heap.size:=Nat.le_trans HH.out.2.2.2.2.2.1 kk4.size
  have HQ:=Lib.hid (A7 hr4 hl4 kk4 hb4 hT4 hF2 ok2)
  clear hr2 hl2 hr3 hl3 hr4 hl4 kk2 kk4 hb4 hT4 hF2 ok2 kSd
  refine Ql (fun w'=>Keep (·=R) W2 w') [0,1,2,3,4,5] [6] [] (by kernel_rfl) (by kernel_rfl) (fun _ _ _ _ _ h=>h) ((Keep.refl No W2).drew.no) ?_
  iterate 6 (refine Qk (v:=?_) rfl rfl rfl ?_ ?_;rotate_left;focus (
   intro w' hS
   have g1:=hS.cell c1 hwR
   go_simp
   try with_reducible rfl))
  refine Qj (Qx rfl rfl (fun K hK=>?_))
  go_simp
  refine hK _ _ kT ?_
  clear hK K e0 f0 r0 c1 c4
  refine Qh (Qm ?_)
  generalize (W2.setCell ⟨R,1+a,none⟩ (.int .u8 2)).drew=W4 at *
  go_upto_region 5 with fail
  have kd5:Keep No W4 W4.drew:=(Keep.refl _ _).drew
  have hpt:=(HQ.out.2.1.no kd5).put (B0:=base) (iv:=.slice none 0 0) HQ.out.2.2.2.2.2.2 (by have:=HH.out.2.2.2.1;omega) HP.out (Nat.le_trans HQ.out.2.2.2.1 kd5.size) (Nat.le_trans HQ.out.2.2.2.2.1 kd5.size) ⟨[],rfl,fun x hx=>by simp at hx,World.ownsRow_nil _ _ _ _⟩ (Nat.zero_le _) (fun x hx=>by simp at hx)
  have nR:¬F R:=fun e=>by
   rcases HQ.out.2.2.2.2.2.1 R e with h | h
   ·exact HH.out.2.2.2.2.2.2.2.1 h
   ·have:=Qt HH.out.2.1.blk;omega
  have nW:¬F w.heap.size:=fun e=>by
   rcases HQ.out.2.2.2.2.2.1 _ e with h | h
   ·exact HH.out.2.2.2.2.2.2.2.2 h
   ·have:=HWl.out;omega
  refine Ql (fun w'=>Keep F W4 w') [0,1,2,3,4,5,6,7] [8] [] (by kernel_rfl) (by kernel_rfl) (fun _ _ _ _ _ h=>h) kd5.no ?_
  iterate 8 (refine Qk (v:=?_) rfl rfl rfl ?_ ?_;rotate_left;focus (
   intro w' hS
   have g0:=hS.cell r0' nR
   have g1:=hS.cell c1' nW
   have g2:=hS.cell c4' nW
   go_simp
   try with_reducible rfl))
  refine Qj (Qx rfl rfl (fun K hK=>?_))
  go_simp
  refine hpt.mono ?_
  rintro e w6 ⟨tv,rfl,_,F6,hl6,k6,ho6⟩
  refine hK _ _ (kd5.no.trans k6 (fun _ _ e=>e)) ?_
  clear hK K
  have k46:Keep F W4 w6:=kd5.no.trans k6 (fun _ _ e=>e)
  have HX:RcvN base W R q p width size S' (o.set a 2) F w6:=RcvN.then HQ.out.2.2.1 HQ.out.2.2.2.2.2.1 ⟨F6,hl6,HQ.out.1.keep k46 nR,k46.mono (fun b _ e=>.inl e),fun b hb=>(ho6 b hb).imp id (fun e=>Nat.le_trans kd5.size e)⟩
  have HX:=Lib.hid HX
  clear hl6 k6 ho6 k46 r0' c1' c4' nR nW hpt kd5 kT kS
  refine Qh (Qm ?_)
  show wpList _ _ _ [] _ _
  go_wp2_with fail
  go_ret
  exact ⟨rfl,RcvN.then HH.out.2.2.2.2.2.2.1.no (fun b hb=>.inl hb) HX.out⟩
 ·have q1:¬(f.epoch:Int)<(fl:Int):=by omega
  have q2:(fl:Int)<(f.epoch:Int):=by omega
  have hres:∃ (c:Int) (S1:S16),Sp size S a f.epoch c S1/\((c≠0/\okb=false/\S'=S1)\/(c=0/\okb=true/\Ok16 width (j+1) S1/\∃ c nl,Tz size S1 a f.base [] c nl S')):=by
   rcases HO.out with ⟨h1,_⟩ | ⟨_,⟨c,h1,h2⟩,h3⟩ | ⟨h0,S1,c,nl,h1,h2,h3⟩
   ·have:=HL.out;omega
   ·exact ⟨c,S',h2,.inl ⟨h1,h3,rfl⟩⟩
   ·rcases h1 with ⟨h1,_⟩ | ⟨_,h1⟩
    ·have:=HL.out;omega
    ·exact ⟨0,S1,h1,.inr ⟨rfl,h0,h2,c,nl,h3⟩⟩
  obtain ⟨c,S1,hrs,hcs⟩:=hres
  have hraise:=(HH.out.1.no HK.out).raise HH.out.2.2.1 (by have:=HH.out.2.2.2.1;omega) hrs (Nat.le_trans HH.out.2.2.2.2.1 HK.out.size) (Nat.le_trans HH.out.2.2.2.2.2.1 HK.out.size)
  have HC:=Lib.hid hcs
  clear hgt hrs hcs
  refine Vr (fun w'=>Keep F W.drew w') [([0,1,2,3,4],[]),([5,6,7,8,9],[]),([10,11,12,13,14,15,16,17],[18]),([19,20],[21])] (by kernel_rfl) (by kernel_rfl) (fun _ _ _ _ _ h=>h) kd1.no ?_
  iterate 5 (refine Qe (v:=?_) rfl rfl (by first | kernel_rfl | simp [Region.wanted,yielded,Act.put,undef]) ?_ ?_;rotate_left;focus (
   intro w' hS
   have f0:=hS.cell c2 (fun e=>HH.out.2.2.2.2.2.2.2.2 e)
   go_simp
   try with_reducible rfl))
  refine Qj (Qh ?_)
  iterate 5 (refine Qe (v:=?_) rfl rfl (by first | kernel_rfl | simp [Region.wanted,yielded,Act.put,undef]) ?_ ?_;rotate_left;focus (
   intro w' hS
   have f0:=hS.cell c2 (fun e=>HH.out.2.2.2.2.2.2.2.2 e)
   go_simp
   try with_reducible rfl))
  refine Qj (Qh ?_)
  iterate 8 (refine Qe (v:=?_) rfl rfl (by first | kernel_rfl | simp [Region.wanted,yielded,Act.put,undef]) ?_ ?_;rotate_left;focus (
   intro w' hS
   have f0:=hS.cell r0 (fun e=>HH.out.2.2.2.2.2.2.2.1 e)
   have f1:=hS.cell c1 (fun e=>HH.out.2.2.2.2.2.2.2.2 e)
   have f2:=hS.cell c2 (fun e=>HH.out.2.2.2.2.2.2.2.2 e)
   go_simp
   try with_reducible rfl))
  refine Qj ?_
  refine Za rfl (by first | kernel_rfl | simp [Region.wanted,yielded,Act.put,undef]) (fun K hK=>?_)
  go_simp
  refine hraise.mono ?_
  rintro e w3 ⟨rfl,F3,hl3,k3,ho3⟩
  refine hK _ _ (kd1.no.trans k3 (fun _ _ e=>e)) ?_
  clear hK K
  refine Qh ?_
  have KK3:=Lib.hid (kd1.no.trans k3 (fun _ _ e=>e):Keep F W.drew w3)
  have hr3:=HH.out.2.1.no HK.out |>.keep k3 HH.out.2.2.2.2.2.2.2.1
  have k03:Keep (fun b=>F b\/b=R) W w3:=HK.out.no.trans (k3.mono (fun b _ e=>(Or.inl e:F b\/b=R))) (fun _ _ e=>e)
  have ho3':∀ b,F3 b->F b\/W.heap.size<=b:=fun b hb=>(ho3 b hb).imp id (fun e=>Nat.le_trans HK.out.size e)
  have c1:=(kd1.no.trans k3 (fun _ _ e=>e):Keep F W.drew w3).cell c1 (fun e=>HH.out.2.2.2.2.2.2.2.2 e)
  have c4:=(kd1.no.trans k3 (fun _ _ e=>e):Keep F W.drew w3).cell c4 (fun e=>HH.out.2.2.2.2.2.2.2.2 e)
  have H3:=Lib.hid (A4 hl3 hr3 k03 ho3')
  clear hl3 hr3 k03 ho3 ho3' k3 hraise hfl
  rcases HC.out with ⟨hc,rfl,rfl⟩ | ⟨rfl,rfl,ok1,c',nl,hput⟩
  ·have hcn:(c==0)=false:=by simp [hc]
   have hcn2:(c != 0)=true:=by simp [hc]
   iterate 2 (refine Qe (v:=?_) rfl rfl (by first | kernel_rfl | simp [Region.wanted,yielded,Act.put,undef]) ?_ ?_;rotate_left;focus (
    intro w' hS
    go_simp
    try with_reducible rfl))
   refine Qj ?_
   refine Qx rfl rfl (fun K hK=>?_)
   go_simp
   refine hK _ _ KK3.out ?_
   clear hK K
   refine Qh ?_
   unfold Vp
   go_wp2_with fail
   go_ret
   exact ⟨rfl,RcvN.then HH.out.2.2.2.2.2.2.1.no (fun b hb=>.inl hb) ⟨F3,H3.out.1,H3.out.2.1,H3.out.2.2.1,H3.out.2.2.2⟩⟩
  ·skip
   iterate 2 (refine Qe (v:=?_) rfl rfl (by first | kernel_rfl | simp [Region.wanted,yielded,Act.put,undef]) ?_ ?_;rotate_left;focus (
    intro w' hS
    go_simp
    try with_reducible rfl))
   refine Qj ?_
   refine Qx rfl rfl (fun K hK=>?_)
   go_simp
   refine hK _ _ KK3.out ?_
   clear hK K
   refine Qh ?_
   unfold Vp
   have HP:=Lib.hid hput
   clear hput q1 q2
   go_upto_region 4 with fail
   obtain ⟨hl2,hr2,kk2,hF2⟩:=H3.out
   have r0:=hr2.led
   have ok2:=ok1
   clear ok1
   generalize w3=W2 at *
   obtain ⟨on,hon,e0⟩:=hr2.owes a (by omega)
   have f0:=Qg hr2.blk (1+a)
   have kS:Keep (·=R) W2 (W2.setCell ⟨R,1+a,none⟩ (.int .u8 2)):=Qd _ _
   have hr3:=hr2.set a 2
   have hl3:=(hl2.cellsAt hr2.blk (by simp) (by simp) (by simp) hr2.pb kS).1
   have kSd:Keep No (W2.setCell ⟨R,1+a,none⟩ (.int .u8 2)) (W2.setCell ⟨R,1+a,none⟩ (.int .u8 2)).drew:=(Keep.refl _ _).drew
   have kT:=kS.then kSd
   have hr4:=hr3.no kSd
   have hl4:=hl3.no kSd
   have r0':=hr4.led
   have c1':=kT.cell c1 hwR
   have c4':=kT.cell c4 hwR
   have kk4:Keep (fun b=>F b\/b=R) W (W2.setCell ⟨R,1+a,none⟩ (.int .u8 2)).drew:=kk2.trans kT (fun b _ e=>.inr e)
   have hb4:base<=(W2.setCell ⟨R,1+a,none⟩ (.int .u8 2)).drew.heap.size:=Nat.le_trans HH.out.2.2.2.2.1 kk4.size
   have hT4:ban.top<=(W2.setCell ⟨R,1+a,none⟩ (.int .u8 2)).drew.heap.size:=Nat.le_trans HH.out.2.2.2.2.2.1 kk4.size
   have HQ:=Lib.hid (A7 hr4 hl4 kk4 hb4 hT4 hF2 ok2)
   clear hr2 hl2 hr3 hl3 hr4 hl4 kk2 kk4 hb4 hT4 hF2 ok2 kSd
   refine Ql (fun w'=>Keep (·=R) W2 w') [0,1,2,3,4,5] [6] [] (by kernel_rfl) (by kernel_rfl) (fun _ _ _ _ _ h=>h) ((Keep.refl No W2).drew.no) ?_
   iterate 6 (refine Qk (v:=?_) rfl rfl rfl ?_ ?_;rotate_left;focus (
    intro w' hS
    have g1:=hS.cell c1 hwR
    go_simp
    try with_reducible rfl))
   refine Qj (Qx rfl rfl (fun K hK=>?_))
   go_simp
   refine hK _ _ kT ?_
   clear hK K e0 f0 r0 c1 c4
   refine Qh (Qm ?_)
   generalize (W2.setCell ⟨R,1+a,none⟩ (.int .u8 2)).drew=W4 at *
   go_upto_region 5 with fail
   have kd5:Keep No W4 W4.drew:=(Keep.refl _ _).drew
   have hpt:=(HQ.out.2.1.no kd5).put (B0:=base) (iv:=.slice none 0 0) HQ.out.2.2.2.2.2.2 (by have:=HH.out.2.2.2.1;omega) HP.out (Nat.le_trans HQ.out.2.2.2.1 kd5.size) (Nat.le_trans HQ.out.2.2.2.2.1 kd5.size) ⟨[],rfl,fun x hx=>by simp at hx,World.ownsRow_nil _ _ _ _⟩ (Nat.zero_le _) (fun x hx=>by simp at hx)
   have nR:¬F3 R:=fun e=>by
    rcases HQ.out.2.2.2.2.2.1 R e with h | h
    ·exact HH.out.2.2.2.2.2.2.2.1 h
    ·have:=Qt HH.out.2.1.blk;omega
   have nW:¬F3 w.heap.size:=fun e=>by
    rcases HQ.out.2.2.2.2.2.1 _ e with h | h
    ·exact HH.out.2.2.2.2.2.2.2.2 h
    ·have:=HWl.out;omega
   refine Ql (fun w'=>Keep F3 W4 w') [0,1,2,3,4,5,6,7] [8] [] (by kernel_rfl) (by kernel_rfl) (fun _ _ _ _ _ h=>h) kd5.no ?_
   iterate 8 (refine Qk (v:=?_) rfl rfl rfl ?_ ?_;rotate_left;focus (
    intro w' hS
    have g0:=hS.cell r0' nR
    have g1:=hS.cell c1' nW
    have g2:=hS.cell c4' nW
    go_simp
    try with_reducible rfl))
   refine Qj (Qx rfl rfl (fun K hK=>?_))
   go_simp
   refine hpt.mono ?_
   rintro e w6 ⟨tv,rfl,_,F6,hl6,k6,ho6⟩
   refine hK _ _ (kd5.no.trans k6 (fun _ _ e=>e)) ?_
   clear hK K
   have k46:Keep F3 W4 w6:=kd5.no.trans k6 (fun _ _ e=>e)
   have HX:RcvN base W R q p width size S' (o.set a 2) F w6:=RcvN.then HQ.out.2.2.1 HQ.out.2.2.2.2.2.1 ⟨F6,hl6,HQ.out.1.keep k46 nR,k46.mono (fun b _ e=>.inl e),fun b hb=>(ho6 b hb).imp id (fun e=>Nat.le_trans kd5.size e)⟩
   have HX:=Lib.hid HX
   clear hl6 k6 ho6 k46 r0' c1' c4' nR nW hpt kd5 kT kS
   refine Qh (Qm ?_)
   show wpList _ _ _ [] _ _
   go_wp2_with fail
   go_ret
   exact ⟨rfl,RcvN.then HH.out.2.2.2.2.2.2.1.no (fun b hb=>.inl hb) HX.out⟩
end
end Go.Proofs.YtfdmbomlkpkegaaGreat
