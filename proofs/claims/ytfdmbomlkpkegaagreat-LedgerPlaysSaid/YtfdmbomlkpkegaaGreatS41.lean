/- Lemmas for LedgerPlays. -/
import Derived.Test.YtfdmbomlkpkegaaGreatS40
import Derived.Test.YtfdmbomlkpkegaaGreatS19
set_option maxRecDepth 100000
set_option maxHeartbeats 8000000
set_option linter.all false
namespace Go.Proofs.YtfdmbomlkpkegaaGreat
open Go Go.RowKit Go.Dr Go.Shelf
section
variable [bn:Inhabited Ban] {base:Nat} {w w' W:World} {P q g m p n s r xq width j cnt:Nat} {lv wv sgv rlv lvd:Value} {size:Int} {ss:List SegL} {ts:List LRec} {d:Qr} {x:Qn} {L:LedS}
theorem Zs.full16 {q:Nat} {lv:Value} (h:Zs base w q lv x) (on:Bool):Zs base (w.setCell ⟨q,1,none⟩ (.bool on)) q lv { x with full:=on }/\Keep (·=q) w (w.setCell ⟨q,1,none⟩ (.bool on)):=by
 have k:Keep (·=q) w (w.setCell ⟨q,1,none⟩ (.bool on)):=Qd _ _
 have hF:Foot base w (·=q):=fun b e=>by
  have e:b=q:=e
  subst e
  exact ⟨h.qb,Qt h.blk,fun cs fr e=>by have:=h.blk;rw [this] at e;simp at e⟩
 refine ⟨⟨by simpa using Qz (i:=1) (u:=.bool on) h.blk,h.calls.keep hF k (fun b hb e=>?_),h.qb⟩,k⟩
 obtain ⟨_,cur,hz⟩:=h.calls.kind b hb
 have e:b=q:=e
 rw [e,h.blk] at hz
 simp at hz
theorem do16_full (h:P16 base w P q g m lv p n s wv sgv rlv r xq lvd width size ss ts d x L j cnt) (hj:j+1<=450) (kd ba ep:Nat) (ag kp tn:Int) (on:Bool) (io:Option Addr) (il ic:Nat) (hk:kd % 7=5) :
  Calls Tryz.prog 26 #[.pointer (some ⟨P,0,none⟩),.agg #[.int .u8 kd,.int .i64 ag,.int .u64 ba,.int .u64 ep,.slice io il ic,.bool on,.int .i64 kp,.int .i64 tn]] w fun e w'=>e=.returned (.bool true)/\Jh base w P width size (j+1) (Uj P q g m lv p n s wv sgv rlv r xq lvd) w':=by
 obtain ⟨W,hW⟩:∃ W,W=w.alloc (.cells #[.int .u8 kd,.int .i64 ag,.int .u64 ba,.int .u64 ep,.slice io il ic,.bool on,.int .i64 kp,.int .i64 tn] 30):=⟨_,rfl⟩
 have kW:Keep No w W:=by rw [hW];exact (Keep.refl _ _).alloc _
 have hA:W.heap[w.heap.size]?=some (.cells #[.int .u8 kd,.int .i64 ag,.int .u64 ba,.int .u64 ep,.slice io il ic,.bool on,.int .i64 kp,.int .i64 tn] 30 (0,0)):=by rw [hW];exact Qy _ _
 have h1:=h.no kW
 have hP:=h1.blk
 have hlt:=h.lt
 obtain ⟨hP1,hP2⟩:=h.apartP
 have hk7:Int.tmod (kd:Int) 7=5:=by have:Int.tmod (kd:Int) 7=((kd % 7:Nat):Int):=rfl;rw [this,hk];rfl
 have hk7':(kd:Int) % 7=5:=by omega
 have c0:=Qq hA 0
 have c5:=Qq hA 5
 have p0:=Qq hP 0
 have p1:=Qq hP 1
 simp at c0 c5 p0 p1
 have hFP:¬foot p n s wv P:=fun e=>hP1 (.inr (.inl e))
 have hFA:¬foot p n s wv w.heap.size:=fun e=>by have:=hlt _ (.inl (.inr (.inl e)));omega
 have HH:=Lib.hid (A6 kW h1 hP1 hP2 hj hlt)
 clear kW hA hP hP1 hP2 hk h h1 hj hlt
 go_enter Tryz.func26,Tryz.ntmps26
 go_upto_region 8 with fail
 rw [<- hW]
 clear hW
 have kd0:Keep No W W.drew:=(Keep.refl _ _).drew
 refine Ql (fun w'=>Keep (foot p n s wv) W w') [0,1,2,3,6,7] [4,5,8] [] (by kernel_rfl) (by kernel_rfl) (fun _ _ _ _ _ h=>h) kd0.no ?_
 iterate 6 (refine Qk (v:=?_) rfl rfl rfl ?_ ?_;rotate_left;focus (
  intro w' hS
  have f0:=hS.cell p0 hFP
  have f1:=hS.cell c5 hFA
  go_simp
  try with_reducible rfl))
 refine Qj ?_
 refine Qx rfl rfl (fun K hK=>?_)
 go_simp
 refine (gLog_spec (HH.out.2.1.led.led.no kd0)).mono ?_
 rintro e w2 ⟨rfl,rfl⟩
 refine hK _ _ kd0.no ?_
 clear hK K
 refine Qx rfl rfl (fun K hK=>?_)
 go_simp
 refine (lDisk_spec (HH.out.2.1.led.lg.no kd0)).mono ?_
 rintro e w2 ⟨rfl,rfl⟩
 refine hK _ _ kd0.no ?_
 clear hK K
 refine Qx rfl rfl (fun K hK=>?_)
 go_simp
 refine (full_spec (HH.out.2.1.led.dk.no kd0) on).mono ?_
 rintro e w3 ⟨rfl,n',s',wv',hdk3,k3,o3⟩
 have kF:Keep (foot p n s wv) W w3:=kd0.no.trans k3 (fun _ _ e=>e)
 refine hK _ _ kF ?_
 clear hK K
 refine Qh (Qm ?_)
 have h1:=HH.out.2.1
 have hFk:Keep (Qi q g m lv p n s wv sgv rlv) W w3:=kF.mono (fun b _ e=>.inr (.inl e))
 have hR3:=h1.doc.mem.keepD h1.led.foot hFk (Rc h1.led h1.doc.mem)
 have hblk3:=kF.heap h1.blk hFP
 have hled3:=h1.led.led.keep h1.led.dk.foot_ok (fun b hb=>h1.led.footLR b (.inl hb)) kF (fun b hb e=>h1.led.apart b hb (.inl e))
 have hlg3:=h1.led.lg.keep h1.led.dk.foot_ok kF (fun b hb e=>h1.led.lg.apart h1.led.dk hb e)
 have p1:=Qq hblk3 1
 have r0:=Qq hR3.blk 0
 simp at p1 r0
 have c5:=kF.cell c5 hFA
 have hne:=hR3.ne
 have hPx:¬P=xq:=fun e=>HH.out.2.2.2.1 (.inr (.inl e))
 have hAx:¬w.heap.size=xq:=fun e=>by have:=HH.out.2.2.2.2.2 xq (.inr (.inr (.inl rfl)));omega
 have hrx:¬r=xq:=fun e=>hne e.symm
 have H3:=Lib.hid (A7 hR3 hblk3 hled3 hlg3 hdk3 kF o3)
 clear hR3 hblk3 hled3 hlg3 hdk3 kF o3 k3 kd0 h1 hFk hne p0
 go_upto_region 9 with fail
 refine Vr (fun w'=>Keep (·=xq) w3 w') [([0,1,2,3,4,5,6,7,8],[]),([9,10],[11])] (by kernel_rfl) (by kernel_rfl) (fun _ _ _ _ _ h=>h) ((Keep.refl No w3).drew).no ?_
 iterate 9 (refine Qk (v:=?_) rfl rfl rfl ?_ ?_;rotate_left;focus (
  intro w' hS
  have f0:=hS.cell p1 hPx
  have f1:=hS.cell r0 hrx
  have f2:=hS.cell c5 hAx
  go_simp
  try with_reducible rfl))
 refine Qj ?_
 refine Qh ?_
 iterate 2 (refine Qk (v:=?_) rfl rfl rfl ?_ ?_;rotate_left;focus (
  intro w' hS
  go_simp
  try with_reducible rfl))
 refine Qj ?_
 obtain ⟨hx4,k4⟩:=H3.out.1.rdisk.full16 on
 have e1:=Qq H3.out.1.rdisk.blk 1
 have f1:=Qg H3.out.1.rdisk.blk 1
 simp at e1
 have kdr:=(Keep.refl No (w3.setCell ⟨xq,1,none⟩ (.bool on))).drew
 have H4:=Lib.hid (A2 (hx4.no kdr) (k4.then kdr))
 clear hx4 k4 kdr
 refine Qx rfl rfl (fun K hK=>?_)
 go_simp
 refine hK _ _ H4.out.2 ?_
 clear hK K e1 f1 p1 r0 c5
 refine Qh ?_
 unfold Vp
 obtain ⟨hx4,k4⟩:=H4.out
 generalize (w3.setCell ⟨xq,1,none⟩ (.bool on)).drew=w4 at *
 go_wp2
 go_ret
 obtain ⟨hR3,hblk3,hled3,hlg3,hdk3,kF,o3⟩:=H3.out
 have h1:=HH.out.2.1
 have hnx:m≠n':=fun e=>by
  rcases o3 n' (.inr (.inl rfl)) with h | h
  ·exact h1.led.apart m (.inr (.inl rfl)) (by rw [e];exact .inl h)
  ·have:=h1.led.lt m (.inl (.inr (.inl rfl)));have:W.drew.heap.size=W.heap.size:=rfl;omega
 have hsx:m≠s':=fun e=>by
  rcases o3 s' (.inr (.inr (.inl rfl))) with h | h
  ·exact h1.led.apart m (.inr (.inl rfl)) (by rw [e];exact .inl h)
  ·have:=h1.led.lt m (.inl (.inr (.inl rfl)));have:W.drew.heap.size=W.heap.size:=rfl;omega
 have hL3:Zc base w3 q g m lv p n' s' wv' sgv rlv width size ss ts { d with full:=on } L:=⟨hled3,hlg3,hdk3,h1.led.ok,h1.led.tl,hnx,hsx⟩
 have hA3:=Rc hL3 hR3
 have hFx:∀ b,b=xq->Vx r xq lvd b:=fun b e=>.inr (.inl e)
 have hL4:=hL3.keep (fun b e=>hR3.footD b (hFx b e)) (fun b e=>hR3.footDR b (hFx b e)) k4 (fun b hb e=>hA3 b (hFx b e) hb)
 have hR4:Jg base w4 r xq lvd { x with full:=on } width size (cnt:Int):=⟨k4.heap hR3.blk hrx,hx4,hR3.pb⟩
 refine ⟨rfl,Jh.from' ⟨_,⟨q,g,m,lv,p,n',s',wv',sgv,rlv,r,xq,lvd,ss,ts,{ d with full:=on },{ x with full:=on },L,cnt,⟨k4.heap hblk3 hPx,hL4,⟨hR4,(h1.doc.lg7.setFull on).mono (Nat.le_succ _),HH.out.2.2.2.2.1,h1.doc.tls,h1.doc.okL,h1.doc.few⟩,h1.safe,h1.sle,h1.lit,h1.pb⟩,rfl⟩,(kF.mono (fun b _ e=>.inr (.inl (.inr (.inl e))))).trans (k4.mono (fun b _ e=>.inr (.inr (.inr (.inl e))))) (fun _ _ e=>e),fun b hb=>?_⟩ HH.out.1⟩
 rcases hb with hb | (hb | hb | hb) | hb
 ·exact .inl (.inl hb)
 ·exact .inl (.inr (.inl (.inl hb)))
 ·exact (o3 b hb).imp (fun e=>.inr (.inl (.inr (.inl e)))) id
 ·exact .inl (.inr (.inl (.inr (.inr hb))))
 ·exact .inl (.inr (.inr hb))
end
section
variable [bn:Inhabited Ban] {base:Nat} {w:World} {P q g m p n s r xq width j cnt:Nat} {lv wv sgv rlv lvd:Value} {size:Int} {ss:List SegL} {ts:List LRec} {d:Qr} {x:Qn} {L:LedS}
def BothOpen (base width:Nat) (size:Int) (j:Nat) (D:Qr) (X:Qn) (c:Int) (k:Nat) (ss2:List SegL) (ts2:List LRec) (d2:Qr) (x2:Qn) (L2:LedS):Prop :=
 (∀ (w1:World) (p n s:Nat) (wv:Value),Qo base w1 p n s wv D->base<=w1.heap.size->ban.top<=w1.heap.size->Calls Tryz.prog 20 #[.pointer (some ⟨p,0,none⟩),.agg #[.int .u64 width,.int .i64 size]] w1 (OpenG base w1 p n s wv width size c ss2 ts2 d2 L2)) /\
 (∀ (w1:World) (y:Nat) (yv:Value),Zs base w1 y yv X->base<=w1.heap.size->ban.top<=w1.heap.size->Calls Tryz.prog 50 #[.pointer (some ⟨y,0,none⟩),.int .u64 width,.int .i64 size] w1 (ROpen base w1 y yv x2 width k size c)) /\
 (c=0->Log7 (j+1) k (Zk ts2) ss2 d2.sync x2.sync/\Gr width ts2 k L2.sync/\Hm width ts2/\∀ r∈ts2,r.bytes.length<=1000)
theorem wrote_five {c:Int} {ss':List SegL} {ts':List LRec} {d':Qr} {L':LedS} {rc:LRec} (h:Ha c size ss ts d L rc ss' ts' d' L') (hc:c=5):d.full=true\/d.room<msum d.now+rc.bytes.length+20:=by
 have h2:=Yz (logD size ss) rc.bytes
 have h3:(d.append (appS (logD size ss)).n (appB (logD size ss) rc.bytes)).2=5:=by rw [h.1];exact hc
 unfold Qr.append at h3
 split at h3
 ·rename_i hf
  exact .inl hf
 ·split at h3
  ·rename_i hr
   right
   omega
  ·simp at h3
theorem wrote_zero {c:Int} {ss':List SegL} {ts':List LRec} {d':Qr} {L':LedS} {rc:LRec} (h:Ha c size ss ts d L rc ss' ts' d' L') (hc:c=0):d'.full=d.full/\d'.room=d.room/\msum d'.now<=msum d.now+rc.bytes.length+20:=by
 have h2:=Yz (logD size ss) rc.bytes
 have h3:(d.append (appS (logD size ss)).n (appB (logD size ss) rc.bytes)).2=0:=by rw [h.1];exact hc
 have h4:=append_zero h3
 rw [h.1] at h4
 dsimp only at h4
 subst h4
 refine ⟨rfl,rfl,?_⟩
 have h5:=Uv d.now (appS (logD size ss)).n (appB (logD size ss) rc.bytes)
 show msum (mset d.now (appS (logD size ss)).n ((mget d.now (appS (logD size ss)).n).getD []++appB (logD size ss) rc.bytes))<=_
 omega
theorem open_any {k1:Nat} {t1:List LRec} {ss1:List SegL} {D:Qr} {X:Qn} (h7:Log7 j k1 (Zk t1) ss1 D X) (htl:Jc width t1 (told width t1)) (hft:∀ r∈t1,r.bytes.length<=1000) (hlt:Hm width t1) (hj:j+1<=450) (hwz:1<=width/\width<=1024) (hz:1<=size) :
  ∃ (c:Int) (ss2:List SegL) (ts2:List LRec) (d2:Qr) (x2:Qn) (L2:LedS),(c=0\/c=5)/\BothOpen base width size j D X c (t1.length+1) ss2 ts2 d2 x2 L2/\(c=0->ts2=t1++[.inc ((told width t1).inc+1)]/\L2=(told width t1).step (.inc ((told width t1).inc+1)))/\(c=5->D.full=true\/D.room<msum D.now+60)/\(c=0->d2.full=D.full/\d2.room=D.room/\msum d2.now<=msum D.now+60):=by
 have hlen:(Zk t1).length=t1.length:=by simp [Zk]
 have hmany:t1.length<=900:=by
  have h1:=h7.good.next
  have h2:=h7.next
  omega
 have hlit:=hlt t1.length (Nat.le_refl _)
 rw [List.take_length] at hlit
 have hnb:=Qp (n:=(told width t1).inc+1) (by omega)
 have hrb:(LRec.inc ((told width t1).inc+1)).bytes.length<=11:=by simp [LRec.bytes];omega
 obtain ⟨c,ss2,ts2,d2,x2,L2,hwr,hap,h7',hcase⟩:=both_append h7 (by omega) size (told width t1) (.inc ((told width t1).inc+1)) (by omega)
 refine ⟨c,ss2,ts2,d2,x2,L2,hwr.code,⟨fun w1 p n s wv hd hb hT=>gOpen_g hd h7 (by omega) htl.can hft (by omega) (by omega) hwz hz hb hT hwr,fun w1 y yv hd hb hT=>?_,fun hc=>?_⟩,fun hc=>?_,fun hc=>?_,fun hc=>?_⟩
 ·have hc2:(c=0/\Log7 (j+1) k1 (Zk (t1++[.inc ((told width t1).inc+1)])) ss2 d2 x2)\/c=5:=by
   rcases hcase with ⟨h0,e,_⟩ | ⟨h5,_⟩
   ·left
    rw [e] at h7'
    exact ⟨h0,h7'⟩
   ·exact .inr h5
  exact r16Open_spec hd h7 (by omega) htl.can hft (by omega) hwz hz hb hT hap hc2
 ·rcases hcase with ⟨_,rfl,rfl⟩ | ⟨h5,_⟩
  ·have hcan:(told width t1).can (.inc ((told width t1).inc+1)):=⟨Nat.lt_succ_self _,by omega⟩
   have htp:=htl.push hcan
   have hl2:(t1++[LRec.inc ((told width t1).inc+1)]).length=t1.length+1:=by simp
   have h8:=h7'.sync
   have hrb2:(Zk (t1++[LRec.inc ((told width t1).inc+1)])).length=t1.length+1:=by simp [Zk]
   rw [hrb2] at h8
   have hso:=Gr.sync htp
   rw [hl2] at hso
   refine ⟨h8,hso,hlt.push _ (Nat.le_add_right _ _) (Nat.le_refl _),fun r hr=>?_⟩
   rcases List.mem_append.1 hr with hr | hr
   ·exact hft r hr
   ·rw [List.mem_singleton.1 hr];omega
  ·omega
 ·rcases hcase with ⟨_,e1,e2⟩ | ⟨h5,_⟩
  ·exact ⟨e1,e2⟩
  ·omega
 ·rcases wrote_five hwr hc with h | h
  ·exact .inl h
  ·right;omega
 ·obtain ⟨e1,e2,e3⟩:=wrote_zero hwr hc
  exact ⟨e1,e2,by omega⟩
theorem crash_both (h:P16 base w P q g m lv p n s wv sgv rlv r xq lvd width size ss ts d x L j cnt) (hj:j+1<=450) (hz:1<=size) (keep torn:Int) :
  ∃ (c:Int) (k:Nat) (ss2:List SegL) (ts2:List LRec) (d2:Qr) (x2:Qn) (L2:LedS),(c=0\/c=5)/\BothOpen base width size j { d.crash keep torn with full:=false } { x.crash keep torn with full:=false } c k ss2 ts2 d2 x2 L2:=by
 obtain ⟨ss1,k1,hk1,hk2,h7⟩:=h.doc.lg7.crash keep torn
 have h7:=h7.setFull false
 have hrl:(Zk ts).length=ts.length:=by simp [Zk]
 have e1:(Zk ts).take k1=Zk (ts.take k1):=by unfold Zk;rw [List.map_take]
 rw [e1] at h7
 obtain ⟨c,ss2,ts2,d2,x2,L2,h1,h2,_⟩:=open_any h7 (h.doc.tls.take k1) (fun r hr=>h.doc.few r (List.mem_of_mem_take hr)) (h.lit.take k1) hj h.led.ok.wide hz
 exact ⟨c,_,ss2,ts2,d2,x2,L2,h1,h2⟩
end
theorem wsum_rest16:∀ (l:List Qf) (k:Nat),wsum (l.drop k)<=wsum l:=by
 intro l
 induction l with
 | nil=>intro k;simp
 | cons c l ih =>
  intro k
  cases k with
  | zero=>exact Nat.le_refl _
  | succ k=>rw [List.drop_succ_cons];have:=ih k;simp only [wsum];omega
theorem Log7.crashBounds {j cnt:Nat} {all:List Qs} {ss:List SegL} {d:Qr} {x:Qn} (h:Log7 j cnt all ss d x) (hj:j<=900):msum d.safe+wsum d.wait<=1099511627776/\d.wait.length<=1000000/\x.l.length<=1000000/\x.l.length<=1000+x.l.length/\wsum x.l<=1099511627776/\0<=x.safe/\x.safe<=x.l.length:=by
 have e1:=Jf.sum (Ve _).keys h.rel.ks h.rel.safe
 have e2:=Ud (x.l.take x.safe.toNat)
 have e3:=Xe x.l x.safe.toNat
 have e4:=h.rel.wait
 have e5:=wsum_rest16 x.l x.safe.toNat
 have e6:=h.good.sum
 have e7:=h.good.len
 have e8:d.wait.length<=x.l.length:=by rw [e4,List.length_drop];omega
 rw [e4]
 exact ⟨by omega,by rw [<- e4];omega,by omega,by omega,by omega,h.rel.s0,h.rel.s1⟩
section
variable [bn:Inhabited Ban] {base:Nat} {w W:World} {P q g m p n s r xq width j cnt:Nat} {lv wv sgv rlv lvd:Value} {size:Int} {ss:List SegL} {ts:List LRec} {d:Qr} {x:Qn} {L:LedS}
theorem foot_one {b:Nat} {cs:Array Value} {t:TypeId} (hz:w.heap[b]?=some (.cells cs t (0,0))) (hb:base<=b) (h8:t≠5):Foot base w (·=b):=fun c e=>by
 have e:c=b:=e
 subst e
 refine ⟨hb,Qt hz,fun cs' fr e=>?_⟩
 rw [hz] at e
 simp at e
 exact h8 e.2.1
theorem crash16_spec (h:P16 base w P q g m lv p n s wv sgv rlv r xq lvd width size ss ts d x L j cnt) (hj:j+1<=450) (hb:base<=w.heap.size) (hT:ban.top<=w.heap.size) (hz:1<=size) (kp tn:Int) (hkp:kp<=9223372036854775807) :
  Calls Tryz.prog 71 #[.pointer (some ⟨P,0,none⟩),.int .i64 kp,.int .i64 tn] w fun e w'=>e=.returned (.bool true)/\Jh base w P width size (j+1) (Uj P q g m lv p n s wv sgv rlv r xq lvd) w':=by
 obtain ⟨b1,b2,b3,_,b5,b6,b7⟩:=h.doc.lg7.crashBounds (by omega)
 have hx3:x.l.length<=1000:=by have:=h.doc.lg7.good.len;omega
 obtain ⟨c,kk,ss2,ts2,d2,x2,L2,hc05,hgo,hro,hend⟩:=crash_both h hj hz kp tn
 have p0:=Qq h.blk 0
 have p1:=Qq h.blk 1
 have p2:=Qq h.blk 2
 have p3:=Qq h.blk 3
 have r0:=Qq h.doc.mem.blk 0
 simp at p0 p1 p2 p3 r0
 have hcr:=fun (w':World) (k:Keep No w w')=>crash_any (h.led.dk.no k) (Nat.le_trans hb k.size) b1 b2 kp tn
 have hrc:=fun (w':World) (k:Keep No w w')=>rcrash_spec (h.doc.mem.rdisk.no k) (Nat.le_trans hb k.size) hx3 b5 b6 b7 kp tn hkp
 have hlog:=fun (w':World) (k:Keep No w w')=>gLog_spec (h.led.led.no k)
 have hdk:=fun (w':World) (k:Keep No w w')=>lDisk_spec (h.led.lg.no k)
 have HH:=Lib.hid (A7 h hb hT hj hgo hro hend)
 have HC:=Lib.hid (A4 hcr hrc hlog hdk)
 clear h hb hT hj hgo hro hend hcr hrc hlog hdk b1 b2 b3 b5 b6 b7 hx3 hz hkp
 go_enter Tryz.func71,Tryz.ntmps71
 go_upto_region 1 with fail
 have kd0:Keep No w w.drew:=(Keep.refl _ _).drew
 refine Ql (fun w'=>Keep No w w') [0,1,2,3,6,7,9,10,11,12,13,14,15,16,17] [4,5,8,18] [19,20] (by kernel_rfl) (by kernel_rfl) (fun _ _ _ _ _ h=>h) kd0 ?_
 iterate 15 (refine Qk (v:=?_) rfl rfl rfl ?_ ?_;rotate_left;focus (
  intro w' hS
  have f0:=hS.cell p0 (fun e=>e)
  have f1:=hS.cell p1 (fun e=>e)
  have f2:=hS.cell r0 (fun e=>e)
  go_simp
  try with_reducible rfl))
 refine Qj (Qx rfl rfl (fun K hK=>?_))
 go_simp
 refine (HC.out.2.2.1 _ kd0).mono ?_
 rintro e w1 ⟨rfl,e1⟩
 have e1:=e1.symm
 subst e1
 refine hK _ _ kd0 ?_
 clear hK K
 refine Qx rfl rfl (fun K hK=>?_)
 go_simp
 refine (HC.out.2.2.2 _ kd0).mono ?_
 rintro e w1 ⟨rfl,e1⟩
 have e1:=e1.symm
 subst e1
 refine hK _ _ kd0 ?_
 clear hK K
 refine Qx rfl rfl (fun K hK=>?_)
 go_simp
 refine (HC.out.1 _ kd0).mono ?_
 rintro e w1 ⟨p1',n1,s1,wv1,rfl,hD1,k1,hn1⟩
 have k01:=kd0.then k1
 refine hK _ _ k01 ?_
 clear hK K
 refine Qx rfl rfl (fun K hK=>?_)
 go_simp
 refine (HC.out.2.1 _ k01).mono ?_
 rintro e w2 ⟨y,yv,rfl,hY2,k2,hy2,hyo2⟩
 have k02:=k01.then k2
 refine hK _ _ k02 ?_
 clear hK K
 refine Qh (Qu rfl (Qu rfl (Qm ?_)))
 have hfull:=full_spec (hD1.no k2) false
 have hn1w:∀ b,foot p1' n1 s1 wv1 b->w.heap.size<=b:=fun b hb=>Nat.le_trans kd0.size (hn1 b hb)
 have hn1l:∀ b,foot p1' n1 s1 wv1 b->b<w1.heap.size:=fun b hb=>(hD1.foot_ok b hb).2.1
 have hyl:∀ b,(b=y\/yv.ownBlock=some b)->w1.heap.size<=b/\b<w2.heap.size:=fun b hb=>by
  rcases hb with rfl | hb
  ·exact ⟨hy2,Qt hY2.blk⟩
  ·obtain ⟨_,cur,hz⟩:=hY2.calls.kind b hb
   exact ⟨hyo2 b hb,Qt hz⟩
 have p0:=k02.cell p0 (fun e=>e)
 have p1:=k02.cell p1 (fun e=>e)
 have p2:=k02.cell p2 (fun e=>e)
 have p3:=k02.cell p3 (fun e=>e)
 have hD12:=hD1.no k2
 have HD:=Lib.hid (A7 hY2 k02 hn1w hn1l hyl k01.size hD12)
 clear hD12 hY2 k02 hn1w hn1l hyl hD1 k1 k2 hn1 hy2 hyo2 k01 kd0 r0 HC
 have hPn:∀ b,w.heap.size<=b->¬b=P:=fun b h e=>by have:=Qt HH.out.1.blk;omega
 go_upto_region 3 with (go_at_call 19;refine hfull.mono ?_;rintro e w3 ⟨rfl,n3,s3,wv3,hD3,k3,hn3⟩)
 have hn3w:∀ b,foot p1' n3 s3 wv3 b->w.heap.size<=b/\(b<w1.heap.size\/w2.heap.size<=b):=fun b hb=>by
  have h1:=HD.out.2.1.size
  rcases hn3 b hb with h | h
  ·exact ⟨HD.out.2.2.1 b h,.inl (HD.out.2.2.2.1 b h)⟩
  ·exact ⟨by omega,.inr h⟩
 have hY3:=HD.out.1.byD HD.out.2.2.2.2.2.2 k3
 have hb3:base<=w3.heap.size:=Nat.le_trans HH.out.2.1 (Nat.le_trans HD.out.2.1.size k3.size)
 have hT3:ban.top<=w3.heap.size:=Nat.le_trans HH.out.2.2.1 (Nat.le_trans HD.out.2.1.size k3.size)
 have p0:=k3.cell p0 (fun e=>hPn _ (HD.out.2.2.1 _ e) rfl)
 have p1:=k3.cell p1 (fun e=>hPn _ (HD.out.2.2.1 _ e) rfl)
 have p2:=k3.cell p2 (fun e=>hPn _ (HD.out.2.2.1 _ e) rfl)
 have p3:=k3.cell p3 (fun e=>hPn _ (HD.out.2.2.1 _ e) rfl)
 have e1:=Qq hY3.blk 1
 have f1:=Qg hY3.blk 1
 simp at e1
 obtain ⟨hY4,k4⟩:=hY3.full16 false
 have hyw:w.heap.size<=y:=Nat.le_trans HD.out.2.2.2.2.2.1 (HD.out.2.2.2.2.1 y (.inl rfl)).1
 have hPy:¬P=y:=fun e=>hPn y hyw e.symm
 have p0:=k4.cell p0 hPy
 have p1:=k4.cell p1 hPy
 have p2:=k4.cell p2 hPy
 have p3:=k4.cell p3 hPy
 have hD4:=hD3.byX hY3 k4
 have hopen:=HH.out.2.2.2.2.1 _ _ _ _ _ hD4 (Nat.le_trans hb3 k4.size) (Nat.le_trans hT3 k4.size)
 have hrop:=fun (w':World) (hy:Zs base w' y yv { x.crash kp tn with full:=false }) (h1:base<=w'.heap.size) (h2:ban.top<=w'.heap.size)=>HH.out.2.2.2.2.2.1 w' y yv hy h1 h2
 have k04:Keep No w (w3.setCell ⟨y,1,none⟩ (.bool false)):=(HD.out.2.1.absorb k3 HD.out.2.2.1).absorb k4 (fun b e=>by
  have e:b=y:=e
  omega)
 have hb4:=Nat.le_trans hb3 k4.size
 have hT4:=Nat.le_trans hT3 k4.size
 have hsz3:=k3.size
 have hsz4:=k4.size
 go_upto_region 4 with fail
 generalize (w3.setCell ⟨y,1,none⟩ (.bool false))=w4 at *
 have HE:=Lib.hid (A9 hY4 hD4 k04 hb4 hT4 hrop hsz3 hsz4 hyw)
 clear hY4 hD4 k04 hb4 hT4 hrop hsz3 hsz4 hY3 hb3 hT3 e1 f1 hD3 hn3 k3 k4 hfull
 go_upto_region 5 with (go_at_call 20;refine hopen.mono ?_;rintro e w5 ⟨v5,rfl,h5⟩)
 have k5:Keep (foot p1' n3 s3 wv3) w4 w5:=by
  rcases h5 with ⟨_,_,_,_,_,_,_,_,_,_,_,_,_,k,_⟩ | ⟨_,_,k⟩
  ·exact k
  ·exact k
 have hY5:=HE.out.1.byD HE.out.2.1 k5
 have p0:=k5.cell p0 (fun e=>hPn _ (hn3w _ e).1 rfl)
 have p1:=k5.cell p1 (fun e=>hPn _ (hn3w _ e).1 rfl)
 have p2:=k5.cell p2 (fun e=>hPn _ (hn3w _ e).1 rfl)
 have p3:=k5.cell p3 (fun e=>hPn _ (hn3w _ e).1 rfl)
 have kd:Keep No w5 w5.drew:=(Keep.refl _ _).drew
 have hro:=HE.out.2.2.2.2.2.1 w5.drew (hY5.no kd) (Nat.le_trans HE.out.2.2.2.1 (Nat.le_trans k5.size kd.size)) (Nat.le_trans HE.out.2.2.2.2.1 (Nat.le_trans k5.size kd.size))
 have HF:=Lib.hid (A3 h5 k5 hY5)
 clear h5 k5 hY5 hopen
 refine Vr (fun w'=>Keep (·=y) w5 w') [([0,1,2,3,4,5,6,7,8,9,10],[11]),([12,13,14],[15,16])] (by kernel_rfl) (by kernel_rfl) (fun _ _ _ _ _ h=>h) kd.no ?_
 iterate 11 (refine Qk (v:=?_) rfl rfl rfl ?_ ?_;rotate_left;focus (
  intro w' hS
  have f2:=hS.cell p2 hPy
  have f3:=hS.cell p3 hPy
  go_simp
  try with_reducible rfl))
 refine Qj ?_
 refine Qx rfl rfl (fun K hK=>?_)
 go_simp
 refine hro.mono ?_
 rintro e w6 ⟨v6,rfl,k6',h6⟩
 have k6:Keep (·=y) w5 w6:=kd.no.trans k6' (fun _ _ e=>e)
 have hs6:w5.heap.size<=w5.drew.heap.size:=kd.size
 refine hK _ _ k6 ?_
 clear hK K
 refine Qh ?_
 iterate 3 (refine Qk (v:=?_) rfl rfl rfl ?_ ?_;rotate_left;focus (
  intro w' hS
  go_simp
  try with_reducible rfl))
 refine Qj ?_
 refine Qx rfl rfl (fun K hK=>?_)
 go_simp
 refine hK _ _ k6 ?_
 clear hK K
 refine Qx rfl rfl (fun K hK=>?_)
 go_simp
 refine hK _ _ k6 ?_
 clear hK K
 refine Qh ?_
 unfold Vp
 have hP0:=Qt HH.out.1.blk
 have hblk6:w6.heap[P]?=some (.cells #[.pointer (some ⟨q,0,none⟩),.pointer (some ⟨r,0,none⟩),.int .u64 width,.int .i64 size] 37 (0,0)):=k6.heap (HF.out.2.1.heap (HE.out.2.2.1.heap HH.out.1.blk (fun e=>e)) (fun e=>hPn _ (hn3w _ e).1 rfl)) hPy
 have hHF:=HF.out
 have hHE:=HE.out
 have hy6:∀ b,b=y->w.heap.size<=b:=fun b e=>by have:=HE.out.2.2.2.2.2.2.2.2;omega
 have k06:Keep No w w6:=(HE.out.2.2.1.absorb HF.out.2.1 (fun b e=>(hn3w b e).1)).absorb k6 hy6
 have HZ:=Lib.hid (A8 h6 k6 hs6 k06 hn3w hPn hPy hblk6)
 clear h6 k6 k6' hs6 k06 hn3w hPn hPy hHF hHE hy6 hro kd p0 p1 p2 p3
 rcases hc05 with rfl | rfl
 ·obtain ⟨h5,k5,hY5⟩:=HF.out
  obtain ⟨h6,k6,hs6,k06,hn3w,hPn,hPy,_⟩:=HZ.out
  rcases h5 with ⟨_,q',g',m',rfl,hq',lv',n',s',wv',sgv',rlv',hL,k5',ho5⟩ | ⟨h0,_⟩
  rotate_left
  ·exact absurd h0 (by decide)
  rcases h6 with ⟨_,r',lvd',rfl,hr',hR,ho6⟩ | ⟨h0,_⟩
  rotate_left
  ·exact absurd h0 (by decide)
  have HQ:=Lib.hid (A6 hL ho5 hR ho6 hr' hq')
  clear hL ho5 hR ho6 k5 hY5 k6 hs6 k06 hn3w hPn hPy k5' hr' hq'
  have p0:=Qq hblk6 0
  have f0:=Qg hblk6 0
  have hb7:=Qz (i:=0) (u:=.pointer (some ⟨q',0,none⟩)) hblk6
  have p1:=Qq hb7 1
  have f1:=Qg hb7 1
  have hb8:=Qz (i:=1) (u:=.pointer (some ⟨r',0,none⟩)) hb7
  simp at p0 p1
  have HB:=Lib.hid (A2 hblk6 hb8)
  clear hblk6 hb7 hb8
  go_wp2_with fail
  go_ret
  obtain ⟨hL,ho5,hR,ho6,hr',hq'⟩:=HQ.out
  obtain ⟨h6,k6,hs6,k06,hn3w,hPn,hPy,_⟩:=HZ.out
  obtain ⟨hblk6,hb8⟩:=HB.out
  obtain ⟨hY4,hD4,k04,hb4,hT4,_,hsz3,hsz4,hyw⟩:=HE.out
  obtain ⟨_,k5,hY5⟩:=HF.out
  have h1:=HH.out.1
  have hP0:=Qt h1.blk
  obtain ⟨e1,e2,e3,e4⟩:=HH.out.2.2.2.2.2.2 trivial
  have hs4:=k04.size
  have hs5:=k5.size
  have hlr:∀ b,Qi q' g' m' lv' p1' n' s' wv' sgv' rlv' b->w.heap.size<=b:=fun b hb=>by
   rcases ho5 b hb with h | h
   ·exact (hn3w b h).1
   ·omega
  have hdf:∀ b,Vx r' y lvd' b->w.heap.size<=b:=fun b hb=>by
   rcases hb with rfl | rfl | hb
   ·have:=hr';have:w5.drew.heap.size=w5.heap.size:=rfl;omega
   ·exact hyw
   ·have h7:w5.drew.heap.size=w5.heap.size:=rfl
    rcases ho6 b hb with h | h
    ·have h8:=(HD.out.2.2.2.2.1 b (.inr h)).1
     have h9:=HD.out.2.2.2.2.2.1
     omega
    ·omega
  have hL6:=hL.cellsAt hY5.blk (by simp) (by simp) (by simp) hY5.qb k6
  have kS:Keep (·=P) w6 ((w6.setCell ⟨P,0,none⟩ (.pointer (some ⟨q',0,none⟩))).setCell ⟨P,1,none⟩ (.pointer (some ⟨r',0,none⟩))):=((Keep.refl _ _).setCell (F:=(·=P)) (p:=⟨P,0,none⟩) (.inl rfl) _).setCell (p:=⟨P,1,none⟩) (.inl rfl) _
  have hL8:=hL6.cellsAt hblk6 (by simp) (by simp) (by simp) h1.pb kS
  have hR8:=hR.keepD (foot_one hblk6 h1.pb (by simp)) kS (fun b hb e=>by
   have e:b=P:=e
   exact hPn b (hdf b hb) e)
  refine ⟨rfl,_,⟨q',g',m',lv',p1',n',s',wv',sgv',rlv',r',y,lvd',ss2,ts2,d2.sync,x2.sync,L2.sync,kk,⟨hb8,hL8,⟨hR8,e1,HH.out.2.2.2.1,hL8.tl,hL8.ok,e4⟩,e2,Nat.le_refl _,e3,h1.pb⟩,rfl⟩,k06.no.trans (kS.mono (fun b _ e=>.inl e)) (fun _ _ e=>e),fun b hb=>?_⟩
  rcases hb with hb | hb | hb
  ·exact .inl (.inl hb)
  ·exact .inr (hlr b hb)
  ·exact .inr (hdf b hb)
 ·obtain ⟨h5,k5,hY5⟩:=HF.out
  obtain ⟨h6,k6,hs6,k06,hn3w,hPn,hPy,_⟩:=HZ.out
  rcases h5 with ⟨h0,_⟩ | ⟨_,rfl,_⟩
  ·exact absurd h0 (by decide)
  rcases h6 with ⟨h0,_⟩ | ⟨_,rfl⟩
  ·exact absurd h0 (by decide)
  have HQ:=Lib.hid k06
  clear k5 hY5 k6 hs6 k06 hn3w hPn hPy hblk6
  go_wp2_with fail
  go_ret
  exact ⟨rfl,HH.out.1.still HH.out.2.2.2.1 HQ.out⟩
end
theorem get_rec [bn:Inhabited Ban] {base:Nat} {w:World} {q g m width k:Nat} {lv:Value} {L:LedS} {r:RecS} (h:Zv base w q g m lv L) (hok:L.Ok width) (hrec:L.recs.length<=1073741824) (hr:L.recs[k]?=some r) :
  Calls Tryz.prog 78 #[.pointer (some ⟨q,0,none⟩),.agg #[.int .i64 r.who,.int .u64 r.n]] w fun e w'=>∃ v,e=.returned (.tuple #[.agg #[.int .i64 r.s.c,v],.bool true])/\OwnB w' w.heap.size v r.s.body/\Keep No w w':=by
 obtain ⟨j,hj⟩:=posR_mem (List.mem_of_getElem? hr)
 obtain ⟨r',hr',h1,h2⟩:=posR_some hj
 have e:r'=r:=by
  have hp:=List.pairwise_iff_getElem.1 hok.once
  obtain ⟨hkl,ek⟩:=List.getElem?_eq_some_iff.1 hr
  obtain ⟨hjl,ej⟩:=List.getElem?_eq_some_iff.1 hr'
  have h1:r'.who=r.who:=by omega
  rcases Nat.lt_trichotomy j k with hlt | heq | hgt
  ·exact absurd ⟨by rw [ej,ek,h1],by rw [ej,ek,h2]⟩ (hp j k hjl hkl hlt)
  ·subst heq
   rw [<- ej,ek]
  ·exact absurd ⟨by rw [ej,ek,h1],by rw [ej,ek,h2]⟩ (hp k j hkl hjl hgt)
 subst e
 exact gGet_some h r'.who r'.n hj hr' hrec (by have:=(hok.had r' (List.mem_of_getElem? hr)).2.2.1.2.2;omega)
theorem Log7.reads {j cnt:Nat} {all:List Qs} {ss:List SegL} {d:Qr} {x:Qn} (h:Log7 j cnt all ss d x) (hj:j<=900) :
  Yk d.now=(segMap ss).map (·.1)/\(∀ (i:Nat) (e:Int × Qs),(segMap ss)[i]?=some e->d.read e.1=(e.2,0))/\d.now.length<=10000/\msum d.now<=1099511627776/\(segMap ss).length<=10000/\segs6 x.l=segMap ss:=by
 have hg:=h.good
 have hmS:=hg.sorted
 have hmap:Jf (segMap ss) d.now:=by rw [<- hg.map];exact h.rel.now
 have hkeys:Yk d.now=(segMap ss).map (·.1):=sortedKeys_eq hmS h.rel.kn hmap
 have hml:(segMap ss).length=ss.length:=List.length_map _
 have hnl:d.now.length=ss.length:=by rw [<- sortedKeys_length,hkeys,List.length_map,hml]
 have hle:=hg.len
 have hsu:=hg.sum
 have hsl:ss.length<=10000:=(hg.segsOk (by omega)).few
 refine ⟨hkeys,fun i e he=>?_,by omega,by have h1:=h.rel.sum;have h2:=Ud x.l;omega,by omega,hg.map⟩
 have h1:=hmap e.1
 rw [mget_mem hmS.keys (List.mem_of_getElem? he)] at h1
 simp [Qr.read,<- h1]
theorem P16.agent [bn:Inhabited Ban] {base:Nat} {w:World} {P q g m p n s r xq width j cnt:Nat} {lv wv sgv rlv lvd:Value} {size:Int} {ss:List SegL} {ts:List LRec} {d:Qr} {x:Qn} {L:LedS} (h:P16 base w P q g m lv p n s wv sgv rlv r xq lvd width size ss ts d x L j cnt) {a:Nat} (ha:a<16) :
  ∃ (y:AgS) (t:Nat),L.ag[a]?=some y/\L.now[a]?=some (y.floor,y.now)/\(told width (ts.take cnt)).now[a]?=some (t,y.safe)/\y.now.Ok/\y.safe.Ok:=by
 obtain ⟨y,hy,hyo,_,_⟩:=h.led.ok.at ha
 have hT:(told width (ts.take cnt)).Ok width:=Gb h.led.ok.wide (h.doc.tls.take cnt).can
 obtain ⟨y',hy',hyo',_,_⟩:=hT.at ha
 have e:=congrArg (fun l=>l[a]?) h.safe.ags
 simp only [List.getElem?_map,hy,hy',Option.map_some,Option.some.injEq] at e
 refine ⟨y,y'.floor,hy,by unfold LedS.now;rw [List.getElem?_map,hy];rfl,?_,hyo.now,by rw [e];exact hyo'.now⟩
 unfold LedS.now
 rw [List.getElem?_map,hy',e]
 rfl
section
variable [bn:Inhabited Ban] {base:Nat} {w:World} {P q g m p n s r xq width j cnt:Nat} {lv wv sgv rlv lvd:Value} {size:Int} {ss:List SegL} {ts:List LRec} {d:Qr} {x:Qn} {L:LedS}
structure Asks16 (base:Nat) (w:World) (q r width:Nat) (L T:LedS) (cnt:Nat):Prop where
 told:∀ X,Keep No w X->Calls Tryz.prog 74 #[.pointer (some ⟨r,0,none⟩),.int .i64 (-1)] X fun e w'=>∃ cs,e=.returned (.tuple #[.agg cs,.int .i64 0])/\StOf base w' cs L/\Keep No X w'
 safe:∀ X,Keep No w X->Calls Tryz.prog 74 #[.pointer (some ⟨r,0,none⟩),.int .i64 (cnt:Int)] X fun e w'=>∃ cs,e=.returned (.tuple #[.agg cs,.int .i64 0])/\StOf base w' cs T/\Keep No X w'
 inc:∀ X,Keep No w X->Calls Tryz.prog 15 #[.pointer (some ⟨q,0,none⟩)] X fun e w'=>e=.returned (.int .u64 L.inc)/\w'=X
 all:∀ X,Keep No w X->Calls Tryz.prog 13 #[.pointer (some ⟨q,0,none⟩)] X fun e w'=>∃ v,e=.returned v/\Yi base w' v L.recs/\Keep No X w'
 stored:∀ X,Keep No w X->Calls Tryz.prog 14 #[.pointer (some ⟨q,0,none⟩)] X fun e w'=>∃ v,e=.returned v/\Yi base w' v T.recs/\Keep No X w'
 agent:∀ (a:Nat),a<16->∃ (fl tf:Nat) (wn ws:WinS),L.now[a]?=some (fl,wn)/\T.now[a]?=some (tf,ws)/\wn.Ok/\ws.Ok /\
  (∀ X,Keep No w X->Calls Tryz.prog 39 #[.pointer (some ⟨q,0,none⟩),.int .i64 a] X fun e w'=>e=.returned (.int .u64 fl)/\w'=X) /\
  (∀ X,Keep No w X->Calls Tryz.prog 37 #[.pointer (some ⟨q,0,none⟩),.int .i64 a] X fun e w'=>∃ u,e=.returned u/\WinV w' u wn/\Keep No X w') /\
  (∀ X,Keep No w X->Calls Tryz.prog 77 #[.pointer (some ⟨q,0,none⟩),.int .i64 a] X fun e w'=>∃ u,e=.returned u/\WinV w' u ws/\Keep No X w')
 get:∀ (k:Nat) r,L.recs[k]?=some r->∀ X,Keep No w X->Calls Tryz.prog 78 #[.pointer (some ⟨q,0,none⟩),.agg #[.int .i64 r.who,.int .u64 r.n]] X fun e w'=>∃ v,e=.returned (.tuple #[.agg #[.int .i64 r.s.c,v],.bool true])/\Qv base w' v r.s.body/\Keep No X w'
 nL:L.recs.length<=1000000
 nT:T.recs.length<=1000000
theorem P16.asks (h:P16 base w P q g m lv p n s wv sgv rlv r xq lvd width size ss ts d x L j cnt) (hb:base<=w.heap.size) (hT:ban.top<=w.heap.size):Asks16 base w q r width L (told width (ts.take cnt)) cnt:=by
 have hmany:=h.doc.many
 have hrecs:=h.many
 have hg:=h.doc.lg7.good
 have hlen:=hg.len
 have hsum:=hg.sum
 have hj:=h.doc.jle
 have hcnt:=h.safe.le
 have hbl:∀ r∈L.recs,r.s.body.length<=1073741824:=fun r hr=>by have:=(h.led.ok.had r hr).2.2.1.2.2;omega
 have hTl:(told width (ts.take cnt)).recs.length<=8*cnt:=(h.lit cnt hcnt).1
 refine ⟨fun X k=>(h.doc.no k).told (Nat.le_trans hb k.size) (Nat.le_trans hT k.size),fun X k=>?_,fun X k=>gInc_spec (h.led.led.no k),fun X k=>?_,fun X k=>?_,fun a ha=>?_,fun i rc hr X k=>?_,by omega,by omega⟩
 ·have:=r16Told_at (h.doc.mem.no k) (Nat.le_trans hb k.size) (Nat.le_trans hT k.size) (by omega) (by omega) hg.map (hg.segsOk (by omega)) h.doc.lg7.recs h.doc.okL.wide (by omega) h.doc.few h.doc.tls.can (cnt:Int) (by omega)
  have e:Ra (cnt:Int) ts.length=cnt:=by
   unfold Ra
   rw [if_neg (by omega)]
   omega
  rw [e] at this
  exact this
 ·refine (gAll_spec (h.led.led.no k) (by omega) hbl).mono ?_
  rintro e w' ⟨v,rfl,h1,h2⟩
  exact ⟨v,rfl,h1.at' (Nat.le_trans hT k.size) (Nat.le_trans hb k.size),h2⟩
 ·refine (gStored_spec (h.led.led.no k) (by omega) hbl h.sle).mono ?_
  rintro e w' ⟨v,rfl,h1,h2⟩
  rw [h.safe.recs] at h1
  exact ⟨v,rfl,h1.at' (Nat.le_trans hT k.size) (Nat.le_trans hb k.size),h2⟩
 ·obtain ⟨y,t,h1,h2,h3,h4,h5⟩:=h.agent ha
  exact ⟨y.floor,t,y.now,y.safe,h2,h3,h4,h5,fun X k=>gFloor_in (h.led.led.no k) ha h1,fun X k=>gWindow_in (h.led.led.no k) ha h1,fun X k=>gSafe_in (h.led.led.no k) ha h1⟩
 ·refine (get_rec (h.led.led.no k) h.led.ok (by omega) hr).mono ?_
  rintro e w' ⟨v,rfl,h1,h2⟩
  exact ⟨v,rfl,h1.bytes (fun _=>Nat.le_trans hT k.size),h2⟩
end
section
variable [bn:Inhabited Ban] {base:Nat} {w0 w w' W:World} {P q g m p n s r xq width j cnt:Nat} {lv wv sgv rlv lvd:Value} {size:Int} {ss:List SegL} {ts:List LRec} {d:Qr} {x:Qn} {L:LedS}
theorem do16_crash (h:P16 base w P q g m lv p n s wv sgv rlv r xq lvd width size ss ts d x L j cnt) (hj:j+1<=450) (hb:base<=w.heap.size) (hT:ban.top<=w.heap.size) (hz:1<=size) (kd ba ep:Nat) (ag kp tn:Int) (hkp:kp<=9223372036854775807) (on:Bool) (io:Option Addr) (il ic:Nat) (hk:kd % 7=6) :
  Calls Tryz.prog 26 #[.pointer (some ⟨P,0,none⟩),.agg #[.int .u8 kd,.int .i64 ag,.int .u64 ba,.int .u64 ep,.slice io il ic,.bool on,.int .i64 kp,.int .i64 tn]] w fun e w'=>e=.returned (.bool true)/\Jh base w P width size (j+1) (Uj P q g m lv p n s wv sgv rlv r xq lvd) w':=by
 obtain ⟨W,hW⟩:∃ W,W=w.alloc (.cells #[.int .u8 kd,.int .i64 ag,.int .u64 ba,.int .u64 ep,.slice io il ic,.bool on,.int .i64 kp,.int .i64 tn] 30):=⟨_,rfl⟩
 have kW:Keep No w W:=by rw [hW];exact (Keep.refl _ _).alloc _
 have hA:W.heap[w.heap.size]?=some (.cells #[.int .u8 kd,.int .i64 ag,.int .u64 ba,.int .u64 ep,.slice io il ic,.bool on,.int .i64 kp,.int .i64 tn] 30 (0,0)):=by rw [hW];exact Qy _ _
 have hcr:=crash16_spec (h.no kW) hj (Nat.le_trans hb kW.size) (Nat.le_trans hT kW.size) hz kp tn hkp
 have hk7:Int.tmod (kd:Int) 7=6:=by have:Int.tmod (kd:Int) 7=((kd % 7:Nat):Int):=rfl;rw [this,hk];rfl
 have hk7':(kd:Int) % 7=6:=by omega
 have c0:=Qq hA 0
 have c6:=Qq hA 6
 have c7:=Qq hA 7
 simp at c0 c6 c7
 have HH:=Lib.hid kW
 clear kW hA hk h hj hb hT hz hkp
 go_enter Tryz.func26,Tryz.ntmps26
 go_upto_region 12 with fail
 rw [<- hW]
 clear hW
 go_wp2_with (go_at_call 71;refine hcr.mono ?_;rintro e w1 ⟨rfl,hd⟩;have HX:=Lib.hid (hd.from' HH.out);clear hd)
 go_ret
 exact ⟨rfl,HX.out⟩
theorem do16_any (h:P16 base w P q g m lv p n s wv sgv rlv r xq lvd width size ss ts d x L j cnt) (hj:j+1<=450) (hb:base<=w0.heap.size) (hT:ban.top<=w0.heap.size) (k0:Keep No w0 w) (hB:∀ b,Uj P q g m lv p n s wv sgv rlv r xq lvd b->w0.heap.size<=b) (hz:1<=size) (kd ba ep:Nat) (ag kp tn:Int) (hkp:kp<=9223372036854775807) (on:Bool) (io:Option Addr) (il ic:Nat) (items:List Qc) (hits:Rw base w0 (.slice io il ic) items) :
  Calls Tryz.prog 26 #[.pointer (some ⟨P,0,none⟩),.agg #[.int .u8 kd,.int .i64 ag,.int .u64 ba,.int .u64 ep,.slice io il ic,.bool on,.int .i64 kp,.int .i64 tn]] w fun e w'=>e=.returned (.bool true)/\Jh base w P width size (j+1) (Uj P q g m lv p n s wv sgv rlv r xq lvd) w':=by
 have hbw:=Nat.le_trans hb k0.size
 have hTw:=Nat.le_trans hT k0.size
 have h7:kd % 7<7:=Nat.mod_lt _ (by decide)
 by_cases h2:kd % 7<=2
 ·exact do16_put h hj hb hT k0 hB kd ba ep ag kp tn on io il ic items hits h2
 ·by_cases h3:kd % 7=3
  ·exact do16_raise h hj hbw hTw kd ba ep ag kp tn on io il ic h3
  ·by_cases h4:kd % 7=4
   ·exact do16_sync h hj hbw hTw kd ba ep ag kp tn on io il ic h4
   ·by_cases h5:kd % 7=5
    ·exact do16_full h hj kd ba ep ag kp tn on io il ic h5
    ·exact do16_crash h hj hbw hTw hz kd ba ep ag kp tn hkp on io il ic (by omega)
end
theorem Log7.start (room:Int) (h0:0<=room) (h1:room<=1000000):Log7 0 0 [] [] { room:=room,full:=false,now:=[],safe:=[],wait:=[] } { room:=room,full:=false,l:=[],safe:=0 } :=
 ⟨⟨rfl,rfl,fun _=>rfl,fun _=>rfl,Int.le_refl _,Int.le_refl _,rfl,Keys.nil,Keys.nil⟩,Good.nil,Inv.nil _ (fun _=>⟨0,Nat.le_refl _,Nat.le_refl _,rfl,rfl⟩),rfl,rfl,Nat.le_refl _,h0,h1⟩
theorem new_both [bn:Inhabited Ban] (base width:Nat) (size room:Int) (hr:100<=room/\room<=1000000) (hw:1<=width/\width<=1024) (hz:1<=size) :
  ∃ (ss2:List SegL) (d2:Qr) (x2:Qn),BothOpen base width size 0 { room:=max room 0,full:=false,now:=[],safe:=[],wait:=[] } { room:=room,full:=false,l:=[],safe:=0 } 0 1 ss2 [.inc 1] d2 x2 ((LedS.start width).step (.inc 1))/\d2.full=false/\d2.room=room/\msum d2.now<=60:=by
 have e:max room 0=room:=by omega
 rw [e]
 have h7:=Log7.start room (by omega) hr.2
 obtain ⟨c,ss2,ts2,d2,x2,L2,hc,hbo,h0,h5,h6⟩:=open_any (bn:=bn) (base:=base) (t1:=[]) (width:=width) (size:=size) (j:=0) (show Log7 0 0 (Zk []) [] _ _ from h7) ⟨rfl,rfl,rfl,fun k r hr=>by simp at hr⟩ (by simp) (fun k hk=>by
  obtain rfl:k=0:=by simpa using hk
  exact ⟨Nat.le_refl _,Nat.le_refl _⟩) (by omega) hw hz
 rcases hc with rfl | rfl
 ·obtain ⟨rfl,rfl⟩:=h0 rfl
  exact ⟨ss2,d2,x2,hbo,(h6 rfl).1,(h6 rfl).2.1,by have:=(h6 rfl).2.2;have h:msum ([]:AMap)=0:=rfl;rw [h] at this;omega⟩
 ·rcases h5 rfl with h | h
  ·simp at h
  ·have:msum ([]:AMap)=0:=rfl
   dsimp only at h
   rw [this] at h
   omega
def Kr:List Qc:=[⟨1,⟨0,[]⟩⟩,⟨3,⟨0,[]⟩⟩]
def awLG:LedS:=((LedS.start 9).step (.inc 1)).sync
theorem awp1G:(pick ((awLG.win 0).skip 1) Kr).map (·.n)=[1,3]/\awLG.putR 0 1 Kr=some (.put 0 1 Kr):=by
 have h:pick ((awLG.win 0).skip 1) Kr=Kr:=by kernel_rfl
 refine ⟨by rw [h];rfl,?_⟩
 unfold LedS.putR
 rw [h,if_neg (fun h=>by cases h.1)]
theorem awp2G:pick (((awLG.step (.put 0 1 Kr)).win 0).skip 1) Kr=[]:=by kernel_rfl
theorem awRightG:Yv 1 Kr=true:=by kernel_rfl
theorem awItG_atG [bn:Inhabited Ban] {base:Nat} {w:World} {b:Nat} {t:TypeId} (ht:t=111) (hb:w.heap[b]?=some (.cells #[.int .u64 1,.int .i64 0,.slice none 0 0,.int .u64 3,.int .i64 0,.slice none 0 0] t (0,0))) (hB:base<=b):Xr base w base (.slice (some ⟨b,0,none⟩) 2 2) Kr:=by
 subst ht
 refine ⟨[(⟨1,⟨0,[]⟩⟩,.slice none 0 0),(⟨3,⟨0,[]⟩⟩,.slice none 0 0)],rfl,fun x hx=>?_,rfl,.inr ⟨b,2,_,rfl,hB,hb,Nat.le_refl _,by decide,rfl,rfl⟩⟩
 rcases List.mem_cons.1 hx with rfl | hx
 ·exact Qv.nil _ _
 ·obtain rfl:x=_:=List.mem_singleton.1 hx
  exact Qv.nil _ _
theorem usAt_twoG (w:World) (a b:Nat):UsAt (w.alloc (.cells #[.int .u64 a,.int .u64 b] 27)) (.slice (some ⟨w.heap.size,0,none⟩) 2 2) [a,b]:=by
 have hz:=Qy w (.cells #[.int .u64 a,.int .u64 b] 27)
 refine ⟨_,_,rfl,fun _=>⟨_,0,rfl,fun k x hx=>?_⟩⟩
 rw [Qq hz]
 match k,hx with
 | 0,hx=>cases hx;rfl
 | 1,hx=>cases hx;rfl
theorem awLenG:(LRec.put 0 1 Kr).bytes.length=10:=by kernel_rfl
theorem awp3G:(awLG.step (.put 0 1 Kr)).putR 0 1 Kr=none:=by
 unfold LedS.putR
 rw [awp2G]
 exact if_pos ⟨rfl,by kernel_rfl⟩
theorem awake16_g [bn:Inhabited Ban] {w:World} (hT:ban.top<=w.heap.size):Calls Tryz.prog 11 #[] w fun e w'=>e=.returned (.bool true)/\Keep No w w':=by
 have hnew:=new_spec (w:=w) w.heap.size 1000 (Nat.le_refl _)
 obtain ⟨ss2,d2,x2,⟨hgo,_,hend⟩,hf,hr,hm⟩:=new_both (bn:=bn) w.heap.size 9 50 1000 (by decide) (by decide) (by decide)
 have h7:=(hend rfl).1
 clear hend
 obtain ⟨c,ss3,ts3,d3,x3,L3,hwr,_,h73,hcase⟩:=both_append h7 (by decide) 50 awLG (.put 0 1 Kr) (by rw [awLenG];decide)
 rcases hcase with ⟨rfl,rfl,rfl⟩ | ⟨h5,_⟩
 rotate_left
 ·rcases wrote_five hwr h5 with h | h
  ·rw [show d2.sync.full=d2.full from rfl,hf] at h;cases h
  ·rw [show d2.sync.room=d2.room from rfl,show d2.sync.now=d2.now from rfl,hr] at h
   rw [awLenG] at h
   omega
 have HT:=Lib.hid (A5 hT hgo h7 h73 hwr)
 clear hT hgo h7 h73 hwr hf hr hm
 go_enter Tryz.func11,Tryz.ntmps11
 go_upto_region 1 with fail
 go_upto_region 2 with (first
  | (go_at_call 20;refine hop.mono ?_;rintro e w2 ⟨v2,rfl,h2⟩)
  | (go_at_call 48;refine hnew.mono ?_;rintro e w1 ⟨p,n,s,wv,rfl,hD,k1,hn1⟩;have hop:=HT.out.2.1 _ _ _ _ _ hD k1.size (Nat.le_trans HT.out.1 k1.size)))
 rcases h2 with ⟨_,q,g,m,rfl,_,lv,n2,s2,wv2,sgv,rlv,hL,k2,ho2⟩ | ⟨h0,_⟩
 rotate_left
 ·exact absurd h0 (by decide)
 have hinc:Calls Tryz.prog 15 #[.pointer (some ⟨q,0,none⟩)] w2 fun e w'=>e=.returned (.int .u64 1)/\w'=w2:=gInc_spec hL.led
 have hk0:Keep No w w2:=k1.absorb k2 hn1
 have hB0:∀ b,Qi q g m lv p n2 s2 wv2 sgv rlv b->w.heap.size<=b:=fun b hb=>by
  rcases ho2 b hb with h | h
  ·exact hn1 b h
  ·exact Nat.le_trans k1.size h
 have HL:=Lib.hid (A3 hL hk0 hB0)
 clear hL hk0 hB0 hop hnew k1 k2 hD hn1 ho2
 go_upto_region 4 with (go_at_call 15;refine hinc.mono ?_;rintro e w3 ⟨rfl,e3⟩;have e3:=e3.symm;subst e3)
 clear hinc
 go_upto_region 5 with fail
 obtain ⟨W,hW⟩:∃ W,W=w2.alloc (.cells #[.int .u64 1,.int .i64 0,.slice none 0 0,.int .u64 3,.int .i64 0,.slice none 0 0] 111):=⟨_,rfl⟩
 have kW:Keep No w2 W:=by rw [hW];exact (Keep.refl _ _).alloc _
 have hB:W.heap[w2.heap.size]?=some (.cells #[.int .u64 1,.int .i64 0,.slice none 0 0,.int .u64 3,.int .i64 0,.slice none 0 0] 111 (0,0)):=by rw [hW];exact Qy _ _
 rw [<- hW]
 clear hW
 have hw2:w.heap.size<=W.heap.size:=Nat.le_trans HL.out.2.1.size kW.size
 have hits:=awItG_atG (base:=w.heap.size) rfl hB HL.out.2.1.size
 have hLW:=HL.out.1.no kW
 have hput:=gPut_g (a:=0) (b:=1) hLW HT.out.2.2.1.good (by decide) (HT.out.2.2.1.small (by decide)) (by decide) hits awRightG (by decide) (by decide) (by decide) hw2 (Nat.le_trans HT.out.1 hw2) (fun r e=>by
  have e:awLG.putR 0 1 Kr=some r:=e
  rw [awp1G.2] at e
  cases e
  exact HT.out.2.2.2.2)
 change Calls _ _ _ _ (fun e w'=>∃ tv,e=.returned (.tuple #[tv,.int .i64 (putC 0 (awLG.putR 0 1 Kr))])/\OwnN w' W.heap.size tv (if putC 0 (awLG.putR 0 1 Kr)=0 then ((pick ((awLG.win 0).skip 1) Kr).map (·.n)) else [])/\PutG w.heap.size W q g m p 9 50 ss3 _ d3 _ _ w' (awLG.putR 0 1 Kr)) at hput
 rw [awp1G.1,awp1G.2] at hput
 have hput:Calls Tryz.prog 24 #[.pointer (some ⟨q,0,none⟩),.int .i64 0,.int .u64 1,.slice (some ⟨w2.heap.size,0,none⟩) 2 2] W (fun e w'=>∃ ta tc,e=.returned (.tuple #[.slice ta 2 tc,.int .i64 0])/\OwnN w' W.heap.size (.slice ta 2 tc) [1,3]/\Ga w.heap.size W q g m p 9 50 ss3 ([LRec.inc 1]++[.put 0 1 Kr]) d3 (awLG.step (.put 0 1 Kr)) (Qi q g m lv p n2 s2 wv2 sgv rlv) w'):=by
  refine hput.mono ?_
  rintro e w' ⟨tv,rfl,ho,hp⟩
  obtain ⟨ta,tc,rfl,_,_⟩:=ho.form
  exact ⟨ta,tc,rfl,ho,hp⟩
 have HW:=Lib.hid (A5 (HL.out.2.1.then kW) hw2 hits hLW hB)
 clear kW hB hits hw2 hLW
 go_upto_region 6 with (go_at_call 24;refine hput.mono ?_;rintro e w4 ⟨ta,tc,rfl,hown,lv4,n4,s4,wv4,sgv4,rlv4,hL4,k4,ho4⟩)
 clear hput
 have hw4:w.heap.size<=w4.heap.size:=Nat.le_trans HW.out.2.1 k4.size
 have hits4:=HW.out.2.2.1.keep HW.out.2.2.2.1.foot k4 (fun b hb=>by
  have e:b=w2.heap.size:=by simpa [Value.ownBlock] using hb.symm
  subst e
  exact HW.out.2.2.2.1.notCells HW.out.2.2.2.2 (by simp))
 have hput2:=gPut_g (c:=0) (ss':=ss3) (ts':=[]) (d':=d3) (L':=awLG) (a:=0) (b:=1) hL4 HT.out.2.2.2.1.good (by decide) (HT.out.2.2.2.1.small (by decide)) (by decide) hits4 awRightG (by decide) (by decide) (by decide) hw4 (Nat.le_trans HT.out.1 hw4) (fun r e=>by
  rw [awp3G] at e
  cases e)
 rw [awp3G] at hput2
 have hput2:Calls Tryz.prog 24 #[.pointer (some ⟨q,0,none⟩),.int .i64 0,.int .u64 1,.slice (some ⟨w2.heap.size,0,none⟩) 2 2] w4 (fun e w'=>∃ ao cap,e=.returned (.tuple #[.slice ao 0 cap,.int .i64 0])/\Keep No w4 w'):=by
  refine hput2.mono ?_
  rintro e w' ⟨tv,rfl,ho,ha⟩
  rw [awp2G] at ho
  obtain ⟨ao,cap,rfl,_,_⟩:=ho.form
  exact ⟨ao,cap,rfl,ha⟩
 have hk4:Keep No w w4:=HW.out.1.absorb k4 HL.out.2.2
 have HX:=Lib.hid (A2 hown hk4)
 clear hown hits4 hL4 k4 hw4 ho4 hk4
 go_upto_region 7 with (go_at_call 24;refine hput2.mono ?_;rintro e w5 ⟨sa,sc,rfl,k5⟩)
 clear hput2
 have k6:Keep No w5 (w5.alloc (.cells #[.int .u64 (1:Nat),.int .u64 (3:Nat)] 27)):=(Keep.refl _ _).alloc _
 have heq:=eq64_spec ((HX.out.1.keep k5 (fun _ _ e=>e)).nums.no k6) (usAt_twoG w5 1 3) (by decide) (by decide)
 have HK:=Lib.hid ((HX.out.2.then k5).then k6)
 clear k6 k5
 go_wp2_with (go_at_call 49;refine heq.mono ?_;rintro e w7 ⟨rfl,k7⟩)
 go_ret
 exact ⟨rfl,HK.out.then k7⟩
end Go.Proofs.YtfdmbomlkpkegaaGreat
