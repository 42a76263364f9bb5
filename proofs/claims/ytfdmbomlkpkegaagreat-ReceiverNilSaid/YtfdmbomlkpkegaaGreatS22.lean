/- Lemmas for ReceiverNil. -/
import Derived.Test.YtfdmbomlkpkegaaGreatS20
import Derived.Test.YtfdmbomlkpkegaaGreatS17
import Derived.Test.YtfdmbomlkpkegaaGreatS2
import Derived.Test.YtfdmbomlkpkegaaGreatS1
import Derived.OwnWalk
set_option maxRecDepth 100000
set_option maxHeartbeats 8000000
set_option linter.all false
namespace Go.Proofs.YtfdmbomlkpkegaaGreat
open Go Go.RowKit Go.Dr
def Xh (L:LogS):SegV:={ n:=match L.segs.getLast? with | none=>1 | some s=>s.n+1,first:=L.next,count:=0,size:=0,whole:=true,headed:=true }
def appS (L:LogS):SegV:=if Jk L (Ke L) then Xh L else (L.segs.getLast?).getD (Xh L)
def appB (L:LogS) (r:Qs):Qs:=if Jk L (Ke L) then Xt L.next++recB r else recB r
def LogS.append (L:LogS) (r:Qs):LogS :=
 { size:=L.size,segs:=(if Jk L (Ke L) then L.segs else L.segs.dropLast)++[{ appS L with count:=(appS L).count+1,size:=(appS L).size+(appB L r).length }],recs:=L.recs++[r],next:=L.next+1 }
def Uh (w:World) (B:Nat) (s:SegV):Prop:=w.heap[B]?=some (.cells (Yy s).toArray 265 (0,0))
theorem lsegCells_set (l:List SegV) (s s1:SegV):(((((((Yf (l++[s])).set (l.length*6) (.int .u64 s1.n)).set (l.length*6+1) (.int .u64 s1.first)).set (l.length*6+2) (.int .u64 s1.count)).set (l.length*6+3) (.int .i64 s1.size)).set (l.length*6+4) (.bool s1.whole)).set (l.length*6+5) (.bool s1.headed))=Yf (l++[s1]):=by
 rw [lsegCells_append,lsegCells_append]
 have hl:=lsegCells_length l
 have e:∀ (f:Nat) (b:List Value) (u:Value),(Yf l++b).set (l.length*6+f) u=Yf l++b.set f u:=fun f b u=>by
  rw [List.set_append_right _ _ (by omega),hl]
  congr 2
  omega
 have e0:=e 0
 rw [Nat.add_zero] at e0
 rw [e0,e 1,e 2,e 3,e 4,e 5]
 rfl
theorem lseg_set {w:World} {base rg cap m:Nat} {l:List SegV} {s s1:SegV} (h:Jn base w (.slice (some ⟨rg,0,none⟩) m cap) (l++[s])) (hm:m=l.length+1) (k:Nat) (hk:k=l.length) :
  Jn base ((((((w.setCell ⟨rg,k*6,none⟩ (.int .u64 s1.n)).setCell ⟨rg,k*6+1,none⟩ (.int .u64 s1.first)).setCell ⟨rg,k*6+2,none⟩ (.int .u64 s1.count)).setCell ⟨rg,k*6+3,none⟩ (.int .i64 s1.size)).setCell ⟨rg,k*6+4,none⟩ (.bool s1.whole)).setCell ⟨rg,k*6+5,none⟩ (.bool s1.headed)) (.slice (some ⟨rg,0,none⟩) m cap) (l++[s1]):=by
 subst hk
 have e1:(l++[s]).length=m:=by rw [hm];simp
 have e2:(l++[s1]).length=m:=by rw [hm];simp
 unfold Jn at h ⊢
 rw [e2,<- lsegCells_set l s s1]
 rw [e1] at h
 exact (((((((h.stored _ _).1).stored _ _).1.stored _ _).1.stored _ _).1.stored _ _).1.stored _ _).1
theorem keep_set6 {w:World} {rg:Nat} (a b c d e f:Nat) (u0 u1 u2 u3 u4 u5:Value) :
  Keep (·=rg) w ((((((w.setCell ⟨rg,a,none⟩ u0).setCell ⟨rg,b,none⟩ u1).setCell ⟨rg,c,none⟩ u2).setCell ⟨rg,d,none⟩ u3).setCell ⟨rg,e,none⟩ u4).setCell ⟨rg,f,none⟩ u5):=by
 have hk:=fun (x:World) (hx:Keep (·=rg) w x) (i:Nat) (u:Value)=>Keep.setCell (F:=(·=rg)) hx (p:=⟨rg,i,none⟩) (.inl rfl) u
 exact hk _ (hk _ (hk _ (hk _ (hk _ (hk _ (Keep.refl _ _) a u0) b u1) c u2) d u3) e u4) f u5
theorem lAppend_ok [bn:Inhabited Ban] {base:Nat} {w:World} {g p n s:Nat} {sv lv wv pv:Value} {L:LogS} {d:Qr} {r:Qs} (h:Zd base w g p sv lv L) (hd:Qo base w p n s wv d) (hb:base<=w.heap.size) (hT:ban.top<=w.heap.size)
  (hp:Qv base w pv r) (hr:r.length<=1048576) (hsm:Ur d) (hok:(d.append (appS L).n (appB L r)).2=0) (hnx:L.next+1<=9223372036854775807) (hln:∀ s∈L.segs,0<=s.n/\s.n+1<=9223372036854775807/\s.count+1<=9223372036854775807/\s.size<=1099511627776) (hfew:L.segs.length<=1000000) (hrecs:L.recs.length<=1000000) :
  Calls Tryz.prog 112 #[.pointer (some ⟨g,0,none⟩),pv] w fun e w'=>e=.returned (.tuple #[.int .u64 L.next,.int .i64 0])/\∃ n' s' wv' sv' lv',Zd base w' g p sv' lv' (L.append r)/\Qo base w' p n' s' wv' (d.append (appS L).n (appB L r)).1 /\
   Keep (fun b=>foot p n s wv b\/Yg g sv lv b) w w'/\∀ b,foot p n' s' wv' b\/Yg g sv' lv' b->(foot p n s wv b\/Yg g sv lv b)\/w.heap.size<=b:=by
 have hp0:=hp
 obtain ⟨po,pc,rfl⟩:=hp.form
 have hrec:=lRecord_spec hp0 hT (by omega)
 have hri:¬((1048576:Int)<(r.length:Int)):=by omega
 obtain ⟨so,sc,rfl,hsc1,hsc2⟩:=h.segs.form
 unfold maxLen at hsc2
 obtain ⟨fb,hfb⟩:∃ fb,Jk L (Ke L)=fb:=⟨_,rfl⟩
 have hl:=fun (w':World) (k:Keep No w w')=>llast_spec (h.no k)
 have hf:=fun (w':World) (k:Keep No w w')=>lfresh_spec (h.no k) (Ke L)
 rw [hfb] at hf
 have HF:=Lib.hid (A3 hl hf hfb)
 have HA:=Lib.hid (A7 h hd hb hT hp0 hsm hok)
 have HB:=Lib.hid (A5 hnx hln hfew hrecs hr)
 have c4:=Qq h.blk 4
 have c2:=Qq h.blk 2
 simp at c2 c4
 generalize hrl0:r.length=rl at *
 have HR0:=Lib.hid hrl0
 clear hrl0
 clear hl hf hfb hp hp0 hr hd hb hT hsm hok hnx hln hfew hrecs hsc1 hsc2
 go_enter Tryz.func112,Tryz.ntmps112
 go_upto_block 1 with (first
  | (go_at_call 164;refine (HF.out.2.1 _ ((k1.alloc _).then k3)).mono ?_;rintro e w4 ⟨rfl,rfl⟩;have c2':=((k1.alloc (.cells #[.int .u64 1,.int .u64 L.next,.int .u64 0,.int .i64 0,.bool true,.bool true] 265)).then k3).cell c2 (fun e=>e))
  | (go_at_call 165;refine (HF.out.1 _ (k1.alloc _)).mono ?_;rintro e w3 ⟨rfl,k3⟩)
  | (go_at_call 163;refine hrec.mono ?_;rintro e w1 ⟨v1,rfl,own1,k1⟩;obtain ⟨o1,c1,rfl⟩:=own1.form;have c4':=k1.cell c4 (fun e=>e)))
 have hk4:Keep No w w4:=(k1.alloc (.cells #[.int .u64 1,.int .u64 L.next,.int .u64 0,.int .i64 0,.bool true,.bool true] 265)).then k3
 have hbox:=k3.heap (Qy w1 (.cells #[.int .u64 1,.int .u64 L.next,.int .u64 0,.int .i64 0,.bool true,.bool true] 265)) (fun e=>e)
 have hBge:w.heap.size<=w1.heap.size:=k1.size
 have own4:=own1.keep ((Keep.refl No w1).alloc (.cells #[.int .u64 1,.int .u64 L.next,.int .u64 0,.int .i64 0,.bool true,.bool true] 265) |>.then k3) (fun _ _ e=>e)
 obtain ⟨B,hBB⟩:∃ B,B=w1.heap.size:=⟨_,rfl⟩
 rw [<- hBB] at hbox hBge ⊢
 have H4:=Lib.hid (A3 hk4 hBge own4)
 clear hrec own1 c4 c4' c2 k1 k3 hBB hk4 own4
 go_cut [] (fun wx=>Uh wx B (appS L)/\Keep (·=B) w4 wx)
 case first =>
  have b0:=Qq hbox 0
  have f0:=Qg hbox 0
  simp at b0
  have e1:appS L=if fb then Xh L else (L.segs.getLast?).getD (Xh L):=by unfold appS;rw [HF.out.2.2]
  cases fb with
  | true =>
   have e1:appS L=Xh L:=e1
   by_cases hne:L.segs=[]
   ·have hm0:L.segs.length=0:=by rw [hne];rfl
    have e2:Xh L={ n:=1,first:=L.next,count:=0,size:=0,whole:=true,headed:=true }:=by unfold Xh;rw [hne];rfl
    have hfin:Uh w4 B (appS L):=by unfold Uh;rw [e1,e2];exact hbox
    have HFI:=Lib.hid hfin
    clear hfin hne e1 e2 hbox
    generalize L.segs.length=m at *
    subst hm0
    go_wp2
    go_meet
    exact ⟨HFI.out,Keep.refl _ _⟩
   ·obtain ⟨k,sl,hk,hks,hl⟩:=Un hne
    have e2:Xh L={ n:=sl.n+1,first:=L.next,count:=0,size:=0,whole:=true,headed:=true }:=by unfold Xh;rw [hl]
    have hn:=(HB.out.2.1 sl (List.mem_of_getElem? hks))
    obtain ⟨rg,rfl,s0,_⟩:=(HA.out.1.no H4.out.1).segs.cell hks
    have hnw:IntKind.u64.wrap (sl.n+1)=sl.n+1:=wraps_u64 _ (by omega) (by omega)
    have hbx:=Qz (i:=0) (u:=.int .u64 (sl.n+1)) hbox
    have hfin:Uh (w4.setCell ⟨B,0,none⟩ (.int .u64 (sl.n+1))) B (appS L):=by unfold Uh;rw [e1,e2,hbx];rfl
    have hkf:Keep (·=B) w4 (w4.setCell ⟨B,0,none⟩ (.int .u64 (sl.n+1))):=Keep.setCell (F:=(·=B)) (Keep.refl _ _) (p:=⟨B,0,none⟩) (.inl rfl) _
    have HFI:=Lib.hid (A2 hfin hkf)
    have hfl:=HB.out.2.2.1
    clear hfin hkf hbx hn hne e1 e2 hbox hl hks
    generalize L.segs.length=m at *
    have hw1:IntKind.i64.wrap ((m:Int) - 1)=(k:Int):=by rw [show (m:Int) - 1=(k:Int) by omega];exact IntWalk.i64_in _ (by omega)
    have hm1:(m:Int) - 1=(k:Int):=by omega
    have hm0:(0:Int)<(m:Int):=by omega
    have hkm:(k:Int)<(m:Int):=by omega
    have hkb:(k:Int)<=1099511627776:=by omega
    clear hk hfl
    go_wp2
    go_meet
    exact HFI.out
  | false =>
   have hne:L.segs≠[]:=fun e=>by
    have h1:=HF.out.2.2
    unfold Jk at h1
    rw [e] at h1
    cases h1
   obtain ⟨k,sl,hkk,hks,hl⟩:=Un hne
   have e2:appS L=sl:=by rw [e1,hl];rfl
   obtain ⟨rg,rfl,s0,s1,s2,s3,s4,s5⟩:=(HA.out.1.no H4.out.1).segs.cell hks
   have hfl:=HB.out.2.2.1
   have hx:=Qz (i:=5) (u:=.bool sl.headed) (Qz (i:=4) (u:=.bool sl.whole) (Qz (i:=3) (u:=.int .i64 sl.size) (Qz (i:=2) (u:=.int .u64 sl.count) (Qz (i:=1) (u:=.int .u64 sl.first) (Qz (i:=0) (u:=.int .u64 sl.n) hbox)))))
   have hk:=fun (x:World) (hx:Keep (·=B) w4 x) (i:Nat) (u:Value)=>Keep.setCell (F:=(·=B)) hx (p:=⟨B,i,none⟩) (.inl rfl) u
   have hkx:=hk _ (hk _ (hk _ (hk _ (hk _ (hk _ (Keep.refl _ _) 0 (.int .u64 sl.n)) 1 (.int .u64 sl.first)) 2 (.int .u64 sl.count)) 3 (.int .i64 sl.size)) 4 (.bool sl.whole)) 5 (.bool sl.headed)
   have b1:=Qq hbox 1
   have f1:=Qg hbox 1
   have b2:=Qq hbox 2
   have f2:=Qg hbox 2
   have b3:=Qq hbox 3
   have f3:=Qg hbox 3
   have b4:=Qq hbox 4
   have f4:=Qg hbox 4
   have b5:=Qq hbox 5
   have f5:=Qg hbox 5
   simp at b1 b2 b3 b4 b5
   have HFI:=Lib.hid (A3 hx hkx e2)
   clear hne e1 hl hks hx hk hkx e2 hbox
   generalize L.segs.length=m at *
   have hw1:IntKind.i64.wrap ((m:Int) - 1)=(k:Int):=by rw [show (m:Int) - 1=(k:Int) by omega];exact IntWalk.i64_in _ (by omega)
   have hm1:(m:Int) - 1=(k:Int):=by omega
   have hm0:(0:Int)<(m:Int):=by omega
   have hkm:(k:Int)<(m:Int):=by omega
   have hkb:(k:Int)<=1099511627776:=by omega
   clear hkk hfl
   go_wp2
   go_meet
   refine ⟨?_,HFI.out.2.1⟩
   unfold Uh
   rw [HFI.out.2.2,HFI.out.1]
   rfl
 case rest =>
  obtain ⟨hbox5,k5⟩:=hcut
  generalize wc=w5 at *
  have hk5:Keep No w w5:=H4.out.1.absorb k5 (fun b e=>by rw [e];exact H4.out.2.1)
  have own5:=H4.out.2.2.keep k5 (fun b e1 e2=>by
   subst e2
   rcases H4.out.2.2.2 with ⟨hq,_⟩ | ⟨g',cap',cur',hq,_,hz,_⟩
   ·rw [hq] at e1;simp [Value.ownBlock] at e1
   ·rw [hq] at e1;simp [Value.ownBlock] at e1;subst e1;rw [hbox] at hz;simp at hz)
  have hB5:B<w5.heap.size:=Qt hbox5
  have H5:=Lib.hid (A4 hk5 own5 hbox5 hB5)
  have c4:=Qq (HA.out.1.no hk5).blk 4
  simp at c4
  have hrl:(recB r).length<=1099511627776:=by rw [Zl];have:=HB.out.2.2.2.2;have:=HR0.out;omega
  have HRL:=Lib.hid hrl
  clear hk5 own5 hbox5 hB5 hbox k5 hrl
  generalize (recB r).length=xr at *
  go_upto_if 59 with fail
  go_cut [6] (fun v6 wx=>Qv base wx v6 (appB L r)/\Keep No w5 wx)
  case first =>
   have e1:appB L r=if fb then Xt L.next++recB r else recB r:=by unfold appB;rw [HF.out.2.2]
   have hlh:=lHead_spec (w:=w5) (Nat.le_trans HA.out.2.2.2.1 H5.out.1.size) L.next
   have hb5:=H5.out.2.1.bytes (base:=base) (fun _=>HA.out.2.2.2.1)
   have HE:=Lib.hid (A2 e1 hb5)
   clear e1 hb5
   cases fb with
   | true =>
    go_wp2_with (first
     | (at_builtin;refine Zq rfl _ _ rfl w5.heap.size own6 (HE.out.2.no k6) rfl rfl (by rw [Zr,Zl];have:=HB.out.2.2.2.2;have:=HR0.out;omega) k6.size ?_;intro v7 w7 own7 k7)
     | (go_at_call 166;refine hlh.mono ?_;rintro e w6 ⟨v6,rfl,own6,k6⟩))
    go_meet
    have e:appB L r=Xt L.next++recB r:=HE.out.1
    rw [e]
    exact ⟨own7.bytes (base:=base) (fun _=>Nat.le_trans HA.out.2.2.2.1 H5.out.1.size),k6.trans k7 (fun b hb h=>by have:=(own6.lt b h).1;omega)⟩
   | false =>
    go_wp2
    go_meet
    have e:appB L r=recB r:=HE.out.1
    rw [e]
    exact ⟨HE.out.2,Keep.refl _ _⟩
  case rest =>
   obtain ⟨hb6,k6⟩:=hcut
   generalize wc=w6 at *
   obtain ⟨a6,c6,rfl⟩:=hb6.form
   have hlb:(appB L r).length<=1099511627776:=by
    have h1:=HB.out.2.2.2.2
    have h2:=HR0.out
    unfold appB
    split
    ·rw [List.length_append,Zr,Zl];omega
    ·rw [Zl];omega
   have hk6:=H5.out.1.then k6
   have hbox6:Uh w6 B (appS L):=k6.heap H5.out.2.2.1 (fun e=>e)
   have hD6:=HA.out.2.1.no hk6
   have c0:=Qq (HA.out.1.no hk6).blk 0
   simp at c0
   have b0:=Qq hbox6 0
   simp [Yy] at b0
   have happ:=fun (w':World) (k:Keep No w6 w')=>append_spec (hD6.no k) (Nat.le_trans HA.out.2.2.1 (hk6.then k).size) HA.out.2.2.2.2.2.1 (appS L).n (hb6.no k) hlb
   rw [HA.out.2.2.2.2.2.2] at happ
   have H6:=Lib.hid (A3 hk6 hbox6 hb6)
   have HLB:=Lib.hid hlb
   clear hk6 hbox6 hb6 hD6 hlb k6 c4
   generalize hxb:(appB L r).length=xb at *
   have HXB:=Lib.hid hxb
   clear hxb
   go_upto_region 15 with fail
   have hfg:¬foot p n s wv g:=HA.out.1.apart HA.out.2.1 (.inl rfl)
   have hfB:¬foot p n s wv B:=fun e=>by have:=HA.out.2.1.foot_lt B e;have:=H4.out.2.1;omega
   refine Ql (fun w'=>Keep (foot p n s wv) w6 w') [0,1,2,3,4,5,6] [7] [8] (by kernel_rfl) (by kernel_rfl) (fun _ _ _ _ _ h=>h) (Keep.refl _ _).drew ?_
   have kd:Keep No w6 w6.drew:=(Keep.refl _ _).drew
   iterate 7 (refine Qk (v:=?_) rfl rfl rfl ?_ ?_;rotate_left;focus (
    intro w' hq
    have c0':=hq.cell c0 hfg
    have b0':=hq.cell b0 hfB
    go_simp
    try with_reducible rfl))
   refine Qj ?_
   refine Qx rfl rfl (fun K hK=>?_)
   go_simp
   refine (happ _ kd).mono ?_
   rintro e w8 ⟨rfl,n8,s8,wv8,hD8,k8,f8⟩
   have k68:Keep (foot p n s wv) w6 w8:=kd.no.trans k8 (fun _ _ e=>e)
   refine hK _ _ k68 ?_
   clear hK K
   refine Qh (Qu rfl (Qm ?_))
   have hD6:=HA.out.2.1.no H6.out.1
   have hL8:=(HA.out.1.no H6.out.1).byD hD6 k68
   have hp8:=(HA.out.2.2.2.2.1.no H6.out.1).keep hD6.foot_ok k68
   have hbox8:=k68.heap H6.out.2.1 hfB
   have hk8:Keep (foot p n s wv) w w8:=H6.out.1.no.trans k68 (fun _ _ e=>e)
   have h6sz:=(H6.out.1.then kd).size
   have b2:=Qq hbox8 2
   have f2:=Qg hbox8 2
   have b3:=Qq hbox8 3
   have f3:=Qg hbox8 3
   simp [Yy] at b2 b3
   obtain ⟨x1,hx1⟩:∃ x1,x1=(appS L).count+1:=⟨_,rfl⟩
   obtain ⟨z1,hz1⟩:∃ z1,z1=(appS L).size+xb:=⟨_,rfl⟩
   obtain ⟨s1,hs1⟩:∃ s1:SegV,s1={ appS L with count:=x1,size:=z1 }:=⟨_,rfl⟩
   have hxs:=Qz (i:=3) (u:=.int .i64 z1) (Qz (i:=2) (u:=.int .u64 x1) hbox8)
   have hbox9:Uh ((w8.setCell ⟨B,2,none⟩ (.int .u64 x1)).setCell ⟨B,3,none⟩ (.int .i64 z1)) B s1:=by
    unfold Uh
    rw [hxs,hs1]
    rfl
   have hk9:Keep (·=B) w8 ((w8.setCell ⟨B,2,none⟩ (.int .u64 x1)).setCell ⟨B,3,none⟩ (.int .i64 z1)) :=
    Keep.setCell (F:=(·=B)) (Keep.setCell (F:=(·=B)) (Keep.refl _ _) (p:=⟨B,2,none⟩) (.inl rfl) _) (p:=⟨B,3,none⟩) (.inl rfl) _
   have hcs:(appS L).count+1<=9223372036854775807/\(appS L).size<=1099511627776:=by
    unfold appS
    split
    ·exact ⟨by show 0+1<=9223372036854775807;decide,by show 0<=1099511627776;decide⟩
    ·cases hgl:L.segs.getLast? with
     | none=>exact ⟨by show 0+1<=9223372036854775807;decide,by show 0<=1099511627776;decide⟩
     | some sl=>have:=HB.out.2.1 sl (List.mem_of_getLast? hgl);exact ⟨this.2.2.1,this.2.2.2⟩
   have hw2:IntKind.u64.wrap (((appS L).count:Int)+1)=(x1:Int):=by rw [wraps_u64 _ (by omega) (by omega)];omega
   have hzz:((appS L).size:Int)+(xb:Int)=(z1:Int):=by omega
   have hw3:IntKind.i64.wrap (z1:Int)=(z1:Int):=by have:=HLB.out;exact IntWalk.i64_in _ (by omega)
   have hzb:(z1:Int)<=9223372036854775807:=by have:=HLB.out;omega
   have H8:=Lib.hid (A13 hbox9 hk9 hL8 hp8 hk8 h6sz hD8 f8 hs1 hcs hbox8 hx1 hz1)
   clear hbox9 hk9 hL8 hp8 hk8 h6sz hD8 f8 hs1 hcs hx1 hz1 hxs hD6 k68 k8 kd c0 b0 happ hbox8
   generalize hcn:(appS L).count=cn at *
   generalize hzn:(appS L).size=zn at *
   have HCN:=Lib.hid (A2 hcn hzn)
   clear hcn hzn
   go_upto_if 88 with fail
   generalize ((w8.setCell ⟨B,2,none⟩ (.int .u64 x1)).setCell ⟨B,3,none⟩ (.int .i64 z1))=w9 at *
   clear b2 f2 b3 f3 hw2 hzz hw3 hzb
   obtain ⟨hbox9,hk9,hL8,hp8,hk8,h6sz,hD8,f8,hs1,_,hbox8,hx1,hz1⟩:=H8.out
   have hBb:base<=B:=Nat.le_trans HA.out.2.2.1 H4.out.2.1
   have hFB:=box_foot hbox8 hBb
   have hLB:∀ b,Yg g (.slice so L.segs.length sc) lv b->b≠B:=fun b hb e=>by have h1:=HA.out.1.lt b hb;have h2:=H4.out.2.1;omega
   have hL9:=hL8.keep hFB hk9 hLB
   have hD9:=hD8.keep hFB hk9 (fun b hb e=>by
    rcases f8 b hb with h | h
    ·exact hfB (e ▸ h)
    ·have:=Qt H6.out.2.1
     have:=(Keep.refl No w6).drew.size
     omega)
   have hp9:=hp8.keep hFB hk9
   have hk69:Keep (foot p n s wv) w w9:=hk8.trans hk9 (fun b hb e=>by have:=H4.out.2.1;omega)
   have HW:=Lib.hid (A9 hL9 hD9 hp9 hk69 f8 hs1 hx1 hz1 h6sz)
   clear hD9 hp9 hk69 hk9 hL8 hp8 hk8 h6sz hD8 f8 hs1 hx1 hz1 hbox8 hFB hLB hBb H8
   go_cut [] (fun wx=>∃ sv',Zd base wx g p sv' lv { L with segs:=(if fb then L.segs else L.segs.dropLast)++[s1] }/\Keep (Yg g (.slice so L.segs.length sc) lv) w9 wx/\∀ b,sv'.ownBlock=some b->(Value.slice so L.segs.length sc).ownBlock=some b\/w9.heap.size<=b)
   case first =>
    have d2:=Qq hL9.blk 2
    simp at d2
    have b0:=Qq hbox9 0
    have b1:=Qq hbox9 1
    have b2:=Qq hbox9 2
    have b3:=Qq hbox9 3
    have b4:=Qq hbox9 4
    have b5:=Qq hbox9 5
    simp [Yy] at b0 b1 b2 b3 b4 b5
    have hng:=hL9.not_seg
    have hnb:¬(Value.slice so L.segs.length sc).ownBlock=some B:=fun e=>by have:=HA.out.1.lt B (.inr (.inl e));have:=H4.out.2.1;omega
    cases fb with
    | true =>
     have gb:=hL9.gb
     have hsegs9:=hL9
     have hfew:=HB.out.2.2.1
     have hwb:base<=w9.heap.size:=Nat.le_trans HA.out.2.2.1 HW.out.2.2.2.1.size
     have HZ:=Lib.hid (A4 hsegs9 hfew hwb hbox9)
     clear hsegs9 hfew hwb hL9 hbox9
     go_upto_region 21 with fail
     refine Ql (fun w'=>Keep (fun b=>(Value.slice so L.segs.length sc).ownBlock=some b) w9 w') [0,1,2,3,4,5] [6,7] [8,9,10] (by kernel_rfl) (by kernel_rfl) (fun _ _ _ _ _ h=>h) (Keep.refl _ _).drew ?_
     iterate 6 (refine Qk (v:=?_) rfl rfl rfl ?_ ?_;rotate_left;focus (
      intro w' hq
      have d2':=hq.cell d2 hng
      have b0':=hq.cell b0 hnb
      have b1':=hq.cell b1 hnb
      have b2':=hq.cell b2 hnb
      have b3':=hq.cell b3 hnb
      have b4':=hq.cell b4 hnb
      have b5':=hq.cell b5 hnb
      go_simp
      try with_reducible rfl))
     refine Qj ?_
     have kd:Keep No w9 (w9.alloc (.cells #[.int .u64 s1.n,.int .u64 s1.first,.int .u64 s1.count,.int .i64 s1.size,.bool s1.whole,.bool s1.headed] 265)).drew:=((Keep.refl _ _).alloc _).drew
     have hb2:=Qy w9 (.cells #[.int .u64 s1.n,.int .u64 s1.first,.int .u64 s1.count,.int .i64 s1.size,.bool s1.whole,.bool s1.headed] 265)
     refine Qx rfl rfl (fun K hK=>?_)
     go_simp
     refine hK _ _ kd.no ?_
     clear hK K
     have hL2:=HZ.out.1.no kd
     refine Qx rfl rfl (fun K hK=>?_)
     refine wp_append_lseg (c:=s1) _ _ rfl hL2.segs rfl (B:=w9.heap.size) hb2 rfl (by have:=HZ.out.2.1;omega) (Nat.le_trans HZ.out.2.2.1 kd.size) ?_
     intro v6 w11 hs6 k6 own6
     have kS:Keep (fun b=>(Value.slice so L.segs.length sc).ownBlock=some b) w9 w11:=kd.no.trans k6 (fun _ _ e=>e)
     refine hK _ _ kS ?_
     clear hK K
     refine Qh (Qu rfl (Qu rfl (Qu rfl (Qm ?_))))
     obtain ⟨hb6,hr6⟩:=hL2.pushedSeg k6 hs6
     obtain ⟨a7,c7,rfl,_,_⟩:=hs6.form
     have hsz:=kd.size
     generalize (L.segs++[s1]).length=x6 at *
     have f2:=Qg hb6 2
     have e2:=Qq hb6 2
     simp at e2
     obtain ⟨hb7,hs7,hr7,k7⟩:=Ut hb6 gb hs6 hr6 2 (.slice a7 x6 c7) rfl
     have hfin:Zd base (w11.setCell ⟨g,2,none⟩ (.slice a7 x6 c7)) g p (.slice a7 x6 c7) lv { L with segs:=L.segs++[s1] }:=⟨hb7,hs7,hr7,gb⟩
     have hk:=(kS.mono (G:=Yg g (.slice so L.segs.length sc) lv) (fun _ _ e=>.inr (.inl e))).trans k7 (fun _ _ e=>.inl e)
     have HF2:=Lib.hid (A4 hfin hk own6 hsz)
     clear hfin hk own6 hsz hb7 hs7 hr7 k7 hb6 hs6 hr6 kS k6 hL2 hb2 kd d2 b0 b1 b2 b3 b4 b5
     go_wp2
     go_meet
     exact ⟨.slice a7 x6 c7,HF2.out.1,HF2.out.2.1,fun b hb=>by
      rcases HF2.out.2.2.1 b hb with h | h
      ·exact .inl h
      ·exact .inr (Nat.le_trans HF2.out.2.2.2 h)⟩
    | false =>
     rcases List.eq_nil_or_concat L.segs with e | ⟨ini,sl,e⟩
     ·exfalso
      have h1:=HF.out.2.2
      unfold Jk at h1
      rw [e] at h1
      cases h1
     ·rw [List.concat_eq_append] at e
      have hm:L.segs.length=ini.length+1:=by rw [e];simp
      have hdl:L.segs.dropLast=ini:=by rw [e];simp
      have hsl:L.segs[ini.length]?=some sl:=by rw [e];simp
      obtain ⟨rg,rfl,s0,s1',s2,s3,s4,s5⟩:=hL9.segs.cell hsl
      have kd:Keep No w9 w9.drew:=(Keep.refl _ _).drew
      obtain ⟨_,cur,hzr⟩:=Qa (hL9.no kd).segs rg rfl
      have hrow:Jn base w9.drew (.slice (some ⟨rg,0,none⟩) L.segs.length sc) (ini++[sl]):=by rw [<- e];exact (hL9.no kd).segs
      have hset:=lseg_set (s1:=s1) hrow hm ini.length rfl
      have hk6:=keep_set6 (w:=w9.drew) (rg:=rg) (ini.length*6) (ini.length*6+1) (ini.length*6+2) (ini.length*6+3) (ini.length*6+4) (ini.length*6+5) (.int .u64 s1.n) (.int .u64 s1.first) (.int .u64 s1.count) (.int .i64 s1.size) (.bool s1.whole) (.bool s1.headed)
      have hfl:=HB.out.2.2.1
      have hgr:g≠rg:=fun e=>hng (by simp [Value.ownBlock,e])
      have HZ:=Lib.hid (A6 hset hk6 hL9 hdl hgr kd)
      have t0:=kd.cell s0 (fun e=>e)
      have t1:=kd.cell s1' (fun e=>e)
      have t2:=kd.cell s2 (fun e=>e)
      have t3:=kd.cell s3 (fun e=>e)
      have t4:=kd.cell s4 (fun e=>e)
      have t5:=kd.cell s5 (fun e=>e)
      have f0:=Qg hzr (ini.length*6)
      have f1:=Qg hzr (ini.length*6+1)
      have f2:=Qg hzr (ini.length*6+2)
      have f3:=Qg hzr (ini.length*6+3)
      have f4:=Qg hzr (ini.length*6+4)
      have f5:=Qg hzr (ini.length*6+5)
      clear hset hk6 hL9 hdl hgr s0 s1' s2 s3 s4 s5 hzr hrow e hsl hbox9
      generalize L.segs.length=m at *
      generalize ini.length=k at *
      have hw1:IntKind.i64.wrap ((m:Int) - 1)=(k:Int):=by rw [show (m:Int) - 1=(k:Int) by omega];exact IntWalk.i64_in _ (by omega)
      have hkm:(k:Int)<(m:Int):=by omega
      have hkb:(k:Int)<=1099511627776:=by omega
      clear hm hfl
      go_upto_region 22 with fail
      refine Ql (fun w'=>Keep No w9 w') [0,1,2,3,4,5,6,7,8,10] [9] [11,12] (by kernel_rfl) (by kernel_rfl) (fun _ _ _ _ _ h=>h) kd ?_
      iterate 10 (refine Qk (v:=?_) rfl rfl rfl ?_ ?_;rotate_left;focus (
       intro w' hq
       have d2':=hq.cell d2 (fun e=>e)
       have b0':=hq.cell b0 (fun e=>e)
       have b1':=hq.cell b1 (fun e=>e)
       have b2':=hq.cell b2 (fun e=>e)
       have b3':=hq.cell b3 (fun e=>e)
       have b4':=hq.cell b4 (fun e=>e)
       have b5':=hq.cell b5 (fun e=>e)
       go_simp
       try with_reducible rfl))
      refine Qj ?_
      clear d2 b0 b1 b2 b3 b4 b5
      generalize w9.drew=wd at *
      refine Qx rfl rfl (fun K hK=>?_)
      go_simp
      refine hK _ _ kd ?_
      clear hK K
      refine Qh (Qu rfl (Qu rfl (Qm ?_)))
      go_wp2
      go_meet
      obtain ⟨hset,hk6,hL9,hdl,hgr,kd9⟩:=HZ.out
      have hLd:=hL9.no kd9
      have hnr:∀ b,lv.ownBlock=some b->b≠rg:=fun b e1 e2=>by
       obtain ⟨us,_,_,hrr⟩:=hLd.recs
       obtain ⟨_,cu,hz⟩:=Vf hrr b e1
       obtain ⟨_,cu2,hz2⟩:=Qa hLd.segs rg rfl
       rw [e2,hz2] at hz;simp at hz
      have hFr:Foot base wd (·=rg):=fun b hb=>hLd.foot b (.inr (.inl (by rw [hb];rfl)))
      refine ⟨.slice (some ⟨rg,0,none⟩) m sc,⟨hk6.heap hLd.blk hgr,?_,hLd.recs.keep hFr hk6 hnr,hLd.gb⟩,?_,fun b hb=>.inl hb⟩
      ·show Jn base _ _ (L.segs.dropLast++[s1])
       rw [hdl]
       exact hset
      ·exact kd9.no.trans hk6 (fun b _ e=>.inr (.inl (by rw [e];rfl)))
   case rest =>
    obtain ⟨sv',hL10,k10,own10⟩:=hcut
    generalize wc=w10 at *
    obtain ⟨hL9',hD9,hp9,hk69,f8,hs1,hx1,hz1,h6sz⟩:=HW.out
    have hp10:=hp9.keep hL9'.foot k10
    have hD10:=hD9.byL hL9' k10
    have hclone:=fun (w':World) (k:Keep No w10 w')=>Ju (hp10.no k) (by have:=HR0.out;have:=HB.out.2.2.2.2;omega)
    obtain ⟨lo,lc,rfl,_,_⟩:=hL10.recs.form
    have d3:=Qq hL10.blk 3
    simp at d3
    have hng:¬(Value.slice lo L.recs.length lc).ownBlock=some g:=fun e=>by
     obtain ⟨us,_,_,hrr⟩:=hL10.recs
     obtain ⟨_,cur,hz⟩:=Vf hrr g e
     rw [hL10.blk] at hz;simp at hz
    have hsz10:=Nat.le_trans hk69.size k10.size
    obtain ⟨x2,hx2⟩:∃ x2,x2=L.next+1:=⟨_,rfl⟩
    have hxb:=HB.out.1
    have hw1:IntKind.u64.wrap ((L.next:Int)+1)=(x2:Int):=by rw [wraps_u64 _ (by omega) (by omega)];omega
    have hw2:IntKind.u64.wrap ((x2:Int) - 1)=(L.next:Int):=by rw [wraps_u64 _ (by omega) (by omega)];omega
    have HV:=Lib.hid (A12 hL10 hD10 k10 own10 hk69 f8 hs1 hx1 hz1 h6sz hsz10 hx2)
    have HC:=Lib.hid hclone
    have hrl:=HB.out.2.2.2.1
    clear hL10 hD10 k10 own10 hk69 f8 hs1 hx1 hz1 h6sz hsz10 hx2 hclone hL9' hD9 hp9 hp10 hL9 hbox9 h hxb
    generalize hdm:L.recs.length=dm at *
    have HDM:=Lib.hid (A2 hdm hrl)
    clear hdm hrl
    go_upto_region 23 with fail
    refine Ql (fun w'=>Keep (fun b=>(Value.slice lo dm lc).ownBlock=some b) w10 w') [0,1,2,3,4,5] [6,7,8] [9,10,11] (by kernel_rfl) (by kernel_rfl) (fun _ _ _ _ _ h=>h) (Keep.refl _ _).drew ?_
    have kd3:Keep No w10 w10.drew:=(Keep.refl _ _).drew
    iterate 6 (refine Qk (v:=?_) rfl rfl rfl ?_ ?_;rotate_left;focus (
     intro w' hq
     have d3':=hq.cell d3 hng
     go_simp
     try with_reducible rfl))
    refine Qj ?_
    refine Qx rfl rfl (fun K hK=>?_)
    go_simp
    refine (HC.out _ kd3).mono ?_
    rintro e w11 ⟨v11,rfl,own11,k11⟩
    have hu11:=own11.bytes (base:=base) (fun _=>Nat.le_trans HA.out.2.2.2.1 (Nat.le_trans HV.out.2.2.2.2.2.2.2.2.2.2.1 kd3.size))
    obtain ⟨o11,c11,rfl⟩:=own11.form
    have kd4:=kd3.then k11
    refine hK _ _ kd4.no ?_
    clear hK K
    refine Qx rfl rfl (fun K hK=>?_)
    go_simp
    have kA:Keep No w11 (w11.alloc (.cells #[.slice o11 r.length c11] 59)):=(Keep.refl _ _).alloc _
    have kd5:=kd4.then kA
    have hb5:=Qy w11 (.cells #[.slice o11 r.length c11] 59)
    have hu5:=hu11.no kA
    refine hK _ _ kd5.no ?_
    clear hK K
    have hL5:=HV.out.1.no kd5
    refine Qx rfl rfl (fun K hK=>?_)
    refine wp_append_tail _ _ rfl hL5.recs rfl hb5 rfl hu5 (by show L.recs.length<=_;have:=HDM.out;omega) (Nat.le_trans HA.out.2.2.1 (Nat.le_trans HV.out.2.2.2.2.2.2.2.2.2.2.1 kd5.size)) ?_
    intro v6 w12 hr6 k6' own6
    have kS:Keep (fun b=>(Value.slice lo dm lc).ownBlock=some b) w10 w12:=kd5.no.trans k6' (fun _ _ e=>e)
    refine hK _ _ kS ?_
    clear hK K
    refine Qh (Qu rfl (Qu rfl (Qu rfl (Qm ?_))))
    obtain ⟨hb6,hs6⟩:=hL5.pushed k6' hr6
    obtain ⟨a12,c12,rfl,_,_⟩:=hr6.form
    have hsz5:=kd5.size
    have gb:=hL5.gb
    have hrl:L.recs.length=dm:=HDM.out.1
    generalize hx6:(L.recs++[r]).length=x6 at *
    have f3:=Qg hb6 3
    have e3:=Qq hb6 3
    simp at e3
    obtain ⟨hb7,hs7,hr7,k7⟩:=Ut hb6 gb hs6 hr6 3 (.slice a12 x6 c12) rfl
    have hk36:Keep (Yg g sv' (.slice lo dm lc)) w10 w12:=kS.mono (fun _ _ e=>.inr (.inr e))
    have hk37:Keep (Yg g sv' (.slice lo dm lc)) w10 (w12.setCell ⟨g,3,none⟩ (.slice a12 x6 c12)):=hk36.trans k7 (fun _ _ e=>.inl e)
    have HX:=Lib.hid (A6 own6 hsz5 hs7 hr7 hk37 hb7)
    clear kS k6' k7 hk36 hk37 hs6 hr6 hL5 hb5 hu5 hu11 own11 kd5 kd4 k11 kA own6 hsz5 hs7 hr7 kd3 d3 hb7 hrl hx6
    go_upto_region 24 with fail
    have hb7:=HX.out.2.2.2.2.2
    generalize w12.setCell ⟨g,3,none⟩ (.slice a12 x6 c12)=w13 at *
    clear hb6 f3 e3
    have d4:=Qq hb7 4
    have f4:=Qg hb7 4
    simp at d4
    obtain ⟨hb8,hs8,hr8,k8⟩:=Ut hb7 gb HX.out.2.2.1 HX.out.2.2.2.1 4 (.int .u64 x2) rfl
    have H9:=Lib.hid (A4 hb8 hs8 hr8 k8)
    clear hb8 hs8 hr8 k8 hb7
    go_wp2
    go_ret2
    obtain ⟨hL10,hD10,k10,own10,hk69,f8,hs1,hx1,hz1,h6sz,hsz10,hx2⟩:=HV.out
    obtain ⟨own6,hsz5,_,_,hk37,_⟩:=HX.out
    obtain ⟨hb8,hs8,hr8,k8⟩:=H9.out
    have hk:=hk37.trans k8 (fun _ _ e=>.inl e)
    have e:L.append r={ L with segs:=(if fb then L.segs else L.segs.dropLast)++[s1],recs:=L.recs++[r],next:=x2 }:=by
     unfold LogS.append
     rw [HF.out.2.2,hs1,hx1,hz1,HXB.out,hx2,HCN.out.1,HCN.out.2]
    have hdm:=HDM.out.1
    subst hdm
    refine ⟨rfl,n8,s8,wv8,sv',.slice a12 x6 c12,?_,hD10.byL hL10 hk,?_,?_⟩
    ·rw [e]
     exact ⟨hb8,hs8,hr8,gb⟩
    ·refine ((hk69.mono (G:=fun b=>foot p n s wv b\/Yg g (.slice so L.segs.length sc) (.slice lo L.recs.length lc) b) (fun _ _ e=>.inl e)).trans k10 (fun _ _ e=>.inr e)).trans hk (fun b hb h=>?_)
     rcases h with h | h | h
     ·exact .inr (.inl h)
     ·rcases own10 b h with h | h
      ·exact .inr (.inr (.inl h))
      ·have:=hk69.size;omega
     ·exact .inr (.inr (.inr h))
    ·intro b hb
     rcases hb with hb | hb | hb | hb
     ·rcases f8 b hb with h | h
      ·exact .inl (.inl h)
      ·exact .inr (Nat.le_trans h6sz h)
     ·exact .inl (.inr (.inl hb))
     ·rcases own10 b hb with h | h
      ·exact .inl (.inr (.inr (.inl h)))
      ·exact .inr (Nat.le_trans hk69.size h)
     ·rcases own6 b hb with h | h
      ·exact .inl (.inr (.inr (.inr h)))
      ·exact .inr (Nat.le_trans hsz10 (Nat.le_trans hsz5 h))
end Go.Proofs.YtfdmbomlkpkegaaGreat
namespace Go.Proofs.YtfdmbomlkpkegaaGreat
open Go Go.RowKit
theorem step6_new {k:Int} (p:Qs):∀ {a:AMap},(∀ e∈a,e.1<k)->Xa a ⟨k,p,false⟩=a++[(k,p)]:=by
 intro a
 induction a with
 | nil=>intro _;simp [Xa]
 | cons e m ih =>
  intro h
  have h1:=h e (by simp)
  have h2:=ih (fun e he=>h e (by simp [he]))
  simp [Xa,h1,h2]
theorem step6_last {k:Int} (old p:Qs):∀ {a:AMap},(∀ e∈a,e.1<k)->Xa (a++[(k,old)]) ⟨k,p,false⟩=a++[(k,old++p)]:=by
 intro a
 induction a with
 | nil=>intro _;simp [Xa]
 | cons e m ih =>
  intro h
  have h1:=h e (by simp)
  have h2:=ih (fun e he=>h e (by simp [he]))
  simp [Xa,h1,h2]
def segMap (ss:List SegL):AMap:=ss.map (fun s=>(s.n,s.bytes))
theorem Jy {α:Type} {l:List α} {x y:α} {i:Nat} (h:(l++[x])[i]?=some y):l[i]?=some y\/(i=l.length/\y=x):=by
 by_cases hi:i<l.length
 ·rw [List.getElem?_append_left hi] at h;exact .inl h
 ·rw [List.getElem?_append_right (by omega)] at h
  have h0:i-l.length=0:=by have:=(List.getElem?_eq_some_iff.1 h).1;simp at this;omega
  rw [h0] at h
  simp at h
  exact .inr ⟨by omega,h.symm⟩
theorem Kt {α:Type} {l:List α} {x:α} {i:Nat} (h:i<=l.length):(l++[x]).take i=l.take i:=List.take_append_of_le_length h
theorem torn_rec (p:Qs) (hp:p.length<=1048576) {t:Nat} (ht:t<(recB p).length):TornB ((recB p).take t):=by
 have hl:=Zl p
 by_cases h8:t<8
 ·left;rw [List.length_take];omega
 ·right
  have e:((recB p).take t).take 4=layB p.length 4:=by
   rw [List.take_take,Nat.min_eq_left (by omega)]
   have:=(rec_parts p [] hp).2.2.1
   simpa using this
  rw [e,Uf,Nat.mod_eq_of_lt (by omega),List.length_take]
  omega
theorem torn_nil:TornB []:=.inl (by decide)
def logD (size:Int) (ss:List SegL):LogS:={ Kv size ss with next:=max (Zz 0 ss) 1 }
theorem Uc (size:Int) (ini:List SegL) (sl:SegL):(logD size (ini++[sl])).segs.getLast?=some sl.view:=by simp [logD,Kv]
end Go.Proofs.YtfdmbomlkpkegaaGreat
namespace Go.Proofs.YtfdmbomlkpkegaaGreat
open Go Go.RowKit Go.Dr
theorem Uv (m:AMap) (k:Int) (l:Qs):msum (mset m k ((mget m k).getD []++l))=msum m+l.length:=by
 induction m with
 | nil=>simp [mset,mget,msum]
 | cons e m ih =>
  rw [Zh]
  simp only [mset]
  by_cases h:e.1=k
  ·simp [h,msum];omega
  ·have:(e.1==k)=false:=by simpa using h
   simp only [this,msum,if_neg h,Bool.false_eq_true,if_false]
   rw [ih];omega
end Go.Proofs.YtfdmbomlkpkegaaGreat
namespace Go.Proofs.YtfdmbomlkpkegaaGreat
open Go Go.RowKit
def Kx (g p n s:Nat) (wv sv lv:Value):Nat->Prop:=fun b=>foot p n s wv b\/Yg g sv lv b
theorem Yz (L:LogS) (q:Qs):(appB L q).length<=q.length+20/\q.length+8<=(appB L q).length:=by
 unfold appB
 split
 ·rw [List.length_append,Zr,Zl];omega
 ·rw [Zl];omega
end Go.Proofs.YtfdmbomlkpkegaaGreat
namespace Go.Proofs.YtfdmbomlkpkegaaGreat
open Go Go.RowKit Go.Dr
theorem lAppend_full [bn:Inhabited Ban] {base:Nat} {w:World} {g p n s:Nat} {sv lv wv pv:Value} {L:LogS} {d:Qr} {r:Qs} (h:Zd base w g p sv lv L) (hd:Qo base w p n s wv d) (hb:base<=w.heap.size) (hT:ban.top<=w.heap.size)
  (hp:Qv base w pv r) (hr:r.length<=1048576) (hsm:Ur d) (hok:(d.append (appS L).n (appB L r)).2=5) (hnx:L.next+1<=9223372036854775807) (hln:∀ s∈L.segs,0<=s.n/\s.n+1<=9223372036854775807/\s.count+1<=9223372036854775807/\s.size<=1099511627776) (hfew:L.segs.length<=1000000) (hrecs:L.recs.length<=1000000) :
  Calls Tryz.prog 112 #[.pointer (some ⟨g,0,none⟩),pv] w fun e w'=>e=.returned (.tuple #[.int .u64 0,.int .i64 5])/\∃ n' s' wv',Zd base w' g p sv lv L/\Qo base w' p n' s' wv' (d.append (appS L).n (appB L r)).1 /\
   Keep (foot p n s wv) w w'/\∀ b,foot p n' s' wv' b->foot p n s wv b\/w.heap.size<=b:=by
 have hp0:=hp
 obtain ⟨po,pc,rfl⟩:=hp.form
 have hrec:=lRecord_spec hp0 hT (by omega)
 have hri:¬((1048576:Int)<(r.length:Int)):=by omega
 obtain ⟨so,sc,rfl,hsc1,hsc2⟩:=h.segs.form
 unfold maxLen at hsc2
 obtain ⟨fb,hfb⟩:∃ fb,Jk L (Ke L)=fb:=⟨_,rfl⟩
 have hl:=fun (w':World) (k:Keep No w w')=>llast_spec (h.no k)
 have hf:=fun (w':World) (k:Keep No w w')=>lfresh_spec (h.no k) (Ke L)
 rw [hfb] at hf
 have HF:=Lib.hid (A3 hl hf hfb)
 have HA:=Lib.hid (A7 h hd hb hT hp0 hsm hok)
 have HB:=Lib.hid (A5 hnx hln hfew hrecs hr)
 have c4:=Qq h.blk 4
 have c2:=Qq h.blk 2
 simp at c2 c4
 generalize hrl0:r.length=rl at *
 have HR0:=Lib.hid hrl0
 clear hrl0
 clear hl hf hfb hp hp0 hr hd hb hT hsm hok hnx hln hfew hrecs hsc1 hsc2
 go_enter Tryz.func112,Tryz.ntmps112
 go_upto_block 1 with (first
  | (go_at_call 164;refine (HF.out.2.1 _ ((k1.alloc _).then k3)).mono ?_;rintro e w4 ⟨rfl,rfl⟩;have c2':=((k1.alloc (.cells #[.int .u64 1,.int .u64 L.next,.int .u64 0,.int .i64 0,.bool true,.bool true] 265)).then k3).cell c2 (fun e=>e))
  | (go_at_call 165;refine (HF.out.1 _ (k1.alloc _)).mono ?_;rintro e w3 ⟨rfl,k3⟩)
  | (go_at_call 163;refine hrec.mono ?_;rintro e w1 ⟨v1,rfl,own1,k1⟩;obtain ⟨o1,c1,rfl⟩:=own1.form;have c4':=k1.cell c4 (fun e=>e)))
 have hk4:Keep No w w4:=(k1.alloc (.cells #[.int .u64 1,.int .u64 L.next,.int .u64 0,.int .i64 0,.bool true,.bool true] 265)).then k3
 have hbox:=k3.heap (Qy w1 (.cells #[.int .u64 1,.int .u64 L.next,.int .u64 0,.int .i64 0,.bool true,.bool true] 265)) (fun e=>e)
 have hBge:w.heap.size<=w1.heap.size:=k1.size
 have own4:=own1.keep ((Keep.refl No w1).alloc (.cells #[.int .u64 1,.int .u64 L.next,.int .u64 0,.int .i64 0,.bool true,.bool true] 265) |>.then k3) (fun _ _ e=>e)
 obtain ⟨B,hBB⟩:∃ B,B=w1.heap.size:=⟨_,rfl⟩
 rw [<- hBB] at hbox hBge ⊢
 have H4:=Lib.hid (A3 hk4 hBge own4)
 clear hrec own1 c4 c4' c2 k1 k3 hBB hk4 own4
 go_cut [] (fun wx=>Uh wx B (appS L)/\Keep (·=B) w4 wx)
 case first =>
  have b0:=Qq hbox 0
  have f0:=Qg hbox 0
  simp at b0
  have e1:appS L=if fb then Xh L else (L.segs.getLast?).getD (Xh L):=by unfold appS;rw [HF.out.2.2]
  cases fb with
  | true =>
   have e1:appS L=Xh L:=e1
   by_cases hne:L.segs=[]
   ·have hm0:L.segs.length=0:=by rw [hne];rfl
    have e2:Xh L={ n:=1,first:=L.next,count:=0,size:=0,whole:=true,headed:=true }:=by unfold Xh;rw [hne];rfl
    have hfin:Uh w4 B (appS L):=by unfold Uh;rw [e1,e2];exact hbox
    have HFI:=Lib.hid hfin
    clear hfin hne e1 e2 hbox
    generalize L.segs.length=m at *
    subst hm0
    go_wp2
    go_meet
    exact ⟨HFI.out,Keep.refl _ _⟩
   ·obtain ⟨k,sl,hk,hks,hl⟩:=Un hne
    have e2:Xh L={ n:=sl.n+1,first:=L.next,count:=0,size:=0,whole:=true,headed:=true }:=by unfold Xh;rw [hl]
    have hn:=(HB.out.2.1 sl (List.mem_of_getElem? hks))
    obtain ⟨rg,rfl,s0,_⟩:=(HA.out.1.no H4.out.1).segs.cell hks
    have hnw:IntKind.u64.wrap (sl.n+1)=sl.n+1:=wraps_u64 _ (by omega) (by omega)
    have hbx:=Qz (i:=0) (u:=.int .u64 (sl.n+1)) hbox
    have hfin:Uh (w4.setCell ⟨B,0,none⟩ (.int .u64 (sl.n+1))) B (appS L):=by unfold Uh;rw [e1,e2,hbx];rfl
    have hkf:Keep (·=B) w4 (w4.setCell ⟨B,0,none⟩ (.int .u64 (sl.n+1))):=Keep.setCell (F:=(·=B)) (Keep.refl _ _) (p:=⟨B,0,none⟩) (.inl rfl) _
    have HFI:=Lib.hid (A2 hfin hkf)
    have hfl:=HB.out.2.2.1
    clear hfin hkf hbx hn hne e1 e2 hbox hl hks
    generalize L.segs.length=m at *
    have hw1:IntKind.i64.wrap ((m:Int) - 1)=(k:Int):=by rw [show (m:Int) - 1=(k:Int) by omega];exact IntWalk.i64_in _ (by omega)
    have hm1:(m:Int) - 1=(k:Int):=by omega
    have hm0:(0:Int)<(m:Int):=by omega
    have hkm:(k:Int)<(m:Int):=by omega
    have hkb:(k:Int)<=1099511627776:=by omega
    clear hk hfl
    go_wp2
    go_meet
    exact HFI.out
  | false =>
   have hne:L.segs≠[]:=fun e=>by
    have h1:=HF.out.2.2
    unfold Jk at h1
    rw [e] at h1
    cases h1
   obtain ⟨k,sl,hkk,hks,hl⟩:=Un hne
   have e2:appS L=sl:=by rw [e1,hl];rfl
   obtain ⟨rg,rfl,s0,s1,s2,s3,s4,s5⟩:=(HA.out.1.no H4.out.1).segs.cell hks
   have hfl:=HB.out.2.2.1
   have hx:=Qz (i:=5) (u:=.bool sl.headed) (Qz (i:=4) (u:=.bool sl.whole) (Qz (i:=3) (u:=.int .i64 sl.size) (Qz (i:=2) (u:=.int .u64 sl.count) (Qz (i:=1) (u:=.int .u64 sl.first) (Qz (i:=0) (u:=.int .u64 sl.n) hbox)))))
   have hk:=fun (x:World) (hx:Keep (·=B) w4 x) (i:Nat) (u:Value)=>Keep.setCell (F:=(·=B)) hx (p:=⟨B,i,none⟩) (.inl rfl) u
   have hkx:=hk _ (hk _ (hk _ (hk _ (hk _ (hk _ (Keep.refl _ _) 0 (.int .u64 sl.n)) 1 (.int .u64 sl.first)) 2 (.int .u64 sl.count)) 3 (.int .i64 sl.size)) 4 (.bool sl.whole)) 5 (.bool sl.headed)
   have b1:=Qq hbox 1
   have f1:=Qg hbox 1
   have b2:=Qq hbox 2
   have f2:=Qg hbox 2
   have b3:=Qq hbox 3
   have f3:=Qg hbox 3
   have b4:=Qq hbox 4
   have f4:=Qg hbox 4
   have b5:=Qq hbox 5
   have f5:=Qg hbox 5
   simp at b1 b2 b3 b4 b5
   have HFI:=Lib.hid (A3 hx hkx e2)
   clear hne e1 hl hks hx hk hkx e2 hbox
   generalize L.segs.length=m at *
   have hw1:IntKind.i64.wrap ((m:Int) - 1)=(k:Int):=by rw [show (m:Int) - 1=(k:Int) by omega];exact IntWalk.i64_in _ (by omega)
   have hm1:(m:Int) - 1=(k:Int):=by omega
   have hm0:(0:Int)<(m:Int):=by omega
   have hkm:(k:Int)<(m:Int):=by omega
   have hkb:(k:Int)<=1099511627776:=by omega
   clear hkk hfl
   go_wp2
   go_meet
   refine ⟨?_,HFI.out.2.1⟩
   unfold Uh
   rw [HFI.out.2.2,HFI.out.1]
   rfl
 case rest =>
  obtain ⟨hbox5,k5⟩:=hcut
  generalize wc=w5 at *
  have hk5:Keep No w w5:=H4.out.1.absorb k5 (fun b e=>by rw [e];exact H4.out.2.1)
  have own5:=H4.out.2.2.keep k5 (fun b e1 e2=>by
   subst e2
   rcases H4.out.2.2.2 with ⟨hq,_⟩ | ⟨g',cap',cur',hq,_,hz,_⟩
   ·rw [hq] at e1;simp [Value.ownBlock] at e1
   ·rw [hq] at e1;simp [Value.ownBlock] at e1;subst e1;rw [hbox] at hz;simp at hz)
  have hB5:B<w5.heap.size:=Qt hbox5
  have H5:=Lib.hid (A4 hk5 own5 hbox5 hB5)
  have c4:=Qq (HA.out.1.no hk5).blk 4
  simp at c4
  have hrl:(recB r).length<=1099511627776:=by rw [Zl];have:=HB.out.2.2.2.2;have:=HR0.out;omega
  have HRL:=Lib.hid hrl
  clear hk5 own5 hbox5 hB5 hbox k5 hrl
  generalize (recB r).length=xr at *
  go_upto_if 59 with fail
  go_cut [6] (fun v6 wx=>Qv base wx v6 (appB L r)/\Keep No w5 wx)
  case first =>
   have e1:appB L r=if fb then Xt L.next++recB r else recB r:=by unfold appB;rw [HF.out.2.2]
   have hlh:=lHead_spec (w:=w5) (Nat.le_trans HA.out.2.2.2.1 H5.out.1.size) L.next
   have hb5:=H5.out.2.1.bytes (base:=base) (fun _=>HA.out.2.2.2.1)
   have HE:=Lib.hid (A2 e1 hb5)
   clear e1 hb5
   cases fb with
   | true =>
    go_wp2_with (first
     | (at_builtin;refine Zq rfl _ _ rfl w5.heap.size own6 (HE.out.2.no k6) rfl rfl (by rw [Zr,Zl];have:=HB.out.2.2.2.2;have:=HR0.out;omega) k6.size ?_;intro v7 w7 own7 k7)
     | (go_at_call 166;refine hlh.mono ?_;rintro e w6 ⟨v6,rfl,own6,k6⟩))
    go_meet
    have e:appB L r=Xt L.next++recB r:=HE.out.1
    rw [e]
    exact ⟨own7.bytes (base:=base) (fun _=>Nat.le_trans HA.out.2.2.2.1 H5.out.1.size),k6.trans k7 (fun b hb h=>by have:=(own6.lt b h).1;omega)⟩
   | false =>
    go_wp2
    go_meet
    have e:appB L r=recB r:=HE.out.1
    rw [e]
    exact ⟨HE.out.2,Keep.refl _ _⟩
  case rest =>
   obtain ⟨hb6,k6⟩:=hcut
   generalize wc=w6 at *
   obtain ⟨a6,c6,rfl⟩:=hb6.form
   have hlb:(appB L r).length<=1099511627776:=by
    have h1:=HB.out.2.2.2.2
    have h2:=HR0.out
    unfold appB
    split
    ·rw [List.length_append,Zr,Zl];omega
    ·rw [Zl];omega
   have hk6:=H5.out.1.then k6
   have hbox6:Uh w6 B (appS L):=k6.heap H5.out.2.2.1 (fun e=>e)
   have hD6:=HA.out.2.1.no hk6
   have c0:=Qq (HA.out.1.no hk6).blk 0
   simp at c0
   have b0:=Qq hbox6 0
   simp [Yy] at b0
   have happ:=fun (w':World) (k:Keep No w6 w')=>append_spec (hD6.no k) (Nat.le_trans HA.out.2.2.1 (hk6.then k).size) HA.out.2.2.2.2.2.1 (appS L).n (hb6.no k) hlb
   rw [HA.out.2.2.2.2.2.2] at happ
   have H6:=Lib.hid (A3 hk6 hbox6 hb6)
   have HLB:=Lib.hid hlb
   clear hk6 hbox6 hb6 hD6 hlb k6 c4
   generalize hxb:(appB L r).length=xb at *
   have HXB:=Lib.hid hxb
   clear hxb
   go_upto_region 15 with fail
   have hfg:¬foot p n s wv g:=HA.out.1.apart HA.out.2.1 (.inl rfl)
   have hfB:¬foot p n s wv B:=fun e=>by have:=HA.out.2.1.foot_lt B e;have:=H4.out.2.1;omega
   refine Ql (fun w'=>Keep (foot p n s wv) w6 w') [0,1,2,3,4,5,6] [7] [8] (by kernel_rfl) (by kernel_rfl) (fun _ _ _ _ _ h=>h) (Keep.refl _ _).drew ?_
   have kd:Keep No w6 w6.drew:=(Keep.refl _ _).drew
   iterate 7 (refine Qk (v:=?_) rfl rfl rfl ?_ ?_;rotate_left;focus (
    intro w' hq
    have c0':=hq.cell c0 hfg
    have b0':=hq.cell b0 hfB
    go_simp
    try with_reducible rfl))
   refine Qj ?_
   refine Qx rfl rfl (fun K hK=>?_)
   go_simp
   refine (happ _ kd).mono ?_
   rintro e w8 ⟨rfl,n8,s8,wv8,hD8,k8,f8⟩
   have k68:Keep (foot p n s wv) w6 w8:=kd.no.trans k8 (fun _ _ e=>e)
   refine hK _ _ k68 ?_
   clear hK K
   refine Qh (Qu rfl (Qm ?_))
   have hD6:=HA.out.2.1.no H6.out.1
   have hL8:=(HA.out.1.no H6.out.1).byD hD6 k68
   have hp8:=(HA.out.2.2.2.2.1.no H6.out.1).keep hD6.foot_ok k68
   have hk8:Keep (foot p n s wv) w w8:=H6.out.1.no.trans k68 (fun _ _ e=>e)
   have h6sz:=(H6.out.1.then kd).size
   have H8:=Lib.hid (A5 hL8 hk8 h6sz hD8 f8)
   clear hL8 hp8 hk8 h6sz hD8 f8 hD6 k68 k8 kd c0 b0 happ
   go_wp2
   go_ret2
   exact ⟨rfl,n8,s8,wv8,H8.out.1,H8.out.2.2.2.1,H8.out.2.1,fun b hb=>(H8.out.2.2.2.2 b hb).imp (fun h=>h) (fun h=>Nat.le_trans H8.out.2.2.1 h)⟩
end Go.Proofs.YtfdmbomlkpkegaaGreat
