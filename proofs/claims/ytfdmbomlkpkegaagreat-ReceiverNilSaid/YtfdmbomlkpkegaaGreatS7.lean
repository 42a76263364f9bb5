/- Lemmas for ReceiverNil. -/
import Derived.Test.YtfdmbomlkpkegaaGreatS6
set_option maxRecDepth 100000
set_option maxHeartbeats 8000000
set_option linter.all false
namespace Go.Proofs.YtfdmbomlkpkegaaGreat
open Go Go.RowKit
theorem rAdd_spec {w:World} {v:Value} {l:List RunN} (h:Zy w v l) (hs:RSet l) (n:Nat) (hl:l.length<=268435456) (hn:n<18446744073709551616) :
  Calls Tryz.prog 117 #[.agg #[v],.int .u64 n] w fun e w'=>∃ v',e=.returned (.agg #[v'])/\Zy w' v' (Yq l n n)/\Keep No w w':=by
 obtain ⟨ao,cap,rfl,hc,hm⟩:=h.form
 obtain ⟨W,hW⟩:∃ W,W=(w.alloc (.cells #[.slice ao l.length cap] 90)).alloc (.cells #[.slice none 0 0] 90):=⟨_,rfl⟩
 have hsz:(w.alloc (.cells #[.slice ao l.length cap] 90)).heap.size=w.heap.size+1:=by simp
 have kW:Keep No w W:=by rw [hW];exact ((Keep.refl _ _).alloc _).alloc _
 have hA:W.heap[w.heap.size]?=some (.cells #[.slice ao l.length cap] 90 (0,0)):=by
  rw [hW]
  exact ((Keep.refl No _).alloc _).heap (Qy _ _) (fun e=>e)
 have hB:W.heap[w.heap.size+1]?=some (.cells #[.slice none 0 0] 90 (0,0)):=by
  rw [hW,<- hsz]
  exact Qy _ _
 have hf:=rSpan_spec (h.no kW) hs n n hl (Nat.le_refl _) hn
 have c0:=Qq hA 0
 simp at c0
 have HH:=Lib.hid (A2 kW hB)
 clear hA kW h hs hl hc hm hn hB hsz
 go_enter Tryz.func117,Tryz.ntmps117
 go_wp2_with fail
 rw [<- hW]
 clear hW
 go_wp2_with fail
 refine hf.mono ?_
 rintro e w' ⟨v',rfl,hr,k2⟩
 obtain ⟨o9,c9,rfl,_,_⟩:=hr.form
 have hB:=k2.heap HH.out.2 (fun e=>e)
 have b0:=Qq hB 0
 have fb:=Qg hB
 simp at b0
 go_wp2
 have hZ:=Qz (i:=0) (u:=.slice o9 (Yq l n n).length c9) hB
 have kZ:=Qd (g:=w.heap.size+1) (i:=0) w' (.slice o9 (Yq l n n).length c9)
 have z0:=Qq hZ 0
 simp at z0
 refine bodyPost_ret (v:=.agg #[.slice o9 (Yq l n n).length c9]) (by simp [results,Tryz.results117,go_sem,z0]) rfl ?_
 exact ⟨_,rfl,hr.keep (fun b hb hr=>by obtain ⟨cs,fr,e⟩:=hr;rw [show b=w.heap.size+1 from hb,hB] at e;simp at e) kZ,(HH.out.1.then k2).trans kZ (fun x hx e=>by omega)⟩
theorem pieces_length (a b:Nat) (r:RunN):(Kg a b r).length<=2:=by unfold Kg;split;simp;split <;> split <;> simp
theorem withoutR_length (l:List RunN) (a b:Nat):(Xj l a b).length<=2*l.length:=by
 induction l with
 | nil=>simp [Xj]
 | cons r l ih =>
  have:=pieces_length a b r
  simp only [Xj,List.flatMap_cons,List.length_append,List.length_cons] at ih ⊢
  omega
theorem withoutR_succ {l:List RunN} {a b k:Nat} {r:RunN} (h:l[k]?=some r):Xj (l.take (k+1)) a b=Xj (l.take k) a b++Kg a b r:=by
 obtain ⟨hk,rfl⟩:=List.getElem?_eq_some_iff.1 h
 unfold Xj
 rw [List.take_succ_eq_append_getElem hk,List.flatMap_append]
 simp
theorem run_lit (w:World) (a b:Nat):Zy (w.alloc (.cells #[.int .u64 a,.int .u64 b] 96)) (.slice (some ⟨w.heap.size,0,none⟩) 1 1) [(a,b)]:=by
 have hA:=Qy w (.cells #[.int .u64 a,.int .u64 b] 96)
 refine ⟨some ⟨w.heap.size,0,none⟩,1,rfl,Nat.le_refl _,by decide,fun e=>(by cases e),fun _=>⟨w.heap.size,0,rfl,⟨_,_,hA⟩,fun i r hr=>?_⟩⟩
 match i,hr with
 | 0,hr =>
  simp at hr
  subst hr
  rw [Qq hA,Qq hA]
  exact ⟨rfl,rfl⟩
theorem rWithout_spec {w:World} {v:Value} {l:List RunN} (h:Zy w v l) (hs:RSet l) (a b:Nat) (hl:l.length<=268435456) (hab:a<=b) (hb:b<18446744073709551616) :
  Calls Tryz.prog 202 #[.agg #[v],.agg #[.int .u64 a,.int .u64 b]] w fun e w'=>∃ v',e=.returned (.agg #[v'])/\Zy w' v' (Xj l a b)/\Keep No w w':=by
 obtain ⟨ao,cap,rfl,hc,hm⟩:=h.form
 unfold maxLen at hm
 obtain ⟨W,hW⟩:∃ W,W=((w.alloc (.cells #[.slice ao l.length cap] 90)).alloc (.cells #[.int .u64 a,.int .u64 b] 96)).alloc (.cells #[.slice none 0 0] 90):=⟨_,rfl⟩
 have hsz:(w.alloc (.cells #[.slice ao l.length cap] 90)).heap.size=w.heap.size+1:=by simp
 have hsz2:((w.alloc (.cells #[.slice ao l.length cap] 90)).alloc (.cells #[.int .u64 a,.int .u64 b] 96)).heap.size=w.heap.size+1+1:=by simp
 have kW:Keep No w W:=by rw [hW];exact (((Keep.refl _ _).alloc _).alloc _).alloc _
 have hA:W.heap[w.heap.size]?=some (.cells #[.slice ao l.length cap] 90 (0,0)):=by
  rw [hW]
  exact (((Keep.refl No _).alloc _).alloc _).heap (Qy _ _) (fun e=>e)
 have hX:W.heap[w.heap.size+1]?=some (.cells #[.int .u64 a,.int .u64 b] 96 (0,0)):=by
  rw [hW,<- hsz]
  exact ((Keep.refl No _).alloc _).heap (Qy _ _) (fun e=>e)
 have hB:W.heap[w.heap.size+1+1]?=some (.cells #[.slice none 0 0] 90 (0,0)):=by
  rw [hW,<- hsz2]
  exact Qy _ _
 have c0:=Qq hA 0
 have x0:=Qq hX 0
 have x1:=Qq hX 1
 simp at c0 x0 x1
 have hli:(l.length:Int)<=268435456:=by omega
 have HH:=Lib.hid (A8 kW hB (h.no kW) hs hab hb hl hc)
 clear hA hX kW h hs hl hc hm hB hsz hsz2 hab hb
 go_enter Tryz.func202,Tryz.ntmps202
 go_wp2_with fail
 rw [<- hW]
 clear hW
 go_wp2_with fail
 go_loopw [5,11] (fun ov kv wr=>∃ (k:Nat),kv=.int .i64 k/\k<=l.length/\OwnR wr W.heap.size ov (Xj (l.take k) a b)/\Keep No W wr) (fun _ kv _=>l.length - (intOf kv).toNat)
 case atStart=>exact ⟨0,rfl,Nat.zero_le _,by simp [Xj];exact OwnR.nil _ _,Keep.refl _ _⟩
 case round =>
  obtain ⟨k,rfl,hk,hown,kr⟩:=hrel
  obtain ⟨oo,oc,rfl,_,_⟩:=hown.form
  have y0:=kr.cell c0 (fun e=>e)
  have y1:=kr.cell x0 (fun e=>e)
  have y2:=kr.cell x1 (fun e=>e)
  by_cases hlt:k<l.length
  ·have hr:l[k]?=some l[k]:=List.getElem?_eq_getElem hlt
   generalize l[k]=r at hr
   obtain ⟨hr1,hr2⟩:=HH.out.2.2.2.1.run r (List.mem_of_getElem? hr)
   have hsucc:=withoutR_succ (a:=a) (b:=b) hr
   obtain ⟨g,o,rfl,hrow⟩:=HH.out.2.2.1.row (fun e=>by rw [e] at hlt;simp at hlt)
   have r0:=kr.cell (hrow k r hr).1 (fun e=>e)
   have r1:=kr.cell (hrow k r hr).2 (fun e=>e)
   have hki:(k:Int)<(l.length:Int):=by omega
   have hlen:=withoutR_length (l.take k) a b
   have hlen2:(l.take k).length<=k:=by simp;omega
   obtain ⟨ol,hol⟩:∃ ol,ol=Xj (l.take k) a b:=⟨_,rfl⟩
   rw [<- hol] at hown hsucc hlen ⊢
   have kA:=fun o=>(Keep.refl No wr).alloc o
   have y1A:=fun o=>(kA o).cell y1 (fun e=>e)
   have y2A:=fun o=>(kA o).cell y2 (fun e=>e)
   have hbox:=Qy wr (.cells #[.int .u64 r.1,.int .u64 r.2] 96)
   have ownA:=fun o=>hown.keep (kA o) (fun _ _ e=>e)
   by_cases hc1:r.2<a\/b<r.1
   ·have hp:Kg a b r=[r]:=by unfold Kg;rw [if_pos hc1]
    rw [hp] at hsucc
    have hsrc:=run_lit (wr.alloc (.cells #[.int .u64 r.1,.int .u64 r.2] 96)) r.1 r.2
    rw [World.size_alloc] at hsrc
    have hown2:=(ownA (.cells #[.int .u64 r.1,.int .u64 r.2] 96)).keep ((Keep.refl No _).alloc (.cells #[.int .u64 r.1,.int .u64 r.2] 96)) (fun _ _ e=>e)
    have hlen3:ol.length+[(r.1,r.2)].length<=1099511627776:=by have:=HH.out.2.2.2.2.2.2.1;simp;omega
    have hsz3:W.heap.size<=((wr.alloc (.cells #[.int .u64 r.1,.int .u64 r.2] 96)).alloc (.cells #[.int .u64 r.1,.int .u64 r.2] 96)).heap.size:=by have:=kr.size;simp;omega
    have kfin:=((kr.alloc (.cells #[.int .u64 r.1,.int .u64 r.2] 96)).alloc (.cells #[.int .u64 r.1,.int .u64 r.2] 96))
    have HR:=Lib.hid (A7 hsucc kfin hlt hown2 hsrc hlen3 hsz3)
    by_cases hc2:r.2<a
    ·have hci:(r.2:Int)<(a:Int):=by omega
     clear hsucc kr hlt hown hown2 hsrc hlen3 hsz3 kfin hlen hlen2 hr hrow hp hc1 hc2 hol hk hr1 hr2 ownA hbox kA
     go_wp2_with (at_builtin;refine Xo rfl _ _ rfl HR.out.2.2.2.1 HR.out.2.2.2.2.1 rfl rfl HR.out.2.2.2.2.2.1 HR.out.2.2.2.2.2.2 ?_;intro v' w' hown' hk')
     go_roundw
     case rel=>exact ⟨k+1,by congr 1,by have:=HR.out.2.2.1;omega,by rw [HR.out.1];exact hown',HR.out.2.1.trans hk' (fun x hx e=>by have:=(HR.out.2.2.2.1.lt x e).1;omega)⟩
     case measure=>have:=HR.out.2.2.1;simp [intOf];omega
    ·have hci:¬(r.2:Int)<(a:Int):=by omega
     have hci2:(b:Int)<(r.1:Int):=by omega
     clear hsucc kr hlt hown hown2 hsrc hlen3 hsz3 kfin hlen hlen2 hr hrow hp hc1 hc2 hol hk hr1 hr2 ownA hbox kA
     go_wp2_with (at_builtin;refine Xo rfl _ _ rfl HR.out.2.2.2.1 HR.out.2.2.2.2.1 rfl rfl HR.out.2.2.2.2.2.1 HR.out.2.2.2.2.2.2 ?_;intro v' w' hown' hk')
     go_roundw
     case rel=>exact ⟨k+1,by congr 1,by have:=HR.out.2.2.1;omega,by rw [HR.out.1];exact hown',HR.out.2.1.trans hk' (fun x hx e=>by have:=(HR.out.2.2.2.1.lt x e).1;omega)⟩
     case measure=>have:=HR.out.2.2.1;simp [intOf];omega
   ·have hp:Kg a b r=(if r.1<a then [(r.1,a - 1)] else [])++(if b<r.2 then [(b+1,r.2)] else []):=by unfold Kg;rw [if_neg hc1]
    rw [hp] at hsucc
    have hi1:¬(r.2:Int)<(a:Int):=by omega
    have hi2:¬(b:Int)<(r.1:Int):=by omega
    have hli3:ol.length<=536870912:=by have:=HH.out.2.2.2.2.2.2.1;omega
    have hz1:(wr.alloc (.cells #[.int .u64 r.1,.int .u64 r.2] 96)).heap.size=wr.heap.size+1:=World.size_alloc _ _
    have hkz:=kr.size
    have hbb:=HH.out.2.2.2.2.2.1
    by_cases hc2:r.1<a
    ·rw [if_pos hc2] at hsucc
     have hi3:(r.1:Int)<(a:Int):=by omega
     have hwu:IntKind.u64.wrap ((a:Int) - 1)=((a - 1:Nat):Int):=by rw [wraps_u64 _ (by omega) (by omega)];omega
     obtain ⟨a1,ha1⟩:∃ a1,a1=a - 1:=⟨_,rfl⟩
     rw [<- ha1] at hwu hsucc
     have hwu':=hwu
     have hsrc:=run_lit (wr.alloc (.cells #[.int .u64 r.1,.int .u64 r.2] 96)) r.1 a1
     rw [World.size_alloc] at hsrc
     have hown2:=(ownA (.cells #[.int .u64 r.1,.int .u64 r.2] 96)).keep ((Keep.refl No _).alloc (.cells #[.int .u64 r.1,.int .u64 a1] 96)) (fun _ _ e=>e)
     have hsz3:W.heap.size<=((wr.alloc (.cells #[.int .u64 r.1,.int .u64 r.2] 96)).alloc (.cells #[.int .u64 r.1,.int .u64 a1] 96)).heap.size:=by simp;omega
     have kfin:=((kr.alloc (.cells #[.int .u64 r.1,.int .u64 r.2] 96)).alloc (.cells #[.int .u64 r.1,.int .u64 a1] 96))
     have hbx:=((Keep.refl No _).alloc (.cells #[.int .u64 r.1,.int .u64 a1] 96)).heap hbox (fun e=>e)
     have hy2:=((Keep.refl No _).alloc (.cells #[.int .u64 r.1,.int .u64 a1] 96)).cell (y2A (.cells #[.int .u64 r.1,.int .u64 r.2] 96)) (fun e=>e)
     have hlow:∀ c,(Value.slice oo ol.length oc).ownBlock=some c->W.heap.size<=c/\c<wr.heap.size:=hown.lt
     have hxlt:w.heap.size+1<W.heap.size:=World.block_lt_of_cell? _ _ x1
     have hlen3:ol.length+[(r.1,a1)].length<=1099511627776:=by simp;omega
     have HR:=Lib.hid (A12 hsucc kfin hlt hown2 hsrc hlen3 hsz3 hbx hy2 hlow hxlt hli3)
     by_cases hc3:b<r.2
     ·rw [if_pos hc3] at HR
      have hi4:(b:Int)<(r.2:Int):=by omega
      obtain ⟨b1,hb1⟩:∃ b1,b1=b+1:=⟨_,rfl⟩
      rw [<- hb1] at HR
      have hwb:IntKind.u64.wrap ((b:Int)+1)=(b1:Int):=by rw [wraps_u64 _ (by omega) (by omega)];omega
      clear kr hlt hown hown2 hsrc hlen3 hsz3 kfin hlen hlen2 hr hrow hp hc1 hc2 hc3 hol hk hr1 hr2 ownA hbox kA hsucc ha1 hz1 hkz hbb hbx hy2 hlow hxlt hli3 hb1
      go_wp2_with (first
       | (at_builtin;refine Xo rfl _ _ rfl (own3.keep ((Keep.refl No _).alloc (.cells #[.int .u64 b1,.int .u64 r.2] 96)) (fun _ _ e=>e)) (run_lit w3 b1 r.2) rfl rfl (by have:=HR.out.2.2.2.2.2.2.2.2.2.2.2;simp;omega) (by have:=k3.size;have:=HR.out.2.2.2.2.2.2.1;simp;omega) ?_;intro v4 w4 own4 k4)
       | (at_builtin;refine Xo rfl _ _ rfl HR.out.2.2.2.1 HR.out.2.2.2.2.1 rfl rfl HR.out.2.2.2.2.2.1 HR.out.2.2.2.2.2.2.1 ?_;intro v3 w3 own3 k3;have q:=k3.heap HR.out.2.2.2.2.2.2.2.1 (fun e=>by have:=HR.out.2.2.2.2.2.2.2.2.2.1 _ e;omega);have q0:=Qq q 0;have q1:=Qq q 1;have q2:=k3.cell HR.out.2.2.2.2.2.2.2.2.1 (fun e=>by have:=HR.out.2.2.2.2.2.2.2.2.2.1 _ e;have:=HR.out.2.2.2.2.2.2.2.2.2.2.1;have e2:W.heap.size<=w.heap.size+1:=(HR.out.2.2.2.2.2.2.2.2.2.1 _ e).1;omega);simp at q0 q1;obtain ⟨o3,c3,rfl,_,_⟩:=own3.form;have own3:=own3;simp only [List.length_append,List.length_singleton] at own3;have k3:=k3))
      go_roundw
      case rel=>exact ⟨k+1,by congr 1,by have:=HR.out.2.2.1;omega,by rw [HR.out.1,<- List.append_assoc];exact own4,((HR.out.2.1.trans k3 (fun x hx e=>by have:=(HR.out.2.2.2.2.2.2.2.2.2.1 x e).1;omega)).alloc _).trans k4 (fun x hx e=>by have:=(own3.lt x e).1;omega)⟩
      case measure=>have:=HR.out.2.2.1;simp [intOf];omega
     ·rw [if_neg hc3] at HR
      have hi4:¬(b:Int)<(r.2:Int):=by omega
      clear kr hlt hown hown2 hsrc hlen3 hsz3 kfin hlen hlen2 hr hrow hp hc1 hc2 hc3 hol hk hr1 hr2 ownA hbox kA hsucc ha1 hz1 hkz hbb hbx hy2 hlow hxlt hli3
      go_wp2_with (at_builtin;refine Xo rfl _ _ rfl HR.out.2.2.2.1 HR.out.2.2.2.2.1 rfl rfl HR.out.2.2.2.2.2.1 HR.out.2.2.2.2.2.2.1 ?_;intro v3 w3 own3 k3;have q:=k3.heap HR.out.2.2.2.2.2.2.2.1 (fun e=>by have:=HR.out.2.2.2.2.2.2.2.2.2.1 _ e;omega);have q0:=Qq q 0;have q1:=Qq q 1;have q2:=k3.cell HR.out.2.2.2.2.2.2.2.2.1 (fun e=>by have:=HR.out.2.2.2.2.2.2.2.2.2.1 _ e;have:=HR.out.2.2.2.2.2.2.2.2.2.2.1;have e2:W.heap.size<=w.heap.size+1:=(HR.out.2.2.2.2.2.2.2.2.2.1 _ e).1;omega);simp at q0 q1;obtain ⟨o3,c3,rfl,_,_⟩:=own3.form)
      go_roundw
      case rel=>exact ⟨k+1,by congr 1,by have:=HR.out.2.2.1;omega,by have h3:=own3;simp only [List.length_append,List.length_singleton] at h3;rw [HR.out.1,List.append_nil];exact h3,HR.out.2.1.trans k3 (fun x hx e=>by have:=(HR.out.2.2.2.2.2.2.2.2.2.1 x e).1;omega)⟩
      case measure=>have:=HR.out.2.2.1;simp [intOf];omega
    ·rw [if_neg hc2] at hsucc
     have hi3:¬(r.1:Int)<(a:Int):=by omega
     by_cases hc3:b<r.2
     ·rw [if_pos hc3] at hsucc
      have hi4:(b:Int)<(r.2:Int):=by omega
      obtain ⟨b1,hb1⟩:∃ b1,b1=b+1:=⟨_,rfl⟩
      rw [<- hb1] at hsucc
      have hwb:IntKind.u64.wrap ((b:Int)+1)=(b1:Int):=by rw [wraps_u64 _ (by omega) (by omega)];omega
      have hsrc:=run_lit (wr.alloc (.cells #[.int .u64 r.1,.int .u64 r.2] 96)) b1 r.2
      rw [World.size_alloc] at hsrc
      have hown2:=(ownA (.cells #[.int .u64 r.1,.int .u64 r.2] 96)).keep ((Keep.refl No _).alloc (.cells #[.int .u64 b1,.int .u64 r.2] 96)) (fun _ _ e=>e)
      have hsz3:W.heap.size<=((wr.alloc (.cells #[.int .u64 r.1,.int .u64 r.2] 96)).alloc (.cells #[.int .u64 b1,.int .u64 r.2] 96)).heap.size:=by simp;omega
      have kfin:=((kr.alloc (.cells #[.int .u64 r.1,.int .u64 r.2] 96)).alloc (.cells #[.int .u64 b1,.int .u64 r.2] 96))
      have hlen3:ol.length+[(b1,r.2)].length<=1099511627776:=by simp;omega
      have HR:=Lib.hid (A7 hsucc kfin hlt hown2 hsrc hlen3 hsz3)
      clear kr hlt hown hown2 hsrc hlen3 hsz3 kfin hlen hlen2 hr hrow hp hc1 hc2 hc3 hol hk hr1 hr2 ownA hbox kA hsucc hb1 hz1 hkz hbb hli3
      go_wp2_with (at_builtin;refine Xo rfl _ _ rfl HR.out.2.2.2.1 HR.out.2.2.2.2.1 rfl rfl HR.out.2.2.2.2.2.1 HR.out.2.2.2.2.2.2 ?_;intro v' w' hown' hk')
      go_roundw
      case rel=>exact ⟨k+1,by congr 1,by have:=HR.out.2.2.1;omega,by rw [HR.out.1,List.nil_append];exact hown',HR.out.2.1.trans hk' (fun x hx e=>by have:=(HR.out.2.2.2.1.lt x e).1;omega)⟩
      case measure=>have:=HR.out.2.2.1;simp [intOf];omega
     ·rw [if_neg hc3] at hsucc
      have hi4:¬(b:Int)<(r.2:Int):=by omega
      have HR:=Lib.hid (A4 hsucc (kr.alloc (.cells #[.int .u64 r.1,.int .u64 r.2] 96)) hlt (ownA (.cells #[.int .u64 r.1,.int .u64 r.2] 96)))
      clear kr hlt hown hlen hlen2 hr hrow hp hc1 hc2 hc3 hol hk hr1 hr2 ownA hbox kA hsucc hz1 hkz hbb hli3
      go_wp2_with fail
      go_roundw
      case rel=>exact ⟨k+1,by congr 1,by have:=HR.out.2.2.1;omega,by rw [HR.out.1,List.append_nil,List.append_nil];exact HR.out.2.2.2,HR.out.2.1⟩
      case measure=>have:=HR.out.2.2.1;simp [intOf];omega
  ·have hke:k=l.length:=by omega
   have hki:¬(k:Int)<(l.length:Int):=by omega
   rw [hke,List.take_of_length_le (Nat.le_refl _)] at hown ⊢
   have hB:=kr.heap HH.out.2.1 (fun e=>e)
   have b0:=Qq hB 0
   have fb:=Qg hB
   simp at b0
   have HR:=Lib.hid (A3 kr hown hB)
   clear kr hown hk hlt hB
   subst hke
   go_wp2_with fail
   have hZ:=Qz (i:=0) (u:=.slice oo (Xj l a b).length oc) HR.out.2.2
   have kZ:=Qd (g:=w.heap.size+1+1) (i:=0) wr (.slice oo (Xj l a b).length oc)
   have z0:=Qq hZ 0
   simp at z0
   refine bodyPost_ret (v:=.agg #[.slice oo (Xj l a b).length oc]) (by simp [results,Tryz.results202,go_sem,z0]) rfl ?_
   have hB:=HR.out.2.2
   exact ⟨_,rfl,HR.out.2.1.runs.keep (fun c hb hr=>by obtain ⟨cs,fr,e⟩:=hr;rw [show c=w.heap.size+1+1 from hb,hB] at e;simp at e) kZ,(HH.out.1.then HR.out.1).trans kZ (fun x hx e=>by omega)⟩
theorem rFrom_spec {w:World} {v:Value} {l:List RunN} (h:Zy w v l) (hs:RSet l) (n:Nat) (hl:l.length<=268435456) (hn:n<18446744073709551616) :
  Calls Tryz.prog 169 #[.agg #[v],.int .u64 n] w fun e w'=>∃ v',e=.returned (.agg #[v'])/\Zy w' v' (Ua l n)/\Keep No w w':=by
 obtain ⟨ao,cap,rfl,hc,hm⟩:=h.form
 obtain ⟨W,hW⟩:∃ W,W=(w.alloc (.cells #[.slice ao l.length cap] 90)).alloc (.cells #[.slice none 0 0] 90):=⟨_,rfl⟩
 have hsz:(w.alloc (.cells #[.slice ao l.length cap] 90)).heap.size=w.heap.size+1:=by simp
 have kW:Keep No w W:=by rw [hW];exact ((Keep.refl _ _).alloc _).alloc _
 have hA:W.heap[w.heap.size]?=some (.cells #[.slice ao l.length cap] 90 (0,0)):=by
  rw [hW]
  exact ((Keep.refl No _).alloc _).heap (Qy _ _) (fun e=>e)
 have hB:W.heap[w.heap.size+1]?=some (.cells #[.slice none 0 0] 90 (0,0)):=by
  rw [hW,<- hsz]
  exact Qy _ _
 have c0:=Qq hA 0
 simp at c0
 by_cases h0:n=0
 ·have e:Ua l n=l:=by unfold Ua;rw [if_pos h0]
  rw [e]
  have hZ:=Qy (w.alloc (.cells #[.slice ao l.length cap] 90)) (.cells #[.slice ao l.length cap] 90)
  rw [World.size_alloc] at hZ
  have kZ:Keep No w ((w.alloc (.cells #[.slice ao l.length cap] 90)).alloc (.cells #[.slice ao l.length cap] 90)):=((Keep.refl _ _).alloc _).alloc _
  have z0:=Qq hZ 0
  simp at z0
  have HH:=Lib.hid (A2 kZ (h.no kZ))
  subst h0
  clear hA kW h hs hl hc hm hn hB hsz e hZ kZ c0 hW
  go_enter Tryz.func169,Tryz.ntmps169
  go_wp2_with fail
  refine bodyPost_ret (v:=.agg #[.slice ao l.length cap]) (by simp [results,Tryz.results169,go_sem]) rfl ?_
  exact ⟨_,rfl,HH.out.2,HH.out.1⟩
 ·have e:Ua l n=Xj l 0 (n - 1):=by unfold Ua;rw [if_neg h0]
  rw [e]
  have hf:=rWithout_spec (h.no kW) hs 0 (n - 1) hl (by omega) (by omega)
  have h0i:((n:Int)==0)=false:=by simp;omega
  have hwu:IntKind.u64.wrap ((n:Int) - 1)=((n - 1:Nat):Int):=by rw [wraps_u64 _ (by omega) (by omega)];omega
  have HH:=Lib.hid (A2 kW hB)
  obtain ⟨m,hm1⟩:∃ m,m=n - 1:=⟨_,rfl⟩
  rw [<- hm1] at hf hwu ⊢
  clear hA kW h hs hl hc hm hn hB hsz e h0 hm1
  go_enter Tryz.func169,Tryz.ntmps169
  go_wp2_with fail
  rw [<- hW]
  clear hW
  go_wp2_with fail
  refine hf.mono ?_
  rintro e w' ⟨v',rfl,hr,k2⟩
  obtain ⟨o9,c9,rfl,_,_⟩:=hr.form
  have hB:=k2.heap HH.out.2 (fun e=>e)
  have b0:=Qq hB 0
  have fb:=Qg hB
  simp at b0
  go_wp2
  have hZ:=Qz (i:=0) (u:=.slice o9 (Xj l 0 m).length c9) hB
  have kZ:=Qd (g:=w.heap.size+1) (i:=0) w' (.slice o9 (Xj l 0 m).length c9)
  have z0:=Qq hZ 0
  simp at z0
  refine bodyPost_ret (v:=.agg #[.slice o9 (Xj l 0 m).length c9]) (by simp [results,Tryz.results169,go_sem,z0]) rfl ?_
  exact ⟨_,rfl,hr.keep (fun b hb hr=>by obtain ⟨cs,fr,e⟩:=hr;rw [show b=w.heap.size+1 from hb,hB] at e;simp at e) kZ,(HH.out.1.then k2).trans kZ (fun x hx e=>by omega)⟩
theorem rEqual_spec {w:World} {va vb:Value} {l m:List RunN} (ha:Zy w va l) (hb:Zy w vb m) (hl:l.length<=268435456) (_hm:m.length<=268435456) :
  Calls Tryz.prog 131 #[va,vb] w fun e w'=>e=.returned (.bool (decide (l=m)))/\Keep No w w':=by
 obtain ⟨ao,ac,rfl,hac,ham⟩:=ha.form
 obtain ⟨bo,bc,rfl,hbc,hbm⟩:=hb.form
 have hli:(l.length:Int)<=268435456:=by omega
 obtain ⟨bb,hbb⟩:∃ bb,bb=decide (l=m):=⟨_,rfl⟩
 rw [<- hbb]
 by_cases hlm:l.length=m.length
 ·have HH:=Lib.hid (A3 ha hb hlm)
  have HD:=Lib.hid hbb
  clear hbb
  have hcmp:((l.length:Int) != (m.length:Int))=false:=by simp [hlm]
  clear ha hb hlm hac ham hbc hbm hl _hm
  go_enter Tryz.func131,Tryz.ntmps131
  go_wp2_with fail
  go_loopw [13] (fun iv wr=>∃ (k:Nat),iv=.int .i64 k/\k<=l.length/\l.take k=m.take k/\Keep No w wr) (fun iv _=>l.length - (intOf iv).toNat)
  case atStart=>exact ⟨0,rfl,Nat.zero_le _,by simp,Keep.refl _ _⟩
  case round =>
   obtain ⟨k,rfl,hk,htk,kr⟩:=hrel
   by_cases hlt:k<l.length
   ·have hltm:k<m.length:=by rw [<- HH.out.2.2];exact hlt
    have hr:l[k]?=some l[k]:=List.getElem?_eq_getElem hlt
    have hs:m[k]?=some m[k]:=List.getElem?_eq_getElem hltm
    obtain ⟨r,hre⟩:∃ r,r=l[k]:=⟨_,rfl⟩
    obtain ⟨s,hse⟩:∃ s,s=m[k]:=⟨_,rfl⟩
    rw [<- hre] at hr
    rw [<- hse] at hs
    obtain ⟨g,o,rfl,hrow⟩:=HH.out.1.row (fun e=>by rw [e] at hlt;simp at hlt)
    obtain ⟨g2,o2,rfl,hrow2⟩:=HH.out.2.1.row (fun e=>by rw [e] at hltm;simp at hltm)
    have r0:=kr.cell (hrow k r hr).1 (fun e=>e)
    have r1:=kr.cell (hrow k r hr).2 (fun e=>e)
    have s0:=kr.cell (hrow2 k s hs).1 (fun e=>e)
    have s1:=kr.cell (hrow2 k s hs).2 (fun e=>e)
    have hki:(k:Int)<(l.length:Int):=by omega
    have hki2:(k:Int)<(m.length:Int):=by omega
    have htl:l.take (k+1)=l.take k++[r]:=by rw [List.take_succ_eq_append_getElem hlt,hre]
    have htm:m.take (k+1)=m.take k++[s]:=by rw [List.take_succ_eq_append_getElem hltm,hse]
    by_cases hrs:r=s
    ·subst hrs
     have HR:=Lib.hid (A3 (show l.take (k+1)=m.take (k+1) by rw [htl,htm,htk]) kr hlt)
     clear htl htm htk kr hlt hltm hr hs hrow hrow2 hk hre hse
     go_wp2_with fail
     go_quiet (fail)
     go_wp2_with fail
     go_roundw
     case rel=>exact ⟨k+1,by congr 1,by have:=HR.out.2.2;omega,HR.out.1,HR.out.2.1.drewN _⟩
     case measure=>have:=HR.out.2.2;simp [intOf];omega
    ·have hne:decide (l=m)=false:=by
      simp
      intro e
      apply hrs
      rw [hre,hse]
      subst e
      rfl
     obtain rfl:bb=false:=HD.out.trans hne
     obtain ⟨ra,rb⟩:=r
     obtain ⟨sa,sb⟩:=s
     simp only at r0 r1 s0 s1
     have HR:=Lib.hid (A2 kr hlt)
     clear htl htm htk kr hlt hltm hr hs hrow hrow2 hk hre hse hne
     by_cases h1:ra=sa
     ·subst h1
      have h2:((rb:Int)==(sb:Int))=false:=by
       simp
       intro e
       apply hrs
       congr 1
       omega
      clear hrs
      go_wp2_with fail
      go_quiet (fail)
      go_wp2_with fail
      go_ret
      exact ⟨rfl,HR.out.1.drewN _⟩
     ·have h2:((ra:Int)==(sa:Int))=false:=by simp;omega
      clear hrs h1
      go_wp2_with fail
      go_quiet (fail)
      go_wp2_with fail
      go_ret
      exact ⟨rfl,HR.out.1.drewN _⟩
   ·have hke:k=l.length:=by omega
    have heq:l=m:=by
     rw [hke,List.take_of_length_le (Nat.le_refl _)] at htk
     rw [htk,List.take_of_length_le (by rw [HH.out.2.2];exact Nat.le_refl _)]
    have hde:decide (l=m)=true:=by simp [heq]
    obtain rfl:bb=true:=HD.out.trans hde
    have hki:¬(k:Int)<(l.length:Int):=by omega
    have HR:=Lib.hid kr
    clear kr htk hk hlt hde hke heq
    go_wp2_with fail
    go_ret
    exact ⟨rfl,HR.out⟩
 ·have hcmp:((l.length:Int) != (m.length:Int))=true:=by simp;omega
  have hne:decide (l=m)=false:=by simp;intro e;exact hlm (by rw [e])
  obtain rfl:bb=false:=hbb.trans hne
  clear hbb ha hb hlm hac ham hbc hbm hl _hm hne
  go_enter Tryz.func131,Tryz.ntmps131
  go_wp2_with fail
  go_ret
  exact ⟨rfl,Keep.refl _ _⟩
theorem rSame_spec {w:World} {va vb:Value} {l m:List RunN} (ha:Zy w va l) (hb:Zy w vb m) (hl:l.length<=268435456) (hm:m.length<=268435456) :
  Calls Tryz.prog 92 #[.agg #[va],.agg #[vb]] w fun e w'=>e=.returned (.bool (decide (l=m)))/\Keep No w w':=by
 obtain ⟨ao,ac,rfl,hac,ham⟩:=ha.form
 obtain ⟨bo,bc,rfl,hbc,hbm⟩:=hb.form
 have kW:Keep No w ((w.alloc (.cells #[.slice ao l.length ac] 90)).alloc (.cells #[.slice bo m.length bc] 90)):=((Keep.refl _ _).alloc _).alloc _
 have he:=rEqual_spec (ha.no kW) (hb.no kW) hl hm
 have HH:=Lib.hid kW
 clear ha hb kW hac ham hbc hbm hl hm
 go_enter Tryz.func92,Tryz.ntmps92
 go_wp2_with (go_at_call 131;refine he.mono ?_;rintro e w' ⟨rfl,k2⟩)
 go_ret
 exact ⟨rfl,HH.out.then k2⟩
theorem RSet.len:∀ {l:List RunN} {a N:Nat},RSet l->(∀ r∈l,a<=r.1/\r.2<a+N)->l.length<=N
 | [],a,N,_,_=>Nat.zero_le _
 | r :: l,a,N,h,hb=>by
  have hr:=hb r (by simp)
  have h1:=(h.run r (by simp)).1
  have:=RSet.len (l:=l) (a:=r.2+2) (N:=a+N - (r.2+2)) h.tail (fun x hx=>by
   have h2:=h.head x hx
   have h3:=hb x (by simp [hx])
   have h4:=(h.run x (by simp [hx])).1
   omega)
  simp
  omega
theorem WinS.Ok.few {x:WinS} (h:x.Ok):x.set.length<=268435456:=by
 have:=RSet.len (a:=x.low) (N:=x.width+1) h.set (fun r hr=>by
  have h1:=h.above _ (h.set.first hr)
  have h2:=h.above _ (h.set.last hr)
  omega)
 have:=h.width
 omega
structure WinS.Pre (x:WinS):Prop where
 set:RSet x.set
 few:x.set.length<=268435456
 low:x.low<4611686018427387904
 width:x.width<=1024
theorem WinS.Ok.pre {x:WinS} (h:x.Ok):x.Pre:=⟨h.set,h.few,h.low,h.width.2⟩
def WinV (w:World) (u:Value) (x:WinS):Prop:=∃ v,u=.agg #[.int .u64 x.low,.int .u64 x.width,v]/\Zy w v x.set
theorem WinV.no {w w':World} {u:Value} {x:WinS} (h:WinV w u x) (k:Keep No w w'):WinV w' u x:=by
 obtain ⟨v,h1,h2⟩:=h
 exact ⟨v,h1,h2.no k⟩
theorem WinV.form {w:World} {u:Value} {x:WinS} (h:WinV w u x):∃ ao cap,u=.agg #[.int .u64 x.low,.int .u64 x.width,.slice ao x.set.length cap]/\Zy w (.slice ao x.set.length cap) x.set:=by
 obtain ⟨v,h1,h2⟩:=h
 obtain ⟨ao,cap,rfl,_⟩:=h2.form
 exact ⟨ao,cap,h1,h2⟩
theorem wNew_spec (w:World) (n:Nat):Calls Tryz.prog 55 #[.int .u64 n] w fun e w'=>∃ u,e=.returned u/\WinV w' u (WinS.new n)/\Keep No w w':=by
 have hZ:=Qy w (.cells #[.int .u64 0,.int .u64 n,.slice none 0 0] 92)
 have kZ:Keep No w (w.alloc (.cells #[.int .u64 0,.int .u64 n,.slice none 0 0] 92)):=(Keep.refl _ _).alloc _
 have z0:=Qq hZ 0
 have z1:=Qq hZ 1
 have z2:=Qq hZ 2
 simp at z0 z1 z2
 have HH:=Lib.hid kZ
 clear hZ kZ
 go_enter Tryz.func55,Tryz.ntmps55
 go_wp2_with fail
 refine bodyPost_ret (v:=.agg #[.int .u64 0,.int .u64 n,.slice none 0 0]) (by simp [results,Tryz.results55,go_sem]) rfl ?_
 exact ⟨_,rfl,⟨_,rfl,Zy.nil _⟩,HH.out⟩
theorem wLimit_spec {w:World} {u:Value} {x:WinS} (h:WinV w u x) (hp:x.Pre):Calls Tryz.prog 38 #[u] w fun e w'=>e=.returned (.int .u64 (x.low+x.width:Nat))/\Keep No w w':=by
 obtain ⟨ao,cap,rfl,hr⟩:=h.form
 have h1:=hp.low
 have h2:=hp.width
 obtain ⟨s,hs⟩:∃ s,s=x.low+x.width:=⟨_,rfl⟩
 have hw:IntKind.u64.wrap ((x.low:Int)+(x.width:Int))=(s:Int):=by rw [wraps_u64 _ (by omega) (by omega)];omega
 rw [<- hs]
 clear h hr hp h1 h2 hs
 go_enter Tryz.func38,Tryz.ntmps38
 go_wp2_with fail
 go_ret
 exact ⟨rfl,(Keep.refl _ _).alloc _⟩
theorem wHad_spec {w:World} {u:Value} {x:WinS} (h:WinV w u x) (hp:x.Pre) (n:Nat):Calls Tryz.prog 40 #[u,.int .u64 n] w fun e w'=>e=.returned (.bool (x.had n))/\Keep No w w':=by
 obtain ⟨ao,cap,rfl,hr⟩:=h.form
 have kA:=(Keep.refl No w).alloc (.cells #[.int .u64 x.low,.int .u64 x.width,.slice ao x.set.length cap] 92)
 have hh:=rHas_spec (hr.no kA) hp.set n (Nat.le_trans hp.few (by decide))
 have HH:=Lib.hid kA
 by_cases hc:n<=x.low
 ·have e:x.had n=true:=by unfold WinS.had;simp [hc]
  rw [e]
  have hci:(n:Int)<=(x.low:Int):=by omega
  clear h hr hp kA hc e hh
  go_enter Tryz.func40,Tryz.ntmps40
  go_wp2_with fail
  go_ret
  exact ⟨rfl,HH.out⟩
 ·have e:x.had n=hasB x.set n:=by unfold WinS.had;simp [hc]
  rw [e]
  have hci:¬(n:Int)<=(x.low:Int):=by omega
  clear h hr hp kA hc e
  go_enter Tryz.func40,Tryz.ntmps40
  go_wp2_with (go_at_call 91;refine hh.mono ?_;rintro e w' ⟨rfl,k2⟩)
  go_ret
  exact ⟨rfl,HH.out.then k2⟩
theorem wTakes_spec {w:World} {u:Value} {x:WinS} (h:WinV w u x) (hp:x.Pre) (n:Nat):Calls Tryz.prog 65 #[u,.int .u64 n] w fun e w'=>e=.returned (.bool (x.takes n))/\Keep No w w':=by
 obtain ⟨ao,cap,rfl,hr⟩:=h.form
 have kA:=(Keep.refl No w).alloc (.cells #[.int .u64 x.low,.int .u64 x.width,.slice ao x.set.length cap] 92)
 have hA:=Qy w (.cells #[.int .u64 x.low,.int .u64 x.width,.slice ao x.set.length cap] 92)
 have hh:=wHad_spec (h.no kA) hp n
 have hlim:=fun (w':World) (k:Keep No (w.alloc (.cells #[.int .u64 x.low,.int .u64 x.width,.slice ao x.set.length cap] 92)) w')=>wLimit_spec ((h.no kA).no k) hp
 obtain ⟨s,hs⟩:∃ s,s=x.low+x.width:=⟨_,rfl⟩
 have ht:x.takes n=(!x.had n && decide (n<=s)):=by rw [hs];rfl
 rw [<- hs] at hlim
 have HH:=Lib.hid (A3 kA hA hlim)
 rw [ht]
 cases hb:x.had n
 ·rw [hb] at hh
  have e:(!false && decide (n<=s))=decide ((n:Int)<=(s:Int)):=by simp
  rw [e]
  clear h hr hp kA ht e hA hlim hs hb
  go_enter Tryz.func65,Tryz.ntmps65
  go_wp2_with (first
   | (go_at_call 38;refine (HH.out.2.2 w2 k2).mono ?_;rintro e w3 ⟨rfl,k3⟩)
   | (go_at_call 40;refine hh.mono ?_;rintro e w2 ⟨rfl,k2⟩;have q:=k2.heap HH.out.2.1 (fun e=>e);have q0:=Qq q 0;have q1:=Qq q 1;have q2:=Qq q 2;simp at q0 q1 q2))
  go_ret
  exact ⟨by simp,(HH.out.1.then k2).then k3⟩
 ·rw [hb] at hh
  clear h hr hp kA ht hA hlim hs hb
  go_enter Tryz.func65,Tryz.ntmps65
  go_wp2_with (go_at_call 40;refine hh.mono ?_;rintro e w2 ⟨rfl,k2⟩)
  go_ret
  exact ⟨rfl,HH.out.1.then k2⟩
theorem Rz {W:World} {g:Nat} {a0 a1 a2:Value} (b0 b1 b2:Value) (hB:W.heap[g]?=some (.cells #[a0,a1,a2] 92 (0,0))) :
  (((W.setCell ⟨g,0,none⟩ b0).setCell ⟨g,1,none⟩ b1).setCell ⟨g,2,none⟩ b2).heap[g]?=some (.cells #[b0,b1,b2] 92 (0,0))/\Keep (·=g) W (((W.setCell ⟨g,0,none⟩ b0).setCell ⟨g,1,none⟩ b1).setCell ⟨g,2,none⟩ b2) :=
 ⟨Qz (i:=2) (u:=b2) (Qz (i:=1) (u:=b1) (Qz (i:=0) (u:=b0) hB)),((Qd (g:=g) (i:=0) W b0).setCell (p:=⟨g,1,none⟩) (.inl rfl) b1).setCell (p:=⟨g,2,none⟩) (.inl rfl) b2⟩
theorem Zn.block {w:World} {g:Nat} {cs:Array Value} {t:TypeId} {fr:Nat × Nat} (h:w.heap[g]?=some (.cells cs t fr)) (ht:t≠96):Zn w (·=g):=fun c hc hr=>by
 obtain ⟨cs',fr',e⟩:=hr
 rw [show c=g from hc,h] at e
 simp at e
 exact ht e.2.1
theorem gapR_lt {l:List RunN} {n m:Nat} (hb:∀ r∈l,r.2<9223372036854775807) (hn:n<=9223372036854775807) (h:gapR l n=some m):m<=9223372036854775807:=by
 unfold gapR at h
 split at h
 ·simp at h;omega
 ·rename_i r e
  have:=hb r (Ul e)
  split at h
  ·simp at h;omega
  ·split at h
   ·cases h
   ·simp at h;omega
theorem wClosed_spec {w:World} {u:Value} {x:WinS} (h:WinV w u x) (hs:RSet x.set) (hl:x.set.length<=268435456) (hlow:x.low<4611686018427387904) (hb:∀ r∈x.set,r.2<9223372036854775807) :
  Calls Tryz.prog 116 #[u] w fun e w'=>∃ u',e=.returned u'/\WinV w' u' x.closed/\Keep No w w':=by
 obtain ⟨ao,cap,rfl,hr⟩:=h.form
 obtain ⟨W,hW⟩:∃ W,W=(w.alloc (.cells #[.int .u64 x.low,.int .u64 x.width,.slice ao x.set.length cap] 92)).alloc (.cells #[.int .u64 0,.int .u64 0,.slice none 0 0] 92):=⟨_,rfl⟩
 have kW:Keep No w W:=by rw [hW];exact ((Keep.refl _ _).alloc _).alloc _
 have hA:W.heap[w.heap.size]?=some (.cells #[.int .u64 x.low,.int .u64 x.width,.slice ao x.set.length cap] 92 (0,0)):=by
  rw [hW]
  exact ((Keep.refl No _).alloc _).heap (Qy _ _) (fun e=>e)
 have hB:W.heap[w.heap.size+1]?=some (.cells #[.int .u64 0,.int .u64 0,.slice none 0 0] 92 (0,0)):=by
  rw [hW]
  have:=Qy (w.alloc (.cells #[.int .u64 x.low,.int .u64 x.width,.slice ao x.set.length cap] 92)) (.cells #[.int .u64 0,.int .u64 0,.slice none 0 0] 92)
  rw [World.size_alloc] at this
  exact this
 obtain ⟨m,hm⟩:=gapR_some (n:=x.low+1) (l:=x.set) (fun r hr=>by have:=hb r hr;omega)
 have hm1:=(gapR_ok hs hm).1
 have hm2:=gapR_lt hb (by omega) hm
 have hg:=rGap_spec (hr.no kW) hs (x.low+1) m (Nat.le_trans hl (by decide)) hm
 obtain ⟨a,ha⟩:∃ a,a=x.low+1:=⟨_,rfl⟩
 obtain ⟨b,hbm⟩:∃ b,b=m - 1:=⟨_,rfl⟩
 have hcl:x.closed=⟨b,x.width,Ua x.set m⟩:=by
  have e:x.lowC=b:=by unfold WinS.lowC;rw [hm,hbm]
  unfold WinS.closed
  rw [e,show b+1=m by omega]
 have hwa:IntKind.u64.wrap ((x.low:Int)+1)=(a:Int):=by rw [wraps_u64 _ (by omega) (by omega)];omega
 have hwb:IntKind.u64.wrap ((m:Int) - 1)=(b:Int):=by rw [wraps_u64 _ (by omega) (by omega)];omega
 have hwc:IntKind.u64.wrap ((b:Int)+1)=(m:Int):=by rw [wraps_u64 _ (by omega) (by omega)];omega
 rw [<- ha] at hg
 rw [hcl]
 have c0:=Qq hA 0
 have c1:=Qq hA 1
 have c2:=Qq hA 2
 simp at c0 c1 c2
 have HH:=Lib.hid (A7 kW hA hB (hr.no kW) hs hl hm2)
 clear h hr hs hl hlow hb kW hA hB hm hm1 hm2 ha hbm hcl
 go_enter Tryz.func116,Tryz.ntmps116
 go_wp2_with fail
 rw [<- hW]
 clear hW
 go_wp2_with fail
 refine hg.mono ?_
 rintro e w1 ⟨rfl,k1⟩
 clear hg
 have hA1:=k1.heap HH.out.2.1 (fun e=>e)
 have hB1:=k1.heap HH.out.2.2.1 (fun e=>e)
 have d0:=Qq hA1 0
 have d1:=Qq hA1 1
 have d2:=Qq hA1 2
 have fA1:=Qg hA1
 simp at d0 d1 d2
 obtain ⟨W2,hW2⟩:∃ W2,w1.setCell ⟨w.heap.size,0,none⟩ (.int .u64 b)=W2:=⟨_,rfl⟩
 have k2:Keep (·=w.heap.size) w1 (w1.setCell ⟨w.heap.size,0,none⟩ (.int .u64 b)):=Qd _ _
 have hA2:=Qz (i:=0) (u:=.int .u64 b) hA1
 have hFA:Zn w1 (·=w.heap.size):=fun c hc hr=>by obtain ⟨cs,fr,e⟩:=hr;rw [show c=w.heap.size from hc,hA1] at e;simp at e
 have hr2:=(HH.out.2.2.2.1.no k1).keep hFA k2
 have hlA:=Qt HH.out.2.1
 have hB2:=k2.heap hB1 (by show ¬w.heap.size+1=w.heap.size;omega)
 rw [hW2] at k2 hA2 hr2 hB2
 have hf:=rFrom_spec hr2 HH.out.2.2.2.2.1 m HH.out.2.2.2.2.2.1 (by have:=HH.out.2.2.2.2.2.2;omega)
 have e0:=Qq hA2 0
 have e1:=Qq hA2 1
 have e2:=Qq hA2 2
 simp at e0 e1 e2
 have H1:=Lib.hid (A5 k1 k2 hA2 hB2 hlA)
 clear k1 k2 hA2 hB2 hA1 hB1 hr2 hFA hlA
 go_wp2_with fail
 refine hf.mono ?_
 rintro e w3 ⟨v3,rfl,hr3,k3⟩
 clear hf
 obtain ⟨o3,c3,rfl,_,_⟩:=hr3.form
 have hA3:=k3.heap H1.out.2.2.1 (fun e=>e)
 have hB3:=k3.heap H1.out.2.2.2.1 (fun e=>e)
 have g0:=Qq hA3 0
 have g1:=Qq hA3 1
 have g2:=Qq hA3 2
 have fA3:=Qg hA3
 simp at g0 g1 g2
 obtain ⟨W4,hW4⟩:∃ W4,w3.setCell ⟨w.heap.size,2,none⟩ (.slice o3 (Ua x.set m).length c3)=W4:=⟨_,rfl⟩
 have k4:Keep (·=w.heap.size) w3 (w3.setCell ⟨w.heap.size,2,none⟩ (.slice o3 (Ua x.set m).length c3)):=Qd _ _
 have hA4:=Qz (i:=2) (u:=(.slice o3 (Ua x.set m).length c3)) hA3
 have hFA:Zn w3 (·=w.heap.size):=fun c hc hr=>by obtain ⟨cs,fr,e⟩:=hr;rw [show c=w.heap.size from hc,hA3] at e;simp at e
 have hr4:=hr3.keep hFA k4
 have hlA:=H1.out.2.2.2.2
 have hB4:=k4.heap hB3 (by show ¬w.heap.size+1=w.heap.size;omega)
 rw [hW4] at k4 hA4 hr4 hB4
 have p0:=Qq hA4 0
 have p1:=Qq hA4 1
 have p2:=Qq hA4 2
 have q0:=Qq hB4 0
 have q1:=Qq hB4 1
 have q2:=Qq hB4 2
 have fB4:=Qg hB4
 simp at p0 p1 p2 q0 q1 q2
 have H2:=Lib.hid (A4 k3 k4 hB4 hr4)
 clear k3 k4 hA3 hB3 hA4 hr3 hFA hlA hB4 hr4
 go_wp2_with fail
 have hB:=H2.out.2.2.1
 obtain ⟨hZ,kZ⟩:=Rz (.int .u64 b) (.int .u64 x.width) (.slice o3 (Ua x.set m).length c3) hB
 have z0:=Qq hZ 0
 have z1:=Qq hZ 1
 have z2:=Qq hZ 2
 simp at z0 z1 z2
 refine bodyPost_ret (v:=.agg #[.int .u64 b,.int .u64 x.width,.slice o3 (Ua x.set m).length c3]) (by simp [results,Tryz.results116,go_sem,z0,z1,z2]) rfl ?_
 refine ⟨_,rfl,⟨_,rfl,H2.out.2.2.2.keep (Zn.block hB (by decide)) kZ⟩,?_⟩
 exact (((((HH.out.1.then H1.out.1).trans H1.out.2.1 (fun x hx e=>by omega)).then H2.out.1).trans H2.out.2.1 (fun x hx e=>by omega)).trans kZ (fun x hx e=>by omega))
theorem wPut_spec {w:World} {u:Value} {x:WinS} (h:WinV w u x) (ho:x.Ok) (n:Nat) (hn:n<4611686018427387904) :
  Calls Tryz.prog 66 #[u,.int .u64 n] w fun e w'=>∃ u',e=.returned u'/\WinV w' u' (x.put n)/\Keep No w w':=by
 obtain ⟨ao,cap,rfl,hr⟩:=h.form
 have hp:=ho.pre
 obtain ⟨W,hW⟩:∃ W,W=(w.alloc (.cells #[.int .u64 x.low,.int .u64 x.width,.slice ao x.set.length cap] 92)).alloc (.cells #[.int .u64 0,.int .u64 0,.slice none 0 0] 92):=⟨_,rfl⟩
 have kW:Keep No w W:=by rw [hW];exact ((Keep.refl _ _).alloc _).alloc _
 have hA:W.heap[w.heap.size]?=some (.cells #[.int .u64 x.low,.int .u64 x.width,.slice ao x.set.length cap] 92 (0,0)):=by
  rw [hW]
  exact ((Keep.refl No _).alloc _).heap (Qy _ _) (fun e=>e)
 have hB:W.heap[w.heap.size+1]?=some (.cells #[.int .u64 0,.int .u64 0,.slice none 0 0] 92 (0,0)):=by
  rw [hW]
  have:=Qy (w.alloc (.cells #[.int .u64 x.low,.int .u64 x.width,.slice ao x.set.length cap] 92)) (.cells #[.int .u64 0,.int .u64 0,.slice none 0 0] 92)
  rw [World.size_alloc] at this
  exact this
 have ht:=wTakes_spec (h.no kW) hp n
 have c0:=Qq hA 0
 have c1:=Qq hA 1
 have c2:=Qq hA 2
 simp at c0 c1 c2
 cases hb:x.takes n
 ·rw [hb] at ht
  have e:x.put n=x:=by unfold WinS.put;rw [hb];simp
  rw [e]
  have HH:=Lib.hid (A4 kW hA hB (hr.no kW))
  clear h hr hp ho kW hA hB hb e hn
  go_enter Tryz.func66,Tryz.ntmps66
  go_wp2_with fail
  rw [<- hW]
  clear hW
  go_wp2_with fail
  refine ht.mono ?_
  rintro e w1 ⟨rfl,k1⟩
  have hA1:=k1.heap HH.out.2.1 (fun e=>e)
  have hB1:=k1.heap HH.out.2.2.1 (fun e=>e)
  have d0:=Qq hA1 0
  have d1:=Qq hA1 1
  have d2:=Qq hA1 2
  have q0:=Qq hB1 0
  have q1:=Qq hB1 1
  have q2:=Qq hB1 2
  have fB:=Qg hB1
  simp at d0 d1 d2 q0 q1 q2
  have H1:=Lib.hid (A2 k1 hB1)
  clear k1 hA1 hB1 ht
  go_wp2_with fail
  have hB:=H1.out.2
  obtain ⟨hZ,kZ⟩:=Rz (.int .u64 x.low) (.int .u64 x.width) (.slice ao x.set.length cap) hB
  have z0:=Qq hZ 0
  have z1:=Qq hZ 1
  have z2:=Qq hZ 2
  simp at z0 z1 z2
  refine bodyPost_ret (v:=.agg #[.int .u64 x.low,.int .u64 x.width,.slice ao x.set.length cap]) (by simp [results,Tryz.results66,go_sem,z0,z1,z2]) rfl ?_
  exact ⟨_,rfl,⟨_,rfl,(HH.out.2.2.2.no H1.out.1).keep (Zn.block hB (by decide)) kZ⟩,(HH.out.1.then H1.out.1).trans kZ (fun x hx e=>by omega)⟩
 ·rw [hb] at ht
  have e:x.put n=(⟨x.low,x.width,Yq x.set n n⟩:WinS).closed:=by unfold WinS.put;rw [hb];simp
  obtain ⟨y,hy⟩:∃ y,y=(⟨x.low,x.width,Yq x.set n n⟩:WinS).closed:=⟨_,rfl⟩
  rw [e,<- hy]
  have HY:=Lib.hid hy
  clear hy
  obtain ⟨t1,t2⟩:=(ho.takes n).1 hb
  obtain ⟨s1,s2⟩:=spanR_ok (f:=n) (t:=n) ho.set (by omega)
  have hsl:(Yq x.set n n).length<=268435456:=by
   have:=RSet.len (a:=0) (N:=x.low+x.width+1) s1 (fun r hr=>by
    refine ⟨Nat.zero_le _,?_⟩
    rcases (s2 _).1 (s1.last hr) with a | a
    ·have:=(ho.above _ a).2.1;omega
    ·omega)
   have h1:=absorb_len (x.set.drop (Yr x.set (n - 1))) n n
   have h2:=WinS.Ok.few ho
   have hw:=ho.width
   have h3:=RSet.len (a:=x.low) (N:=x.width+1) ho.set (fun r hr=>by
    have h1:=ho.above _ (ho.set.first hr)
    have h2:=ho.above _ (ho.set.last hr)
    omega)
   have h4:=Hd x.set (n - 1)
   unfold Yq
   rw [if_neg (by omega),List.length_append,List.length_take]
   rw [List.length_drop] at h1
   omega
  have hsb:∀ r∈Yq x.set n n,r.2<9223372036854775807:=fun r hr=>by
   rcases (s2 _).1 (s1.last hr) with a | a
   ·have:=(ho.above _ a).2.2;omega
   ·omega
  have hadd:=fun (w':World) (k:Keep No W w')=>rAdd_spec ((hr.no kW).no k) ho.set n hp.few (by omega)
  have hlow:=ho.low
  have HH:=Lib.hid (A8 kW hA hB s1 hsl hlow hsb hadd)
  clear h hr hp ho kW hA hB hb e hn s1 s2 t1 t2 hsl hlow hsb hadd
  go_enter Tryz.func66,Tryz.ntmps66
  go_wp2_with fail
  rw [<- hW]
  clear hW
  go_wp2_with fail
  refine ht.mono ?_
  rintro e w1 ⟨rfl,k1⟩
  have hA1:=k1.heap HH.out.2.1 (fun e=>e)
  have hB1:=k1.heap HH.out.2.2.1 (fun e=>e)
  have d0:=Qq hA1 0
  have d1:=Qq hA1 1
  have d2:=Qq hA1 2
  simp at d0 d1 d2
  have hadd:=HH.out.2.2.2.2.2.2.2 w1 k1
  have H1:=Lib.hid (A3 k1 hA1 hB1)
  clear k1 hA1 hB1 ht
  go_wp2_with fail
  refine hadd.mono ?_
  rintro e w2 ⟨v2,rfl,hr2,k2⟩
  clear hadd
  obtain ⟨o2,cp2,rfl,_,_⟩:=hr2.form
  have hA2:=k2.heap H1.out.2.1 (fun e=>e)
  have hB2:=k2.heap H1.out.2.2 (fun e=>e)
  have f0:=Qq hA2 0
  have f1:=Qq hA2 1
  have f2:=Qq hA2 2
  have fA:=Qg hA2
  simp at f0 f1 f2
  obtain ⟨W3,hW3⟩:∃ W3,w2.setCell ⟨w.heap.size,2,none⟩ (.slice o2 (Yq x.set n n).length cp2)=W3:=⟨_,rfl⟩
  have k3:Keep (·=w.heap.size) w2 (w2.setCell ⟨w.heap.size,2,none⟩ (.slice o2 (Yq x.set n n).length cp2)):=Qd _ _
  have hA3:=Qz (i:=2) (u:=.slice o2 (Yq x.set n n).length cp2) hA2
  have hr3:=hr2.keep (Zn.block hA2 (by decide)) k3
  have hlA:=Qt HH.out.2.1
  have hB3:=k3.heap hB2 (by show ¬w.heap.size+1=w.heap.size;omega)
  rw [hW3] at k3 hA3 hr3 hB3
  have p0:=Qq hA3 0
  have p1:=Qq hA3 1
  have p2:=Qq hA3 2
  simp at p0 p1 p2
  have hc:=wClosed_spec (w:=W3) (x:=⟨x.low,x.width,Yq x.set n n⟩) ⟨_,rfl,hr3⟩ HH.out.2.2.2.1 HH.out.2.2.2.2.1 HH.out.2.2.2.2.2.1 HH.out.2.2.2.2.2.2.1
  have H2:=Lib.hid (A3 k2 k3 hB3)
  clear k2 k3 hB3 hA3 hA2 hB2 hr2 hr3
  go_wp2_with fail
  refine hc.mono ?_
  rintro e w4 ⟨u4,rfl,hw4,k4⟩
  clear hc
  rw [<- HY.out] at hw4
  obtain ⟨o4,cp4,rfl,hr4⟩:=hw4.form
  have hB4:=k4.heap H2.out.2.2 (fun e=>e)
  have q0:=Qq hB4 0
  have q1:=Qq hB4 1
  have q2:=Qq hB4 2
  have fB:=Qg hB4
  simp at q0 q1 q2
  have H3:=Lib.hid (A3 k4 hB4 hr4)
  clear hB4 k4 hr4 hw4
  go_wp2_with fail
  have hB:=H3.out.2.1
  obtain ⟨hZ,kZ⟩:=Rz (.int .u64 y.low) (.int .u64 y.width) (.slice o4 y.set.length cp4) hB
  have z0:=Qq hZ 0
  have z1:=Qq hZ 1
  have z2:=Qq hZ 2
  simp at z0 z1 z2
  refine bodyPost_ret (v:=.agg #[.int .u64 y.low,.int .u64 y.width,.slice o4 y.set.length cp4]) (by simp [results,Tryz.results66,go_sem,z0,z1,z2]) rfl ?_
  refine ⟨_,rfl,⟨_,rfl,H3.out.2.2.keep (Zn.block hB (by decide)) kZ⟩,?_⟩
  exact ((((HH.out.1.then H1.out.1).then H2.out.1).trans H2.out.2.1 (fun x hx e=>by omega)).then H3.out.1).trans kZ (fun x hx e=>by omega)
end Go.Proofs.YtfdmbomlkpkegaaGreat
