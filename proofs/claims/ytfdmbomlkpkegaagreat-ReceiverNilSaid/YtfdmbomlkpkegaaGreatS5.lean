/- Lemmas for ReceiverNil. -/
import Derived.Test.YtfdmbomlkpkegaaGreatS4
import Derived.Test.YtfdmbomlkpkegaaGreatS1
import Derived.Test.YtfdmbomlkpkegaaGreatS3
set_option maxRecDepth 100000
set_option maxHeartbeats 8000000
set_option linter.all false
namespace Go.Proofs.YtfdmbomlkpkegaaGreat
open Go Go.RowKit
theorem xor_mod2 (a b:Nat):(a ^^^ b) % 2=(a % 2+b % 2) % 2:=by
 have h:=@Nat.xor_mod_two_pow a b 1
 rw [Nat.pow_one] at h
 rw [h]
 rcases Nat.mod_two_eq_zero_or_one a with h1 | h1 <;> rcases Nat.mod_two_eq_zero_or_one b with h2 | h2 <;> rw [h1,h2] <;> rfl
theorem xor_xor (a p:Nat):a ^^^ p ^^^ p=a:=by rw [Nat.xor_assoc,Nat.xor_self,Nat.xor_zero]
def Kz (r:Nat):Nat:=if r % 2=0 then r / 2 else r / 2 ^^^ 3988292384
theorem stepN_xor (a b:Nat):Kz (a ^^^ b)=Kz a ^^^ Kz b:=by
 unfold Kz
 rw [xor_mod2,Nat.xor_div_two]
 generalize a / 2=x
 generalize b / 2=y
 generalize 3988292384=p
 rcases Nat.mod_two_eq_zero_or_one a with h1 | h1 <;> rcases Nat.mod_two_eq_zero_or_one b with h2 | h2 <;> simp only [h1,h2] <;> simp
 ·rw [Nat.xor_assoc]
 ·rw [Nat.xor_assoc,Nat.xor_assoc,Nat.xor_comm p]
 ·rw [Nat.xor_assoc,<- Nat.xor_assoc p,Nat.xor_comm p y,xor_xor]
theorem stepN_two (a:Nat):Kz (2*a)=a:=by
 unfold Kz
 rw [if_pos (by omega)]
 omega
theorem stepN_four (r:Nat):Kz (Kz (Kz (Kz r)))=halfN r:=by
 have h:r=16*(r / 16) ^^^ r % 16:=by
  have h1:r % 16<2 ^ 4:=by omega
  have h2:=Nat.two_pow_add_eq_or_of_lt h1 (r / 16)
  have h3:16*(r / 16) ^^^ r % 16=16*(r / 16) ||| r % 16:=by
   apply Nat.eq_of_testBit_eq
   intro i
   rw [Nat.testBit_xor,Nat.testBit_or]
   by_cases hi:i<4
   ·have:(2 ^ 4*(r / 16)).testBit i=false:=by rw [Nat.testBit_two_pow_mul];simp;omega
    rw [show 16*(r / 16)=2 ^ 4*(r / 16) from rfl,this];simp
   ·have:(r % 16).testBit i=false:=Nat.testBit_lt_two_pow (Nat.lt_of_lt_of_le h1 (Nat.pow_le_pow_right (by decide) (by omega)))
    rw [this];simp
  rw [h3,show 16*(r / 16) ||| r % 16=2 ^ 4*(r / 16) ||| r % 16 from rfl,<- h2]
  omega
 have h4:∀ q,Kz (Kz (Kz (Kz (16*q))))=q:=by
  intro q
  rw [show 16*q=2*(2*(2*(2*q))) by omega]
  simp only [stepN_two]
 have h5:∀ m:Fin 16,Kz (Kz (Kz (Kz m.val)))=tabN m.val:=by decide
 have h6:=h5 ⟨r % 16,by omega⟩
 dsimp only at h6
 unfold halfN
 conv=>lhs;rw [h]
 simp only [stepN_xor]
 rw [h4,h6]
def Rm (r bit:Nat):Nat:=if r % 2=bit then r / 2 else r / 2 ^^^ 3988292384
theorem bstepN_step (r c:Nat):Rm r (c % 2) ^^^ (c / 2)=Kz (r ^^^ c):=by
 unfold Rm Kz
 rw [xor_mod2,Nat.xor_div_two]
 generalize r / 2=x
 generalize c / 2=y
 generalize 3988292384=p
 rcases Nat.mod_two_eq_zero_or_one r with h1 | h1 <;> rcases Nat.mod_two_eq_zero_or_one c with h2 | h2 <;> simp only [h1,h2] <;> simp
 ·rw [Nat.xor_assoc,Nat.xor_assoc,Nat.xor_comm p]
 ·rw [Nat.xor_assoc,Nat.xor_assoc,Nat.xor_comm p]
def bitsN (r c:Nat):Nat->Nat
 | 0=>r
 | k+1=>Rm (bitsN r c k) (c / 2 ^ k % 2)
theorem Vn (r c k:Nat):bitsN r c (k+1) ^^^ (c / 2 ^ (k+1))=Kz (bitsN r c k ^^^ (c / 2 ^ k)):=by
 rw [<- bstepN_step,Nat.pow_succ,<- Nat.div_div_eq_div_mul]
 rfl
theorem bitsN_byte (r:Nat) (x:UInt8):bitsN r x.toNat 8=Sq r x:=by
 have h0:bitsN r x.toNat 8=bitsN r x.toNat 8 ^^^ (x.toNat / 2 ^ 8):=by
  have:=x.toNat_lt
  rw [show x.toNat / 2 ^ 8=0 by omega,Nat.xor_zero]
 rw [h0,Vn,Vn,Vn,Vn,stepN_four,Vn,Vn,Vn,Vn,stepN_four]
 simp [bitsN,Sq]
theorem bitsN_lt (r:Nat) (hr:r<4294967296) (c:Nat):∀ k,bitsN r c k<4294967296
 | 0=>hr
 | k+1=>by
  have h:=bitsN_lt r hr c k
  unfold bitsN Rm
  split
  ·omega
  ·exact Nat.xor_lt_two_pow (n:=32) (by omega) (by omega)
theorem rLay_spec [bn:Inhabited Ban] {w:World} (hT:ban.top<=w.heap.size) (n k:Nat) (hk:k<=8) (hn:n<2 ^ 64) :
  Calls Tryz.prog 191 #[.int .u64 n,.int .i64 k] w fun e w'=>∃ v,e=.returned v/\OwnB w' w.heap.size v (layB n k)/\Keep No w w':=by
 have hki:(k:Int)<=8:=by omega
 go_enter Tryz.func191,Tryz.ntmps191
 go_wp2
 go_loopw [0,5,6] (fun nv o i wr=>∃ j:Nat,j<=k/\i=.int .i64 j/\nv=.int .u64 (n / 2 ^ (8*j):Nat)/\OwnB wr w.heap.size o (layB n j)/\Keep No w wr) (fun _ _ i _=>k - (intOf i).toNat)
 case atStart=>exact ⟨0,Nat.zero_le _,rfl,by simp,OwnB.nil _ _,Keep.refl _ _⟩
 case round =>
  obtain ⟨j,hj,rfl,rfl,hO,hkp⟩:=hrel
  by_cases hlt:j<k
  ·have hji:(j:Int)<(k:Int):=by omega
   have hlj:=Zu n j
   obtain ⟨ao,cap,rfl⟩:=hO.form
   have hs:=layB_succ n j
   have hd:n / 2 ^ (8*j) / 256=n / 2 ^ (8*(j+1)):=by
    rw [Nat.div_div_eq_div_mul,show 8*(j+1)=8*j+8 from rfl,Nat.pow_add]
   have hmn:n / 2 ^ (8*j)<2 ^ 64:=Nat.lt_of_le_of_lt (Nat.div_le_self _ _) hn
   generalize n / 2 ^ (8*j)=m at *
   have hx:((m:Int) % 256)=(((UInt8.ofNat m).toNat:Nat):Int):=by
    rw [UInt8.toNat_ofNat']
    push_cast
    rfl
   generalize UInt8.ofNat m=x at *
   have hmd:Int.tdiv (m:Int) 256=((m / 256:Nat):Int):=by rw [Int.tdiv_eq_ediv_of_nonneg (Int.natCast_nonneg _)];omega
   have hmw:IntKind.u64.wrap ((m / 256:Nat):Int)=((m / 256:Nat):Int):=by rw [IntKind.wrap_u64];omega
   clear hmn
   have kA:Keep No wr (wr.alloc (.cells #[.int .u8 x.toNat] 5)):=(Keep.refl _ _).alloc _
   have hb1:Qv w.heap.size (wr.alloc (.cells #[.int .u8 x.toNat] 5)) (.slice (some ⟨wr.heap.size,0,none⟩) 1 1) [x]:=Qv.of_block [x] (Qy wr _) (by simp [maxLen]) (Nat.le_trans hT hkp.size)
   have hO1:OwnB (wr.alloc (.cells #[.int .u8 x.toNat] 5)) w.heap.size _ (layB n j):=hO.keep kA (fun _ _ h=>h)
   have HK:=Lib.hid (A4 (hkp.then kA) hs hlt hd)
   clear hO hkp kA hs hlt hd
   rw [hlj] at hO1 ⊢
   go_wp2_with (at_builtin;refine Zq rfl _ _ rfl w.heap.size hO1 hb1 rfl rfl (by rw [hlj];simp;omega) (by have:=HK.out.1.size;omega) ?_;intro v' w' hown' hk')
   go_roundw
   case rel=>exact ⟨j+1,by have:=HK.out.2.2.1;omega,by go_num,by rw [<- HK.out.2.2.2,show (m:Int) / 256=((m / 256:Nat):Int) by omega,hmw],by rw [HK.out.2.1];exact hown',HK.out.1.trans hk' (fun b hb h=>by have:=hO1.lt b h;omega)⟩
   case measure=>have:=HK.out.2.2.1;simp [intOf];omega
  ·have hji:¬(j:Int)<(k:Int):=by omega
   obtain rfl:j=k:=by omega
   go_wp2
   go_ret
   exact ⟨_,rfl,hO,hkp⟩
theorem rSum_spec [bn:Inhabited Ban] {base:Nat} {w:World} {v:Value} {l:Qs} (h:Qv base w v l) :
  Calls Tryz.prog 192 #[v] w fun e w'=>e=.returned (.int .u32 (moreN 0 l:Nat))/\w'=w:=by
 have hcap:l.length<=maxLen:=by obtain ⟨_,_,hq,h1,h2,_⟩:=h;omega
 unfold maxLen at hcap
 have hli:(l.length:Int)<=9223372036854775807:=by omega
 obtain ⟨ao,cap,rfl,_,_,_,hcell⟩:=h
 clear hcap
 go_enter Tryz.func192,Tryz.ntmps192
 go_wp2
 go_loop [3,10] (fun r i=>∃ j:Nat,j<=l.length/\i=.int .i64 j/\r=.int .u32 (foldN 4294967295 (l.take j):Nat)) (fun _ i=>l.length - (intOf i).toNat)
 case atStart=>exact ⟨0,Nat.zero_le _,rfl,rfl⟩
 case round =>
  obtain ⟨j,hj,rfl,rfl⟩:=hrel
  by_cases hlt:j<l.length
  ·have hji:(j:Int)<(l.length:Int):=by omega
   have hxj:l[j]?=some l[j]:=List.getElem?_eq_getElem hlt
   obtain ⟨ad,rfl,_,hcl⟩:=hcell j _ hxj
   have hlt0:=Hf (l.take j) (r:=4294967295) (by decide)
   have hst:foldN 4294967295 (l.take (j+1))=bitsN (foldN 4294967295 (l.take j)) l[j].toNat 8:=by
    rw [List.take_add_one,hxj,bitsN_byte]
    simp only [Option.toList_some,foldN_append]
    rfl
   have hx:=l[j].toNat_lt
   unfold u8v at hcl
   generalize foldN 4294967295 (l.take j)=r0 at *
   generalize l[j].toNat=x at *
   have HK:=Lib.hid (A3 hst hlt hlt0)
   have hxi:(x:Int)<256:=by omega
   clear hst hlt hlt0 hxj hcell hx
   go_wp2
   go_loop [3,6] (fun r k=>∃ q:Nat,q<=8/\k=.int .i64 q/\r=.int .u32 (bitsN r0 x q:Nat)) (fun _ k=>8 - (intOf k).toNat)
   case atStart=>exact ⟨0,Nat.zero_le _,rfl,rfl⟩
   case round =>
    obtain ⟨q,hq,rfl,rfl⟩:=hrel
    by_cases hq8:q<8
    ·have hqi:(q:Int)<8:=by omega
     have hr1:=bitsN_lt r0 HK.out.2.2 x q
     have hst1:bitsN r0 x (q+1)=Rm (bitsN r0 x q) (x / 2 ^ q % 2):=rfl
     generalize bitsN r0 x q=r1 at *
     have hb1:(x:Int) / 2 ^ q % 4294967296 % 2=((x / 2 ^ q % 2:Nat):Int):=by
      have h1:(x:Int) / 2 ^ q=((x / 2 ^ q:Nat):Int):=by push_cast;rfl
      have h2:=Nat.div_le_self x (2 ^ q)
      rw [h1]
      omega
     generalize x / 2 ^ q % 2=bit at *
     have hr2:(r1:Int) % 2=((r1 % 2:Nat):Int):=by omega
     have hd2:Int.tdiv (r1:Int) 2=((r1 / 2:Nat):Int):=by rw [Int.tdiv_eq_ediv_of_nonneg (Int.natCast_nonneg _)];omega
     have hx2:bits .xor .u32 ((r1 / 2:Nat):Int) 3988292384=((r1 / 2 ^^^ 3988292384:Nat):Int):=bits_xor_u32_nat _ _ (by omega) (by decide)
     have hw2:IntKind.u32.wrap ((r1 / 2:Nat):Int)=((r1 / 2:Nat):Int):=by rw [IntKind.wrap_u32];omega
     unfold Rm at hst1
     by_cases he:r1 % 2=bit
     ·rw [if_pos he] at hst1
      have hei:((r1:Int) % 2 != (x:Int) / 2 ^ q % 4294967296 % 2)=false:=by rw [hb1];simp;omega
      have HH:=Lib.hid hst1
      clear hst1 he hb1 hr2
      go_wp2
      go_round
      case rel=>exact ⟨q+1,by omega,by go_num,by rw [HH.out];congr 1⟩
      case measure=>simp [intOf];omega
     ·rw [if_neg he] at hst1
      have hei:((r1:Int) % 2 != (x:Int) / 2 ^ q % 4294967296 % 2)=true:=by rw [hb1];simp;omega
      have HH:=Lib.hid hst1
      clear hst1 he hb1 hr2
      go_wp2
      go_round
      case rel=>exact ⟨q+1,by omega,by go_num,by rw [HH.out];congr 1⟩
      case measure=>simp [intOf];omega
    ·have hqi:¬(q:Int)<8:=by omega
     obtain rfl:q=8:=by omega
     rw [<- HK.out.1]
     go_wp2
     go_round
     case rel=>exact ⟨j+1,by have:=HK.out.2.1;omega,by go_num,rfl⟩
     case measure=>have:=HK.out.2.1;simp [intOf];omega
  ·have hji:¬(j:Int)<(l.length:Int):=by omega
   obtain rfl:j=l.length:=by omega
   rw [List.take_length] at *
   have hf:=Hf l (r:=4294967295) (by decide)
   have hm:moreN 0 l=4294967295-foldN 4294967295 l:=rfl
   generalize foldN 4294967295 l=r1 at *
   have HM:=Lib.hid hm
   clear hm
   have hs:(4294967295:Int) - (r1:Int)=((4294967295-r1:Nat):Int):=by omega
   go_wp2
   go_ret
   exact ⟨by rw [HM.out];rfl,rfl⟩
theorem Ko [bn:Inhabited Ban] {base:Nat} {w:World} {v1 v2:Value} {a b:Qs} (h1:Qv base w v1 a) (h2:Qv base w v2 b) :
  Zb base (w.alloc (.cells #[v1,v2] 59)) (.slice (some ⟨w.heap.size,0,none⟩) 2 2) [a,b]:=by
 have kA:Keep No w (w.alloc (.cells #[v1,v2] 59)):=(Keep.refl _ _).alloc _
 exact Zb.of_block (Qy w _) [a,b] rfl (by simp [maxLen]) (fun i u l e1 e2=>by
  match i,e1,e2 with
  | 0,e1,e2=>simp at e1 e2;subst e1 e2;exact h1.no kA
  | 1,e1,e2=>simp at e1 e2;subst e1 e2;exact h2.no kA)
theorem slices3 [bn:Inhabited Ban] {base:Nat} {w:World} {v1 v2 v3:Value} {a b c:Qs} (h1:Qv base w v1 a) (h2:Qv base w v2 b) (h3:Qv base w v3 c) :
  Zb base (w.alloc (.cells #[v1,v2,v3] 59)) (.slice (some ⟨w.heap.size,0,none⟩) 3 3) [a,b,c]:=by
 have kA:Keep No w (w.alloc (.cells #[v1,v2,v3] 59)):=(Keep.refl _ _).alloc _
 exact Zb.of_block (Qy w _) [a,b,c] rfl (by simp [maxLen]) (fun i u l e1 e2=>by
  match i,e1,e2 with
  | 0,e1,e2=>simp at e1 e2;subst e1 e2;exact h1.no kA
  | 1,e1,e2=>simp at e1 e2;subst e1 e2;exact h2.no kA
  | 2,e1,e2=>simp at e1 e2;subst e1 e2;exact h3.no kA)
theorem rClose_spec [bn:Inhabited Ban] {base:Nat} {w:World} {v:Value} {l:Qs} (h:Qv base w v l) (hT:ban.top<=w.heap.size) (hl:l.length<=1099511627776) :
  Calls Tryz.prog 193 #[v] w fun e w'=>∃ v',e=.returned v'/\OwnB w' w.heap.size v' (Ye l)/\Keep No w w':=by
 obtain ⟨ao,cap,rfl⟩:=h.form
 have hsum:=rSum_spec h
 have hm:=Kc 0 l
 unfold Ye
 generalize moreN 0 l=m at *
 have hmw:IntKind.u64.wrap (m:Int)=(m:Int):=by rw [IntKind.wrap_u64];omega
 have hlay:=rLay_spec hT m 4 (by decide) (by omega)
 have hl4:=Zu m 4
 generalize layB m 4=b at *
 have hjoin:=fun (w':World) (v2:Value) (k:Keep No w w') (h2:Qv base w' v2 b)=>Xv (Ko (h.no k) h2) (by simp [hl4];omega)
 have HC:=Lib.hid hjoin
 clear hjoin h hm hl4 hl
 go_enter Tryz.func193,Tryz.ntmps193
 go_wp2_with (first
  | (go_at_call 97;refine (HC.out _ _ k2 hv2).mono ?_;rintro e w3 ⟨v3,rfl,own3,k3⟩)
  | (go_at_call 191;refine hlay.mono ?_;rintro e w2 ⟨v2,rfl,own2,k2⟩;obtain ⟨o2,c2,rfl⟩:=own2.form;have hv2:=own2.bytes (base:=base) (fun _=>hT))
  | (go_at_call 192;refine hsum.mono ?_;rintro e w1 ⟨rfl,rfl⟩))
 go_ret
 refine ⟨_,rfl,?_,(k2.alloc _).then k3⟩
 have e:[l,b].flatten=l++b:=by simp
 rw [e] at own3
 exact own3.mono (k2.alloc _).size
theorem rHead_spec [bn:Inhabited Ban] {w:World} (hT:ban.top<=w.heap.size) (n:Nat) (hn:n<2 ^ 64) :
  Calls Tryz.prog 149 #[.int .u64 n] w fun e w'=>∃ v,e=.returned v/\OwnB w' w.heap.size v (Xt n)/\Keep No w w':=by
 have hlay:=rLay_spec hT n 8 (Nat.le_refl _) hn
 clear hn
 go_enter Tryz.func149,Tryz.ntmps149
 go_wp2_with (first
  | (go_at_call 193;refine (rClose_spec (own1.bytes (base:=w.heap.size) (fun _=>hT)) (Nat.le_trans hT k1.size) (by rw [Zu];decide)).mono ?_;rintro e w2 ⟨v2,rfl,own2,k2⟩)
  | (go_at_call 191;refine hlay.mono ?_;rintro e w1 ⟨v1,rfl,own1,k1⟩))
 go_ret
 exact ⟨_,rfl,own2.mono k1.size,k1.then k2⟩
theorem rRecord_spec [bn:Inhabited Ban] {base:Nat} {w:World} {v:Value} {l:Qs} (h:Qv base w v l) (hT:ban.top<=w.heap.size) (hl:l.length<=1099511627776) :
  Calls Tryz.prog 147 #[v] w fun e w'=>∃ v',e=.returned v'/\OwnB w' w.heap.size v' (recB l)/\Keep No w w':=by
 obtain ⟨ao,cap,rfl⟩:=h.form
 have hlay:=rLay_spec hT l.length 4 (by decide) (by omega)
 have hlw:IntKind.u64.wrap (l.length:Int)=(l.length:Int):=by rw [IntKind.wrap_u64];omega
 have hl4:=Zu l.length 4
 unfold recB
 generalize layB l.length 4=a at *
 have hm:=Kc 0 (a++l)
 have hcat:=fun (w':World) (v1:Value) (k:Keep No w w') (h1:Qv base w' v1 a)=>Xv (Ko h1 (h.no k)) (by simp [hl4];omega)
 have e2:[a,l].flatten=a++l:=by simp
 rw [e2] at hcat
 have hsum:=fun (w':World) (u:Value) (hu:Qv base w' u (a++l))=>rSum_spec hu
 generalize moreN 0 (a++l)=m at *
 have hmw:IntKind.u64.wrap (m:Int)=(m:Int):=by rw [IntKind.wrap_u64];omega
 have hlay2:=fun (w':World) (hT:ban.top<=w'.heap.size)=>rLay_spec hT m 4 (by decide) (by omega)
 have hl4b:=Zu m 4
 generalize layB m 4=b at *
 have hcat2:=fun (w':World) (v1 v2:Value) (k:Keep No w w') (h1:Qv base w' v1 a) (h2:Qv base w' v2 b)=>Xv (slices3 h1 h2 (h.no k)) (by simp [hl4,hl4b];omega)
 have HC:=Lib.hid hcat
 have HD:=Lib.hid hcat2
 have HL:=Lib.hid hlay2
 have HS:=Lib.hid hsum
 clear hcat hcat2 hlay2 hsum hl4 hl4b hm e2 h hl
 go_enter Tryz.func147,Tryz.ntmps147
 go_wp2_with (first
  | (go_at_call 97;refine (HD.out _ _ _ k4 hv4 hb4).mono ?_;rintro e w5 ⟨v5,rfl,own5,k5⟩)
  | (go_at_call 191;refine (HL.out _ (Nat.le_trans hT k3.size)).mono ?_;rintro e w4 ⟨v4,rfl,own4,k4'⟩;obtain ⟨o4,c4,rfl⟩:=own4.form;have hb4:=own4.bytes (base:=base) (fun _=>Nat.le_trans hT k3.size);have hv4:=hv3.no k4';have k4:=k3.then k4')
  | (go_at_call 192;refine (HS.out _ _ hb3).mono ?_;rintro e w6 ⟨rfl,rfl⟩)
  | (go_at_call 97;refine (HC.out _ _ k1 hv1).mono ?_;rintro e w3 ⟨v3,rfl,own3,k3'⟩;have hb3:=own3.bytes (base:=base) (fun _=>Nat.le_trans hT (k1.alloc _).size);have hv3:=(hv1.no (((Keep.refl _ _).alloc _).then k3'));have k3:=(k1.alloc _).then k3')
  | (go_at_call 191;refine hlay.mono ?_;rintro e w1 ⟨v1,rfl,own1,k1⟩;obtain ⟨o1,c1,rfl⟩:=own1.form;have hv1:=own1.bytes (base:=base) (fun _=>hT)))
 go_ret
 refine ⟨_,rfl,?_,(k4.alloc _).then k5⟩
 have e:[a,b,l].flatten=a++(b++l):=by simp
 rw [e] at own5
 exact own5.mono (k4.alloc _).size
structure InS where
 l:List UInt8
 e:Int
structure InAt [bn:Inhabited Ban] (base:Nat) (w:World) (g:Nat) (s:InS):Prop where
 at':base<=g
 blk:∃ v,w.heap[g]?=some (.cells #[v,.int .i64 s.e] 269 (0,0))/\Qv base w v s.l
def InS.fail (s:InS) (c:Int):InS:={ s with e:=if s.e=0 then c else s.e }
def InS.end' (s:InS):InS:=if s.l=[] then s else s.fail 2
def InS.byte (s:InS):Nat × InS:=if s.e=0 then (match s.l with
 | []=>(0,s.fail 2)
 | b :: r=>(b.toNat,{ s with l:=r })) else (0,s)
theorem InAt.no [bn:Inhabited Ban] {base g:Nat} {w w':World} {s:InS} (h:InAt base w g s) (k:Keep No w w'):InAt base w' g s:=by
 obtain ⟨h1,v,h2,h3⟩:=h
 exact ⟨h1,v,k.heap h2 (fun e=>e),h3.no k⟩
theorem InAt.foot [bn:Inhabited Ban] {base g:Nat} {w:World} {s:InS} (h:InAt base w g s):Foot base w (·=g):=by
 obtain ⟨h1,v,h2,h3⟩:=h
 rintro b rfl
 exact ⟨h1,Qt h2,fun cs fr e=>by rw [h2] at e;simp at e⟩
theorem InAt.setErr [bn:Inhabited Ban] {base g:Nat} {w:World} {s:InS} (h:InAt base w g s) (c:Int):InAt base (w.setCell ⟨g,1,none⟩ (.int .i64 c)) g { s with e:=c }:=by
 have hF:=h.foot
 obtain ⟨h1,v,h2,h3⟩:=h
 have k:Keep (·=g) w (w.setCell ⟨g,1,none⟩ (.int .i64 c)):=Keep.setCell (F:=(·=g)) (Keep.refl _ _) (.inl rfl) _
 exact ⟨h1,v,Qz (i:=1) (u:=.int .i64 c) h2,h3.keep hF k⟩
theorem InAt.setRest [bn:Inhabited Ban] {base g:Nat} {w:World} {s:InS} (h:InAt base w g s) {v:Value} {r:List UInt8} (hv:Qv base w v r):InAt base (w.setCell ⟨g,0,none⟩ v) g { s with l:=r }:=by
 have hF:=h.foot
 obtain ⟨h1,u,h2,h3⟩:=h
 have k:Keep (·=g) w (w.setCell ⟨g,0,none⟩ v):=Keep.setCell (F:=(·=g)) (Keep.refl _ _) (.inl rfl) _
 exact ⟨h1,v,Qz (i:=0) (u:=v) h2,hv.keep hF k⟩
theorem Qd {g i:Nat} (w:World) (v:Value):Keep (·=g) w (w.setCell ⟨g,i,none⟩ v):=Keep.setCell (F:=(·=g)) (Keep.refl _ _) (.inl rfl) _
theorem Vl [bn:Inhabited Ban] {base g:Nat} {w:World} {s:InS} (h:InAt base w g s):Calls Tryz.prog 156 #[.pointer (some ⟨g,0,none⟩)] w fun e w'=>e=.returned (.int .i64 s.e)/\w'=w:=by
 obtain ⟨_,v,h2,_⟩:=h
 have c1:=Qq h2 1
 simp at c1
 clear h2
 go_enter Tryz.func156,Tryz.ntmps156
 go_wp2
 go_ret
 exact ⟨rfl,rfl⟩
theorem iLeft_spec [bn:Inhabited Ban] {base g:Nat} {w:World} {s:InS} (h:InAt base w g s):Calls Tryz.prog 198 #[.pointer (some ⟨g,0,none⟩)] w fun e w'=>e=.returned (.int .i64 s.l.length)/\w'=w:=by
 obtain ⟨_,v,h2,h3⟩:=h
 obtain ⟨ao,cap,rfl⟩:=h3.form
 have c0:=Qq h2 0
 simp at c0
 clear h2
 go_enter Tryz.func198,Tryz.ntmps198
 go_wp2
 go_ret
 exact ⟨rfl,rfl⟩
theorem Kb [bn:Inhabited Ban] {base g:Nat} {w:World} {s:InS} (h:InAt base w g s) (c:Int):Calls Tryz.prog 157 #[.pointer (some ⟨g,0,none⟩),.int .i64 c] w fun e w'=>e=.returned (.tuple #[])/\InAt base w' g (s.fail c)/\Keep (·=g) w w':=by
 obtain ⟨h1,v,h2,h3⟩:=id h
 have c1:=Qq h2 1
 have f1:=Qg h2
 simp at c1
 have HH:=Lib.hid h
 clear h2 h h3 h1
 by_cases he:s.e=0
 ·have hs:s.fail c={ s with e:=c }:=by unfold InS.fail;rw [if_pos he]
  rw [hs]
  rw [he] at c1
  have HE:=Lib.hid he
  clear hs he
  go_enter Tryz.func157,Tryz.ntmps157
  go_wp2
  go_end0
  exact ⟨rfl,HH.out.setErr c,Qd _ _⟩
 ·have hs:s.fail c=s:=by unfold InS.fail;rw [if_neg he]
  have hq:(s.e==0)=false:=by simpa using he
  rw [hs]
  clear hs
  go_enter Tryz.func157,Tryz.ntmps157
  go_wp2
  go_end0
  exact ⟨rfl,HH.out,Keep.refl _ _⟩
theorem iEnd_spec [bn:Inhabited Ban] {base g:Nat} {w:World} {s:InS} (h:InAt base w g s):Calls Tryz.prog 159 #[.pointer (some ⟨g,0,none⟩)] w fun e w'=>e=.returned (.int .i64 s.end'.e)/\InAt base w' g s.end'/\Keep (·=g) w w':=by
 have hl:=iLeft_spec h
 by_cases h0:s.l=[]
 ·have hs:s.end'=s:=by unfold InS.end';rw [if_pos h0]
  have he:=Vl h
  rw [hs]
  rw [h0] at hl
  have HH:=Lib.hid h
  clear hs h0 h
  go_enter Tryz.func159,Tryz.ntmps159
  go_wp2_with (first
   | (go_at_call 156;refine he.mono ?_;rintro e w2 ⟨rfl,rfl⟩)
   | (go_at_call 198;refine hl.mono ?_;rintro e w1 ⟨rfl,rfl⟩))
  go_ret
  exact ⟨rfl,HH.out,Keep.refl _ _⟩
 ·have hs:s.end'=s.fail 2:=by unfold InS.end';rw [if_neg h0]
  have hf:=Kb h 2
  have hpos:(0:Int)<(s.l.length:Int):=by have:=List.length_pos_iff.2 h0;omega
  rw [hs]
  clear hs h0 h
  go_enter Tryz.func159,Tryz.ntmps159
  go_wp2_with (first
   | (go_at_call 156;refine (Vl hi).mono ?_;rintro e w2 ⟨rfl,rfl⟩)
   | (go_at_call 157;refine hf.mono ?_;rintro e w2 ⟨rfl,hi,k2⟩)
   | (go_at_call 198;refine hl.mono ?_;rintro e w1 ⟨rfl,rfl⟩))
  go_ret
  exact ⟨rfl,hi,k2⟩
theorem iByte_spec [bn:Inhabited Ban] {base g:Nat} {w:World} {s:InS} (h:InAt base w g s):Calls Tryz.prog 108 #[.pointer (some ⟨g,0,none⟩)] w fun e w'=>e=.returned (.int .u8 s.byte.1)/\InAt base w' g s.byte.2/\Keep (·=g) w w':=by
 have he:=Vl h
 by_cases h0:s.e=0
 ·cases hl:s.l with
  | nil =>
   have hs:s.byte=(0,s.fail 2):=by unfold InS.byte;rw [if_pos h0,hl]
   have hf:=Kb h 2
   obtain ⟨h1,v,h2,h3⟩:=id h
   obtain ⟨ao,cap,rfl⟩:=h3.form
   have c0:=Qq h2 0
   simp at c0
   rw [hl] at c0
   rw [hs]
   rw [h0] at he
   clear hs h h2 h3
   go_enter Tryz.func108,Tryz.ntmps108
   go_wp2_with (first
    | (go_at_call 157;refine hf.mono ?_;rintro e w2 ⟨rfl,hi,k2⟩)
    | (go_at_call 156;refine he.mono ?_;rintro e w1 ⟨rfl,rfl⟩))
   go_ret
   exact ⟨rfl,hi,k2⟩
  | cons b r =>
   have hs:s.byte=(b.toNat,{ s with l:=r }):=by unfold InS.byte;rw [if_pos h0,hl]
   obtain ⟨h1,v,h2,h3⟩:=id h
   obtain ⟨ao,cap,rfl⟩:=h3.form
   rw [hl] at h2 h3
   obtain ⟨hcl,hcm⟩:(b :: r).length<=cap/\cap<=maxLen:=by obtain ⟨_,_,hq,q1,q2,_⟩:=h3;simp at hq;omega
   obtain ⟨o,c,hsl,hsub⟩:=Rg ao (b :: r).length cap 1 1 rfl (by simp) hcl
   have hrest:=hsub base w (b :: r) h3
   have e1:((b :: r).take (b :: r).length).drop 1=r:=by simp
   rw [e1] at hrest
   have hlr:(b :: r).length - 1=r.length:=by simp
   rw [hlr] at hrest
   simp only [hlr] at hsl
   simp only [List.length_cons] at hsl
   obtain ⟨ad,hao,_,hcell⟩:∃ ad,ao=some ad/\True/\w.cell? ad=some (u8v b):=by
    obtain ⟨_,_,hq,_,_,_,hc⟩:=h3
    simp only [Value.slice.injEq] at hq
    obtain ⟨rfl,_,rfl⟩:=hq
    obtain ⟨ad,e,_,hc⟩:=hc 0 b rfl
    have e0:ad.add 0=ad:=by simp [Addr.add]
    rw [e0] at hc
    exact ⟨ad,e,trivial,hc⟩
   subst hao
   have c0:=Qq h2 0
   have f0:=Qg h2
   simp at c0
   have hset:=h.setRest hrest
   rw [hs]
   rw [h0] at he
   have HH:=Lib.hid hset
   clear hs h h2 h3 hset hrest hsub hl h0 e1 hlr
   unfold u8v at hcell
   go_enter Tryz.func108,Tryz.ntmps108
   go_wp2_with (go_at_call 156;refine he.mono ?_;rintro e w1 ⟨rfl,rfl⟩)
   go_ret
   exact ⟨rfl,HH.out,Qd _ _⟩
 ·have hs:s.byte=(0,s):=by unfold InS.byte;rw [if_neg h0]
  have hq:(s.e==0)=false:=by simpa using h0
  have HH:=Lib.hid h
  rw [hs]
  clear hs h
  go_enter Tryz.func108,Tryz.ntmps108
  go_wp2_with (go_at_call 156;refine he.mono ?_;rintro e w1 ⟨rfl,rfl⟩)
  go_ret
  exact ⟨rfl,HH.out,Keep.refl _ _⟩
abbrev tRun:TypeId:=96
def Ht (w:World) (b:Nat):Prop:=∃ cs fr,w.heap[b]?=some (.cells cs 96 fr)
def Zy (w:World) (v:Value) (l:List RunN):Prop :=
 ∃ ao cap,v=.slice ao l.length cap/\l.length<=cap/\cap<=maxLen/\(ao=none->cap=0)/\(cap≠0->∃ g o,ao=some ⟨g,o,none⟩/\Ht w g /\
  ∀ (i:Nat) r,l[i]?=some r->w.cell? ⟨g,o+i*2,none⟩=some (.int .u64 r.1)/\w.cell? ⟨g,o+i*2+1,none⟩=some (.int .u64 r.2))
def Zn (w:World) (F:Nat->Prop):Prop:=∀ b,F b->¬Ht w b
theorem Zn.no (w:World):Zn w No:=fun _ h=>h.elim
theorem Ht.keep {w w':World} {F:Nat->Prop} {b:Nat} (h:Ht w b) (hF:Zn w F) (k:Keep F w w'):Ht w' b:=by
 obtain ⟨cs,fr,hb⟩:=h
 exact ⟨cs,fr,k.heap hb (fun hf=>hF b hf ⟨cs,fr,hb⟩)⟩
theorem Zy.keep {w w':World} {v:Value} {l:List RunN} {F:Nat->Prop} (h:Zy w v l) (hF:Zn w F) (k:Keep F w w'):Zy w' v l:=by
 obtain ⟨ao,cap,h1,h2,h3,h4,h5⟩:=h
 refine ⟨ao,cap,h1,h2,h3,h4,fun hc=>?_⟩
 obtain ⟨g,o,e,hb,hr⟩:=h5 hc
 have hn:¬F g:=fun hf=>hF g hf hb
 exact ⟨g,o,e,hb.keep hF k,fun i r hi=>⟨k.cell (hr i r hi).1 hn,k.cell (hr i r hi).2 hn⟩⟩
theorem Zy.no {w w':World} {v:Value} {l:List RunN} (h:Zy w v l) (k:Keep No w w'):Zy w' v l:=h.keep (Zn.no _) k
theorem Zy.nil (w:World):Zy w (.slice none 0 0) []:=⟨none,0,rfl,Nat.le_refl _,by decide,fun _=>rfl,fun h=>absurd rfl h⟩
theorem Zy.form {w:World} {v:Value} {l:List RunN} (h:Zy w v l):∃ ao cap,v=.slice ao l.length cap/\l.length<=cap/\cap<=maxLen:=by
 obtain ⟨ao,cap,h1,h2,h3,_⟩:=h
 exact ⟨ao,cap,h1,h2,h3⟩
theorem Zy.row {w:World} {ao:Option Addr} {n cap:Nat} {l:List RunN} (h:Zy w (.slice ao n cap) l) (hl:l≠[]):∃ g o,ao=some ⟨g,o,none⟩ /\
  ∀ (i:Nat) r,l[i]?=some r->w.cell? ⟨g,o+i*2,none⟩=some (.int .u64 r.1)/\w.cell? ⟨g,o+i*2+1,none⟩=some (.int .u64 r.2):=by
 obtain ⟨ao',cap',h1,h2,h3,h4,h5⟩:=h
 simp only [Value.slice.injEq] at h1
 obtain ⟨rfl,rfl,rfl⟩:=h1
 have:=List.length_pos_iff.2 hl
 obtain ⟨g,o,e,_,hr⟩:=h5 (by omega)
 exact ⟨g,o,e,hr⟩
theorem findf_spec {w:World} {bs bnn g o n cap i:Nat} {x y:Nat} (hs:w.cell? ⟨bs,0,none⟩=some (.slice (some ⟨g,o,none⟩) n cap)) (hn:w.cell? ⟨bnn,0,none⟩=some (.int .u64 x)) (hi:i<n)
  (hc:w.cell? ⟨g,o+i*2+1,none⟩=some (.int .u64 y)) :
  Calls Tryz.prog 188 #[.int .i64 i,.pointer (some ⟨bs,0,none⟩),.pointer (some ⟨bnn,0,none⟩)] w fun e w'=>e=.returned (.bool (decide (x<=y)))/\Keep No w w':=by
 have hiz:(i:Int)<(n:Int):=by omega
 go_enter Tryz.func188,Tryz.ntmps188
 go_wp2_with fail
 go_quiet (fail)
 go_wp2_with fail
 go_ret
 exact ⟨by simp,(Keep.refl _ _).drewN _⟩
theorem search_spec {w:World} {gf:Nat} {cb:Array Value} {n k:Nat} {p:Nat->Bool} (eg:∀ args w,(callFunc gf args).run Tryz.prog w=.ok (.enter gf args) w) (hn:n<=1099511627776)
  (hf:∀ (w':World),Keep No w w'->∀ (i:Nat),i<n->Calls Tryz.prog gf (#[.int .i64 i]++cb) w' fun e w2=>e=.returned (.bool (p i))/\Keep No w' w2)
  (hk:k<=n) (h1:∀ i,i<k->p i=false) (h2:∀ i,k<=i->i<n->p i=true) :
  Calls Tryz.prog 187 #[.int .i64 n,.func (.func gf) #[] cb] w fun e w'=>e=.returned (.int .i64 k)/\Keep No w w':=by
 have HF:=Lib.hid (A4 hf h1 h2 hk)
 clear hf h1 h2 hk
 go_enter Tryz.func187,Tryz.ntmps187
 go_wp2_with fail
 go_loopw [5,6] (fun lo hi wr=>∃ (a b:Nat),lo=.int .i64 a/\hi=.int .i64 b/\a<=k/\k<=b/\b<=n/\Keep No w wr) (fun lo hi _=>(intOf hi).toNat - (intOf lo).toNat)
 case atStart=>exact ⟨0,n,rfl,rfl,Nat.zero_le _,HF.out.2.2.2,Nat.le_refl _,Keep.refl _ _⟩
 case round =>
  obtain ⟨a,b,rfl,rfl,ha,hb,hbn,hkp⟩:=hrel
  have HR:=Lib.hid (A4 ha hb hbn hkp)
  by_cases hlt:a<b
  ·have hc:=HF.out.1 wr hkp ((a+b) / 2) (by omega)
   rw [show (((a+b) / 2:Nat):Int)=((a:Int)+(b:Int)) / 2 by omega] at hc
   have hlti:(a:Int)<(b:Int):=by omega
   have hai:(a:Int)<=1099511627776:=by omega
   have hbi:(b:Int)<=1099511627776:=by omega
   cases hp:p ((a+b) / 2)
   ·rw [hp] at hc
    have hmk:(a+b) / 2<k:=by
     rcases Nat.lt_or_ge ((a+b) / 2) k with h | h
     ·exact h
     ·have:=HF.out.2.2.1 _ h (by omega);rw [hp] at this;cases this
    have HM:=Lib.hid hmk
    clear hp hmk hlt ha hb hbn hkp
    go_wp2_with (go_at_fn gf;refine hc.mono ?_;rintro e w' ⟨rfl,k2⟩)
    go_roundw
    case rel=>exact ⟨(a+b) / 2+1,b,by (congr 1 <;> omega),rfl,by have:=HM.out;omega,HR.out.2.1,HR.out.2.2.1,HR.out.2.2.2.then k2⟩
    case measure=>simp [intOf];omega
   ·rw [hp] at hc
    have hmk:k<=(a+b) / 2:=by
     rcases Nat.lt_or_ge ((a+b) / 2) k with h | h
     ·have:=HF.out.2.1 _ h;rw [hp] at this;cases this
     ·exact h
    have HM:=Lib.hid (A2 hmk hlt)
    clear hp hmk hlt ha hb hbn hkp
    go_wp2_with (go_at_fn gf;refine hc.mono ?_;rintro e w' ⟨rfl,k2⟩)
    go_roundw
    case rel=>exact ⟨a,(a+b) / 2,rfl,by congr 1,HR.out.1,HM.out.1,by have:=HR.out.2.2.1;have:=HM.out.2;omega,HR.out.2.2.2.then k2⟩
    case measure=>have:=HM.out.2;simp [intOf];omega
  ·have he:a=k:=by omega
   have hlti:¬(a:Int)<(b:Int):=by omega
   clear ha hb hbn hkp hlt
   subst he
   go_wp2_with fail
   go_ret
   exact ⟨rfl,HR.out.2.2.2⟩
theorem findR_false {l:List RunN} {n i:Nat} {r:RunN} (hi:i<Yr l n) (hr:l[i]?=some r):decide (n<=r.2)=false:=by
 obtain ⟨hl,rfl⟩:=List.getElem?_eq_some_iff.1 hr
 have:=List.not_of_lt_findIdx (p:=fun r:RunN=>decide (n<=r.2)) hi
 simpa using this
theorem findR_true {l:List RunN} (h:RSet l) {n i:Nat} {r:RunN} (hi:Yr l n<=i) (hr:l[i]?=some r):decide (n<=r.2)=true:=by
 obtain ⟨hl,rfl⟩:=List.getElem?_eq_some_iff.1 hr
 have hlt:Yr l n<l.length:=by omega
 have h0:=Hh h _ (List.getElem?_eq_getElem hlt)
 rcases Nat.lt_or_ge (Yr l n) i with hij | hij
 ·have:=List.pairwise_iff_getElem.1 h.gap _ i hlt hl hij
  have:=h.run _ (List.getElem_mem hl)
  simp
  omega
 ·have e:Yr l n=i:=by omega
  simp only [e] at h0
  simpa using h0.1
theorem rFind_spec {w:World} {v:Value} {l:List RunN} (h:Zy w v l) (hs:RSet l) (n:Nat) (hl:l.length<=1099511627776) :
  Calls Tryz.prog 136 #[.agg #[v],.int .u64 n] w fun e w'=>e=.returned (.int .i64 (Yr l n))/\Keep No w w':=by
 obtain ⟨ao,cap,rfl,hc,hm⟩:=h.form
 obtain ⟨W,hW⟩:∃ W,W=(w.alloc (.cells #[.slice ao l.length cap] 90)).alloc (.cells #[.int .u64 n] 27):=⟨_,rfl⟩
 have hsz:(w.alloc (.cells #[.slice ao l.length cap] 90)).heap.size=w.heap.size+1:=by simp
 have kW:Keep No w W:=by rw [hW];exact ((Keep.refl _ _).alloc _).alloc _
 have hA:W.heap[w.heap.size]?=some (.cells #[.slice ao l.length cap] 90 (0,0)):=by
  rw [hW]
  exact ((Keep.refl No _).alloc _).heap (Qy _ _) (fun e=>e)
 have hB:W.heap[w.heap.size+1]?=some (.cells #[.int .u64 n] 27 (0,0)):=by
  rw [hW,<- hsz]
  exact Qy _ _
 have hsr:=search_spec (w:=W) (gf:=188) (cb:=#[.pointer (some ⟨w.heap.size,0,none⟩),.pointer (some ⟨w.heap.size+1,0,none⟩)]) (n:=l.length) (k:=Yr l n)
  (p:=fun i=>match l[i]? with | none=>false | some r=>decide (n<=r.2)) (enters_of Tryz.func188 (by kernel_rfl) rfl) hl (fun w' k i hi=>by
   have hi':l[i]?=some l[i]:=List.getElem?_eq_getElem hi
   obtain ⟨g,o,rfl,hr⟩:=h.row (fun e=>by subst e;simp at hi)
   have hc:=(hr i _ hi').2
   have a1:=k.cell (Qq hA 0) (fun e=>e)
   have b1:=k.cell (Qq hB 0) (fun e=>e)
   have:=findf_spec (w:=w') (bs:=w.heap.size) (bnn:=w.heap.size+1) (n:=l.length) (cap:=cap) (x:=n) a1 b1 hi ((kW.then k).cell hc (fun e=>e))
   rw [hi']
   exact this) (Hd l n) (fun i hi=>by
   have hlt:i<l.length:=Nat.lt_of_lt_of_le hi (Hd l n)
   rw [List.getElem?_eq_getElem hlt]
   exact findR_false hi (List.getElem?_eq_getElem hlt)) (fun i h1 h2=>by
   rw [List.getElem?_eq_getElem h2]
   exact findR_true hs h1 (List.getElem?_eq_getElem h2))
 have c0:=Qq hA 0
 simp at c0
 have HH:=Lib.hid kW
 clear hA hB kW h hs hsz hl hc hm
 go_enter Tryz.func136,Tryz.ntmps136
 go_wp2_with fail
 rw [<- hW]
 go_wp2_with fail
 refine hsr.mono ?_
 rintro e w' ⟨rfl,k2⟩
 go_wp2_with fail
 go_ret
 exact ⟨rfl,HH.out.then k2⟩
theorem find_none {l:List RunN} {n:Nat} (h:l[Yr l n]?=none):Yr l n=l.length:=by
 have h1:=Hd l n
 have h2:=List.getElem?_eq_none_iff.1 h
 omega
theorem find_some {l:List RunN} {n:Nat} {r:RunN} (h:l[Yr l n]?=some r):Yr l n<l.length:=(List.getElem?_eq_some_iff.1 h).1
theorem rHas_spec {w:World} {v:Value} {l:List RunN} (h:Zy w v l) (hs:RSet l) (n:Nat) (hl:l.length<=1099511627776) :
  Calls Tryz.prog 91 #[.agg #[v],.int .u64 n] w fun e w'=>e=.returned (.bool (hasB l n))/\Keep No w w':=by
 obtain ⟨ao,cap,rfl,hc,hm⟩:=h.form
 obtain ⟨W,hW⟩:∃ W,W=w.alloc (.cells #[.slice ao l.length cap] 90):=⟨_,rfl⟩
 have kW:Keep No w W:=by rw [hW];exact (Keep.refl _ _).alloc _
 have hA:W.heap[w.heap.size]?=some (.cells #[.slice ao l.length cap] 90 (0,0)):=by rw [hW];exact Qy _ _
 have hf:=rFind_spec (h.no kW) hs n hl
 have c0:=Qq hA 0
 simp at c0
 cases hr:l[Yr l n]? with
 | none =>
  have e:hasB l n=false:=by unfold hasB;rw [hr]
  rw [find_none hr] at hf
  have HH:=Lib.hid kW
  rw [e]
  clear hA kW h hs hl hc hm e hr
  go_enter Tryz.func91,Tryz.ntmps91
  go_wp2_with fail
  rw [<- hW]
  go_wp2_with fail
  refine hf.mono ?_
  rintro e w' ⟨rfl,k2⟩
  have c1:=k2.cell c0 (fun e=>e)
  go_wp2_with fail
  go_ret
  exact ⟨rfl,HH.out.then k2⟩
 | some r =>
  have e:hasB l n=decide (r.1<=n):=by unfold hasB;rw [hr]
  have hk:=find_some hr
  obtain ⟨g,o,rfl,hrow⟩:=h.row (fun e=>by subst e;simp at hr)
  have hcell:=kW.cell (hrow _ _ hr).1 (fun e=>e)
  obtain ⟨k,hke⟩:∃ k,k=Yr l n:=⟨_,rfl⟩
  rw [<- hke] at hf hk hcell
  have hki:(k:Int)<(l.length:Int):=by omega
  have HH:=Lib.hid kW
  rw [e]
  clear hA kW h hs hl hc hm e hr hrow hke hk
  go_enter Tryz.func91,Tryz.ntmps91
  go_wp2_with fail
  rw [<- hW]
  go_wp2_with fail
  refine hf.mono ?_
  rintro e w' ⟨rfl,k2⟩
  have c1:=k2.cell c0 (fun e=>e)
  have c2:=k2.cell hcell (fun e=>e)
  go_wp2_with fail
  go_ret
  exact ⟨by simp,HH.out.then k2⟩
theorem rGap_spec {w:World} {v:Value} {l:List RunN} (h:Zy w v l) (hs:RSet l) (n m:Nat) (hl:l.length<=1099511627776) (hg:gapR l n=some m) :
  Calls Tryz.prog 168 #[.agg #[v],.int .u64 n] w fun e w'=>e=.returned (.tuple #[.int .u64 m,.bool true])/\Keep No w w':=by
 obtain ⟨ao,cap,rfl,hc,hm⟩:=h.form
 obtain ⟨W,hW⟩:∃ W,W=w.alloc (.cells #[.slice ao l.length cap] 90):=⟨_,rfl⟩
 have kW:Keep No w W:=by rw [hW];exact (Keep.refl _ _).alloc _
 have hA:W.heap[w.heap.size]?=some (.cells #[.slice ao l.length cap] 90 (0,0)):=by rw [hW];exact Qy _ _
 have hf:=rFind_spec (h.no kW) hs n hl
 have c0:=Qq hA 0
 simp at c0
 unfold gapR at hg
 cases hr:l[Yr l n]? with
 | none =>
  rw [hr] at hg
  simp at hg
  subst hg
  rw [find_none hr] at hf
  have HH:=Lib.hid kW
  clear hA kW h hs hl hc hm hr
  go_enter Tryz.func168,Tryz.ntmps168
  go_wp2_with fail
  rw [<- hW]
  go_wp2_with fail
  refine hf.mono ?_
  rintro e w' ⟨rfl,k2⟩
  have c1:=k2.cell c0 (fun e=>e)
  go_wp2_with fail
  go_ret2
  exact ⟨rfl,HH.out.then k2⟩
 | some r =>
  rw [hr] at hg
  simp only at hg
  have hk:=find_some hr
  obtain ⟨g,o,rfl,hrow⟩:=h.row (fun e=>by subst e;simp at hr)
  have hcell:=kW.cell (hrow _ _ hr).1 (fun e=>e)
  have hcell2:=kW.cell (hrow _ _ hr).2 (fun e=>e)
  have hr2:=(hs.run r (Ul hr)).2
  obtain ⟨k,hke⟩:∃ k,k=Yr l n:=⟨_,rfl⟩
  rw [<- hke] at hf hk hcell hcell2
  have hki:(k:Int)<(l.length:Int):=by omega
  have hkn:((k:Int)==(l.length:Int))=false:=by simp;omega
  have HH:=Lib.hid kW
  by_cases hlt:n<r.1
  ·rw [if_pos hlt] at hg
   simp at hg
   subst hg
   have hlti:(n:Int)<(r.1:Int):=by omega
   clear hA kW h hs hl hc hm hr hrow hke hk hlt hr2
   go_enter Tryz.func168,Tryz.ntmps168
   go_wp2_with fail
   rw [<- hW]
   go_wp2_with fail
   refine hf.mono ?_
   rintro e w' ⟨rfl,k2⟩
   have c1:=k2.cell c0 (fun e=>e)
   have c2:=k2.cell hcell (fun e=>e)
   go_wp2_with fail
   go_ret2
   exact ⟨rfl,HH.out.then k2⟩
  ·rw [if_neg hlt] at hg
   split at hg
   ·cases hg
   ·rename_i hne
    simp at hg
    have hlti:¬(n:Int)<(r.1:Int):=by omega
    have hne2:((r.2:Int)==18446744073709551615)=false:=by simp;omega
    have hw:IntKind.u64.wrap ((r.2:Int)+1)=(m:Int):=by rw [wraps_u64 _ (by omega) (by omega)];omega
    clear hA kW h hs hl hc hm hr hrow hke hk hlt hr2 hne hg
    go_enter Tryz.func168,Tryz.ntmps168
    go_wp2_with fail
    rw [<- hW]
    go_wp2_with fail
    refine hf.mono ?_
    rintro e w' ⟨rfl,k2⟩
    have c1:=k2.cell c0 (fun e=>e)
    have c2:=k2.cell hcell (fun e=>e)
    have c3:=k2.cell hcell2 (fun e=>e)
    go_wp2_with fail
    go_ret2
    exact ⟨rfl,HH.out.then k2⟩
end Go.Proofs.YtfdmbomlkpkegaaGreat
