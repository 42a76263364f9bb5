/- Lemmas for ReceiverNil. -/
import Derived.Test.YtfdmbomlkpkegaaGreatS1
import Derived.Test.YtfdmbomlkpkegaaGreatS2
import Derived.Lib.EndianBits
set_option maxRecDepth 100000
set_option maxHeartbeats 8000000
set_option linter.all false
namespace Go.Proofs.YtfdmbomlkpkegaaGreat
open Go Go.RowKit
def layB (n:Nat) (k:Nat):Qs:=(List.range k).map (fun i=>UInt8.ofNat (n / 2 ^ (8*i)))
theorem Zu (n k:Nat):(layB n k).length=k:=by simp [layB]
theorem layB_succ (n k:Nat):layB n (k+1)=layB n k++[UInt8.ofNat (n / 2 ^ (8*k))]:=by simp [layB,List.range_succ]
def takeN:Qs->Nat
 | []=>0
 | b :: l=>b.toNat+256*takeN l
theorem takeN_append (l:Qs) (b:UInt8):takeN (l++[b])=takeN l+b.toNat*2 ^ (8*l.length):=by
 induction l with
 | nil=>simp [takeN]
 | cons c l ih =>
  simp only [List.cons_append,takeN,ih,List.length_cons]
  rw [Nat.mul_add 8,Nat.pow_add,Nat.mul_add]
  have:b.toNat*(2 ^ (8*l.length)*2 ^ (8*1))=256*(b.toNat*2 ^ (8*l.length)):=by
   rw [show (2:Nat) ^ (8*1)=256 from rfl,<- Nat.mul_assoc,Nat.mul_comm]
  omega
theorem takeN_lt (l:Qs):takeN l<2 ^ (8*l.length):=by
 induction l with
 | nil=>simp [takeN]
 | cons b l ih =>
  simp only [takeN,List.length_cons]
  rw [Nat.mul_add 8,Nat.pow_add,show (2:Nat) ^ (8*1)=256 from rfl]
  have:=b.toNat_lt
  omega
theorem Uf (n:Nat):∀ k,takeN (layB n k)=n % 2 ^ (8*k):=by
 intro k
 induction k with
 | zero=>simp [layB,takeN,Nat.mod_one]
 | succ k ih =>
  rw [layB_succ,takeN_append,ih,Zu,UInt8.toNat_ofNat',Nat.mul_add 8,Nat.pow_add,Nat.mod_mul]
  simp [Nat.mul_comm]
theorem lay_spec [bn:Inhabited Ban] {w:World} (hT:ban.top<=w.heap.size) (n k:Nat) (hk:k<=8) :
  Calls Tryz.prog 200 #[.int .u64 n,.int .i64 k] w fun e w'=>∃ v,e=.returned v/\OwnB w' w.heap.size v (layB n k)/\Keep No w w':=by
 have hki:(k:Int)<=8:=by omega
 go_enter Tryz.func200,Tryz.ntmps200
 go_wp2
 go_loopw [5,8] (fun o i wr=>∃ j:Nat,j<=k/\i=.int .i64 j/\OwnB wr w.heap.size o (layB n j)/\Keep No w wr) (fun _ i _=>k - (intOf i).toNat)
 case atStart=>exact ⟨0,Nat.zero_le _,rfl,OwnB.nil _ _,Keep.refl _ _⟩
 case round =>
  obtain ⟨j,hj,rfl,hO,hkp⟩:=hrel
  by_cases hlt:j<k
  ·have hji:(j:Int)<(k:Int):=by omega
   have hlj:=Zu n j
   have hO2:OwnB wr w.heap.size _ (layB n j):=hO
   obtain ⟨ao,cap,rfl⟩:=hO.form
   have hx:((n:Int) / 2 ^ (8*j) % 256)=(((UInt8.ofNat (n / 2 ^ (8*j))).toNat:Nat):Int):=by
    rw [UInt8.toNat_ofNat']
    push_cast
    rfl
   have hs:=layB_succ n j
   generalize UInt8.ofNat (n / 2 ^ (8*j))=x at *
   have kA:Keep No wr (wr.alloc (.cells #[.int .u8 x.toNat] 5)):=(Keep.refl _ _).alloc _
   have hb1:Qv w.heap.size (wr.alloc (.cells #[.int .u8 x.toNat] 5)) (.slice (some ⟨wr.heap.size,0,none⟩) 1 1) [x]:=Qv.of_block [x] (Qy wr _) (by simp [maxLen]) (Nat.le_trans hT hkp.size)
   have hO1:OwnB (wr.alloc (.cells #[.int .u8 x.toNat] 5)) w.heap.size _ (layB n j):=hO.keep kA (fun _ _ h=>h)
   have HK:=Lib.hid (A3 (hkp.then kA) hs hlt)
   clear hO hO2 hkp kA hs hlt
   rw [hlj] at hO1 ⊢
   go_wp2_with (at_builtin;refine Zq rfl _ _ rfl w.heap.size hO1 hb1 rfl rfl (by rw [hlj];simp;omega) (by have:=HK.out.1.size;omega) ?_;intro v' w' hown' hk')
   go_roundw
   case rel=>exact ⟨j+1,by have:=HK.out.2.2;omega,by go_num,by rw [HK.out.2.1];exact hown',HK.out.1.trans hk' (fun b hb h=>by have:=hO1.lt b h;omega)⟩
   case measure=>have:=HK.out.2.2;simp [intOf];omega
  ·have hji:¬(j:Int)<(k:Int):=by omega
   obtain rfl:j=k:=by omega
   go_wp2
   go_ret
   exact ⟨_,rfl,hO,hkp⟩
theorem take_spec [bn:Inhabited Ban] {base:Nat} {w:World} {v:Value} {l:Qs} (h:Qv base w v l) (hl:l.length<=8) :
  Calls Tryz.prog 154 #[v] w fun e w'=>e=.returned (.int .u64 (takeN l:Nat))/\w'=w:=by
 have h0:=h
 obtain ⟨ao,cap,rfl,hc,hm,hn,hcell⟩:=h0
 have hli:(l.length:Int)<=8:=by omega
 go_enter Tryz.func154,Tryz.ntmps154
 go_wp2
 go_loop [3,8] (fun s i=>∃ j:Nat,j<=l.length/\i=.int .i64 j/\s=.int .u64 (takeN (l.take j):Nat)) (fun _ i=>l.length - (intOf i).toNat)
 case atStart=>exact ⟨0,Nat.zero_le _,rfl,by simp [takeN]⟩
 case round =>
  obtain ⟨j,hj,rfl,rfl⟩:=hrel
  by_cases hlt:j<l.length
  ·have hji:(j:Int)<(l.length:Int):=by omega
   have hxj:l[j]?=some l[j]:=List.getElem?_eq_getElem hlt
   obtain ⟨ad,rfl,hbb,hcl⟩:=hcell j _ hxj
   have hst:takeN (l.take (j+1))=takeN (l.take j)+l[j].toNat*2 ^ (8*j):=by
    rw [List.take_add_one,hxj]
    simp only [Option.toList_some]
    rw [takeN_append,List.length_take,Nat.min_eq_left hj]
   have hb:=takeN_lt (l.take j)
   rw [List.length_take,Nat.min_eq_left hj] at hb
   have hx:=l[j].toNat_lt
   generalize l[j]=x at *
   unfold u8v at hcl
   have hor:bits .or .u64 ((takeN (l.take j):Nat):Int) (IntKind.u64.wrap ((x.toNat:Int)*2 ^ (8*j)))=((takeN (l.take (j+1)):Nat):Int):=by
    have p1:2 ^ (8*j+8)<=2 ^ 64:=Nat.pow_le_pow_right (by decide) (by omega)
    rw [Nat.pow_add] at p1
    have p2:x.toNat*2 ^ (8*j)<2 ^ 8*2 ^ (8*j):=Nat.mul_lt_mul_of_pos_right hx (Nat.two_pow_pos _)
    have p3:x.toNat*2 ^ (8*j) % 2 ^ (8*j)=0:=Nat.mul_mod_left _ _
    have p4:2 ^ (8*j)<=2 ^ 64:=Nat.pow_le_pow_right (by decide) (by omega)
    have e:((x.toNat:Int)*2 ^ (8*j))=((x.toNat*2 ^ (8*j):Nat):Int):=by push_cast;rfl
    rw [e,hst]
    generalize x.toNat*2 ^ (8*j)=q at *
    rw [wraps_u64 _ (Int.natCast_nonneg _) (by exact_mod_cast (by omega:q<2 ^ 64))]
    rw [bits_join_low .u64 64 (by decide) wraps_u64 (8*j) _ _ (Int.natCast_nonneg _) (by exact_mod_cast hb) (by exact_mod_cast Nat.lt_of_lt_of_le hb p4) (Int.natCast_nonneg _) (by exact_mod_cast p3) (by exact_mod_cast (by omega:q<2 ^ 64))]
    omega
   have hxi:(x.toNat:Int)<256:=by omega
   clear hst hb hx hxj hcell
   go_wp2
   go_round
   case rel=>exact ⟨j+1,by omega,by go_num,rfl⟩
   case measure=>simp [intOf];omega
  ·have hji:¬(j:Int)<(l.length:Int):=by omega
   obtain rfl:j=l.length:=by omega
   rw [List.take_length] at *
   go_wp2
   go_ret
   exact ⟨rfl,rfl⟩
def tabN (k:Nat):Nat:=#[0,498536548,997073096,651767980,1994146192,1802195444,1303535960,1342533948,3988292384,4027552580,3604390888,3412177804,2607071920,2262029012,2685067896,3183342108].getD k 0
theorem tabN_lt (k:Nat):tabN k<4294967296:=by
 have h:∀ k:Fin 16,tabN k.val<4294967296:=by decide
 by_cases hk:k<16
 ·exact h ⟨k,hk⟩
 ·unfold tabN
  rw [Array.getD,dif_neg (by simpa using hk)]
  decide
def halfN (r:Nat):Nat:=r / 16 ^^^ tabN (r % 16)
theorem halfN_lt {r:Nat} (h:r<4294967296):halfN r<4294967296:=Nat.xor_lt_two_pow (n:=32) (by omega) (tabN_lt _)
def Sq (r:Nat) (x:UInt8):Nat:=halfN (halfN (r ^^^ x.toNat))
theorem byteN_lt {r:Nat} (h:r<4294967296) (x:UInt8):Sq r x<4294967296:=by
 have:=x.toNat_lt
 exact halfN_lt (halfN_lt (Nat.xor_lt_two_pow (n:=32) (by omega) (by omega)))
def foldN (r:Nat) (l:Qs):Nat:=l.foldl Sq r
theorem Hf (l:Qs):∀ {r:Nat},r<4294967296->foldN r l<4294967296:=by
 induction l with
 | nil=>intro r h;exact h
 | cons x l ih=>intro r h;exact ih (byteN_lt h x)
def moreN (s:Nat) (l:Qs):Nat:=4294967295-foldN (4294967295-s) l
theorem Kc (s:Nat) (l:Qs):moreN s l<4294967296:=by unfold moreN;omega
theorem foldN_append (r:Nat) (a b:Qs):foldN r (a++b)=foldN (foldN r a) b:=by simp [foldN]
theorem moreN_append (s:Nat) (a b:Qs):moreN (moreN s a) b=moreN s (a++b):=by
 have h:foldN (4294967295-s) a<4294967296:=Hf a (by omega)
 unfold moreN
 rw [foldN_append]
 congr 2
 omega
theorem bits_xor_u32_nat (a b:Nat) (ha:a<4294967296) (hb:b<4294967296) :
  bits .xor .u32 (a:Int) (b:Int)=((a ^^^ b:Nat):Int):=by
 have hx:a ^^^ b<2 ^ 32:=Nat.xor_lt_two_pow (by omega) (by omega)
 have h1:(BitVec.ofInt 32 (a:Int)).toNat=a:=by
  rw [BitVec.ofInt_natCast,BitVec.toNat_ofNat];exact Nat.mod_eq_of_lt (by omega)
 have h2:(BitVec.ofInt 32 (b:Int)).toNat=b:=by
  rw [BitVec.ofInt_natCast,BitVec.toNat_ofNat];exact Nat.mod_eq_of_lt (by omega)
 show IntKind.u32.wrap ((BitVec.ofInt 32 (a:Int) ^^^ BitVec.ofInt 32 (b:Int)).toNat:Int)=_
 rw [BitVec.toNat_xor,h1,h2,IntKind.wrap_u32]
 omega
theorem bits_low4 (a:Nat) (ha:a<4294967296):bits .and .u32 (a:Int) 15=((a % 16:Nat):Int):=by
 have h:=bits_mask .u32 32 (by decide) wraps_u32 4 (by decide) (a:Int) (Int.natCast_nonneg _) (by exact_mod_cast ha)
 rw [show ((2:Int) ^ 4 - 1)=15 from rfl] at h
 rw [h]
 push_cast
 rfl
theorem com_u32 (s:Nat) (hs:s<4294967296):bits .xor .u32 IntKind.u32.max (s:Int)=((4294967295-s:Nat):Int):=by
 show IntKind.u32.wrap ((BitVec.ofInt 32 IntKind.u32.max ^^^ BitVec.ofInt 32 (s:Int)).toNat:Int)=_
 have e:BitVec.ofInt 32 IntKind.u32.max=BitVec.allOnes 32:=by decide
 rw [e,BitVec.allOnes_xor,BitVec.toNat_not,BitVec.ofInt_natCast,BitVec.toNat_ofNat,Nat.mod_eq_of_lt (by omega),IntKind.wrap_u32]
 omega
theorem halves_spec (w:World):Calls Tryz.prog 213 #[] w fun e w'=>e=.returned (.agg #[.int .u32 0,.int .u32 498536548,.int .u32 997073096,.int .u32 651767980,.int .u32 1994146192,.int .u32 1802195444,.int .u32 1303535960,.int .u32 1342533948,.int .u32 3988292384,.int .u32 4027552580,.int .u32 3604390888,.int .u32 3412177804,.int .u32 2607071920,.int .u32 2262029012,.int .u32 2685067896,.int .u32 3183342108])/\Keep No w w':=by
 have k:∀ o,Keep No w (w.alloc o):=fun o=>(Keep.refl _ _).alloc o
 go_enter Tryz.func213,Tryz.ntmps213
 go_wp2
 refine bodyPost_ret (v:=.agg #[.int .u32 0,.int .u32 498536548,.int .u32 997073096,.int .u32 651767980,.int .u32 1994146192,.int .u32 1802195444,.int .u32 1303535960,.int .u32 1342533948,.int .u32 3988292384,.int .u32 4027552580,.int .u32 3604390888,.int .u32 3412177804,.int .u32 2607071920,.int .u32 2262029012,.int .u32 2685067896,.int .u32 3183342108]) (by simp [results,Tryz.results213,go_sem]) rfl ⟨rfl,k _⟩
theorem more_spec [bn:Inhabited Ban] {base:Nat} {w:World} {v:Value} {l:Qs} (h:Qv base w v l) (s:Nat) (hs:s<4294967296) :
  Calls Tryz.prog 196 #[.int .u32 s,v] w fun e w'=>e=.returned (.int .u32 (moreN s l:Nat))/\Keep No w w':=by
 have hBA:=h
 obtain ⟨ao,cap,rfl⟩:=h.form
 have hcap:l.length<=maxLen:=by obtain ⟨_,_,hq,h1,h2,_⟩:=h;omega
 unfold maxLen at hcap
 have hli:(l.length:Int)<=9223372036854775807:=by omega
 have hsi:(s:Int)<=4294967295:=by omega
 have hs0:(0:Int)<=(s:Int):=by omega
 clear hcap
 go_enter Tryz.func196,Tryz.ntmps196
 have hc0:=com_u32 s hs
 have hr0:4294967295-s<4294967296:=by omega
 go_wp2_with (go_at_call 213;refine (halves_spec _).mono ?_;rintro e w1 ⟨rfl,k1⟩)
 have htab:∀ k,k<16->(w1.alloc (.cells #[.int .u32 0,.int .u32 498536548,.int .u32 997073096,.int .u32 651767980,.int .u32 1994146192,.int .u32 1802195444,.int .u32 1303535960,.int .u32 1342533948,.int .u32 3988292384,.int .u32 4027552580,.int .u32 3604390888,.int .u32 3412177804,.int .u32 2607071920,.int .u32 2262029012,.int .u32 2685067896,.int .u32 3183342108] 316)).cell? ⟨w1.heap.size,k,none⟩=some (.int .u32 (tabN k)):=by
  intro k hk
  rw [Qq (Qy w1 _)]
  match k,hk with
  | 0,_=>rfl
  | 1,_=>rfl
  | 2,_=>rfl
  | 3,_=>rfl
  | 4,_=>rfl
  | 5,_=>rfl
  | 6,_=>rfl
  | 7,_=>rfl
  | 8,_=>rfl
  | 9,_=>rfl
  | 10,_=>rfl
  | 11,_=>rfl
  | 12,_=>rfl
  | 13,_=>rfl
  | 14,_=>rfl
  | 15,_=>rfl
  | n+16,h=>exact absurd h (by omega)
 have hk2:Keep No w (w1.alloc (.cells #[.int .u32 0,.int .u32 498536548,.int .u32 997073096,.int .u32 651767980,.int .u32 1994146192,.int .u32 1802195444,.int .u32 1303535960,.int .u32 1342533948,.int .u32 3988292384,.int .u32 4027552580,.int .u32 3604390888,.int .u32 3412177804,.int .u32 2607071920,.int .u32 2262029012,.int .u32 2685067896,.int .u32 3183342108] 316)):=k1.alloc _
 have h2:=hBA.no hk2
 generalize (w1.alloc (.cells #[.int .u32 0,.int .u32 498536548,.int .u32 997073096,.int .u32 651767980,.int .u32 1994146192,.int .u32 1802195444,.int .u32 1303535960,.int .u32 1342533948,.int .u32 3988292384,.int .u32 4027552580,.int .u32 3604390888,.int .u32 3412177804,.int .u32 2607071920,.int .u32 2262029012,.int .u32 2685067896,.int .u32 3183342108] 316))=w2 at *
 generalize w1.heap.size=B at *
 obtain ⟨_,_,hq,_,_,_,hcell⟩:=h2
 simp only [Value.slice.injEq] at hq
 obtain ⟨rfl,_,rfl⟩:=hq
 clear hc0 k1 hBA
 go_loop [6,14] (fun r i=>∃ j:Nat,j<=l.length/\i=.int .i64 j/\r=.int .u32 (foldN (4294967295-s) (l.take j):Nat)) (fun _ i=>l.length - (intOf i).toNat)
 case atStart=>exact ⟨0,Nat.zero_le _,rfl,rfl⟩
 case round =>
  obtain ⟨j,hj,rfl,rfl⟩:=hrel
  by_cases hlt:j<l.length
  ·have hji:(j:Int)<(l.length:Int):=by omega
   have hxj:l[j]?=some l[j]:=List.getElem?_eq_getElem hlt
   obtain ⟨ad,rfl,_,hcl⟩:=hcell j _ hxj
   have hlt0:=Hf (l.take j) hr0
   have hst:foldN (4294967295-s) (l.take (j+1))=Sq (foldN (4294967295-s) (l.take j)) l[j]:=by
    rw [List.take_add_one,hxj]
    simp only [Option.toList_some,foldN_append]
    rfl
   have hx:=l[j].toNat_lt
   rw [show Sq (foldN (4294967295-s) (l.take j)) l[j]=halfN (halfN (foldN (4294967295-s) (l.take j) ^^^ l[j].toNat)) from rfl] at hst
   unfold u8v at hcl
   generalize foldN (4294967295-s) (l.take j)=r0 at *
   generalize l[j]=x at *
   have e0:bits .xor .u32 (r0:Int) (x.toNat:Int)=((r0 ^^^ x.toNat:Nat):Int):=bits_xor_u32_nat _ _ hlt0 (by omega)
   have l1:r0 ^^^ x.toNat<4294967296:=Nat.xor_lt_two_pow (n:=32) (by omega) (by omega)
   generalize r0 ^^^ x.toNat=r1 at *
   have e1:bits .xor .u32 ((r1:Int) / 16) (tabN (r1 % 16):Int)=((halfN r1:Nat):Int):=by
    rw [show ((r1:Int) / 16)=((r1 / 16:Nat):Int) by omega]
    exact bits_xor_u32_nat _ _ (by omega) (tabN_lt _)
   have a1:=bits_low4 r1 l1
   have c1:=htab (r1 % 16) (by omega)
   have l2:=halfN_lt l1
   generalize halfN r1=r2 at *
   have e2:bits .xor .u32 ((r2:Int) / 16) (tabN (r2 % 16):Int)=((halfN r2:Nat):Int):=by
    rw [show ((r2:Int) / 16)=((r2 / 16:Nat):Int) by omega]
    exact bits_xor_u32_nat _ _ (by omega) (tabN_lt _)
   have a2:=bits_low4 r2 l2
   have c2:=htab (r2 % 16) (by omega)
   have m1:r1 % 16<16:=by omega
   have m2:r2 % 16<16:=by omega
   generalize r1 % 16=q1 at *
   generalize r2 % 16=q2 at *
   have m1i:(q1:Int)<16:=by omega
   have m2i:(q2:Int)<16:=by omega
   have hxi:(x.toNat:Int)<256:=by omega
   have H:=Lib.hid (A2 hst hlt)
   clear hst hlt hxj hcell htab hlt0 l1 l2 m1 m2 hx
   go_wp2
   go_round
   case rel=>exact ⟨j+1,by have:=H.out.2;omega,by go_num,by rw [H.out.1]⟩
   case measure=>have:=H.out.2;simp [intOf];omega
  ·have hji:¬(j:Int)<(l.length:Int):=by omega
   obtain rfl:j=l.length:=by omega
   rw [List.take_length] at *
   have hf:=com_u32 (foldN (4294967295-s) l) (Hf l hr0)
   go_wp2
   go_ret
   exact ⟨rfl,hk2⟩
theorem sum_spec [bn:Inhabited Ban] {base:Nat} {w:World} {v:Value} {l:Qs} (h:Qv base w v l) :
  Calls Tryz.prog 197 #[v] w fun e w'=>e=.returned (.int .u32 (moreN 0 l:Nat))/\Keep No w w':=by
 have hm:=more_spec h 0 (by decide)
 go_enter Tryz.func197,Tryz.ntmps197
 go_wp2_with (go_at_call 196;refine hm.mono ?_;rintro e w1 ⟨rfl,k1⟩)
 go_ret
 exact ⟨rfl,k1⟩
def Ye (l:Qs):Qs:=l++layB (moreN 0 l) 4
theorem closeB_length (l:Qs):(Ye l).length=l.length+4:=by simp [Ye,Zu]
theorem close_spec [bn:Inhabited Ban] {base:Nat} {w:World} {v:Value} {l:Qs} (h:Qv base w v l) (hT:ban.top<=w.heap.size) (hl:l.length<=35184372088832) :
  Calls Tryz.prog 195 #[v] w fun e w'=>∃ v',e=.returned v'/\OwnB w' w.heap.size v' (Ye l)/\Keep No w w':=by
 have hsum:=sum_spec h
 have hs32:=Kc 0 l
 unfold Ye
 generalize moreN 0 l=n at *
 go_enter Tryz.func195,Tryz.ntmps195
 go_wp2_with (first
  | (go_at_call 197;refine hsum.mono ?_;rintro e w1 ⟨rfl,k1⟩)
  | (go_at_call 99;refine (Ju (h.no k1) hl).mono ?_;rintro e w2 ⟨v2,rfl,own2,k2⟩))
 have own2:OwnB w2 w.heap.size v2 l:=⟨own2.1,own2.2.imp id (fun ⟨g,cap,cur,h1,h2,h3⟩=>⟨g,cap,cur,h1,Nat.le_trans k1.size h2,h3⟩)⟩
 have k12:=k1.then k2
 clear hsum h k1 k2
 go_loopw [4,10] (fun o i wr=>∃ j:Nat,j<=4/\i=.int .i64 j/\OwnB wr w.heap.size o (l++layB n j)/\Keep No w wr) (fun _ i _=>4 - (intOf i).toNat)
 case atStart=>exact ⟨0,Nat.zero_le _,rfl,by simpa [layB] using own2,k12⟩
 case round =>
  clear own2 k12
  obtain ⟨j,hj,rfl,hO,hkp⟩:=hrel
  by_cases hlt:j<4
  ·have hji:(j:Int)<4:=by omega
   have hlj:(l++layB n j).length=l.length+j:=by simp [Zu]
   obtain ⟨ao,cap,rfl⟩:=hO.form
   have hx:((n:Int) / 2 ^ (8*j) % 256)=(((UInt8.ofNat (n / 2 ^ (8*j))).toNat:Nat):Int):=by
    rw [UInt8.toNat_ofNat']
    push_cast
    rfl
   have hs:=layB_succ n j
   generalize UInt8.ofNat (n / 2 ^ (8*j))=x at *
   have kA:Keep No wr (wr.alloc (.cells #[.int .u8 x.toNat] 5)):=(Keep.refl _ _).alloc _
   have hb1:Qv w.heap.size (wr.alloc (.cells #[.int .u8 x.toNat] 5)) (.slice (some ⟨wr.heap.size,0,none⟩) 1 1) [x]:=Qv.of_block [x] (Qy wr _) (by simp [maxLen]) (Nat.le_trans hT hkp.size)
   have hO1:OwnB (wr.alloc (.cells #[.int .u8 x.toNat] 5)) w.heap.size _ (l++layB n j):=hO.keep kA (fun _ _ h=>h)
   have HK:=Lib.hid (A3 (hkp.then kA) hs hlt)
   clear hO hkp kA hs hlt
   rw [hlj] at hO1 ⊢
   go_wp2_with (at_builtin;refine Zq rfl _ _ rfl w.heap.size hO1 hb1 rfl rfl (by rw [hlj];simp;omega) (by have:=HK.out.1.size;omega) ?_;intro v' w' hown' hk')
   go_roundw
   case rel=>exact ⟨j+1,by have:=HK.out.2.2;omega,by go_num,by rw [HK.out.2.1,<- List.append_assoc];exact hown',HK.out.1.trans hk' (fun b hb h=>by have:=hO1.lt b h;omega)⟩
   case measure=>have:=HK.out.2.2;simp [intOf];omega
  ·have hji:¬(j:Int)<4:=by omega
   obtain rfl:j=4:=by omega
   go_wp2
   go_ret
   exact ⟨_,rfl,hO,hkp⟩
def Rf (l:Qs):Qs × Nat:=if l.length<4 then ([],2) else if Ye (l.take (l.length - 4))==l then (l.take (l.length - 4),0) else ([],3)
def Xt (first:Nat):Qs:=Ye (layB first 8)
theorem Zr (n:Nat):(Xt n).length=12:=by simp [Xt,closeB_length,Zu]
def recB (l:Qs):Qs:=layB l.length 4++(layB (moreN 0 (layB l.length 4++l)) 4++l)
theorem Zl (l:Qs):(recB l).length=l.length+8:=by simp [recB,Zu];omega
theorem lHead_spec [bn:Inhabited Ban] {w:World} (hT:ban.top<=w.heap.size) (n:Nat) :
  Calls Tryz.prog 166 #[.int .u64 n] w fun e w'=>∃ v,e=.returned v/\OwnB w' w.heap.size v (Xt n)/\Keep No w w':=by
 have hlay:=lay_spec hT n 8 (Nat.le_refl _)
 go_enter Tryz.func166,Tryz.ntmps166
 go_wp2_with (first
  | (go_at_call 195;refine (close_spec (own1.bytes (base:=w.heap.size) (fun _=>hT)) (Nat.le_trans hT k1.size) (by rw [Zu];decide)).mono ?_;rintro e w2 ⟨v2,rfl,own2,k2⟩)
  | (go_at_call 200;refine hlay.mono ?_;rintro e w1 ⟨v1,rfl,own1,k1⟩))
 go_ret
 exact ⟨_,rfl,⟨own2.1,own2.2.imp id (fun ⟨g,cap,cur,h1,h2,h3⟩=>⟨g,cap,cur,h1,Nat.le_trans k1.size h2,h3⟩)⟩,k1.then k2⟩
theorem OwnB.mono {w:World} {B B':Nat} {v:Value} {l:Qs} (h:OwnB w B v l) (hb:B'<=B):OwnB w B' v l :=
 ⟨h.1,h.2.imp id (fun ⟨g,cap,cur,h1,h2,h3⟩=>⟨g,cap,cur,h1,Nat.le_trans hb h2,h3⟩)⟩
theorem lRecord_spec [bn:Inhabited Ban] {base:Nat} {w:World} {v:Value} {l:Qs} (h:Qv base w v l) (hT:ban.top<=w.heap.size) (hl:l.length<=1099511627776) :
  Calls Tryz.prog 163 #[v] w fun e w'=>∃ v',e=.returned v'/\OwnB w' w.heap.size v' (recB l)/\Keep No w w':=by
 have h0:=h
 obtain ⟨ao,cap,rfl⟩:=h.form
 have hlay:=lay_spec hT l.length 4 (by decide)
 have hli:(l.length:Int)<=1099511627776:=by omega
 have hl4:=Zu l.length 4
 unfold recB
 rw [<- moreN_append]
 generalize layB l.length 4=a at *
 have hmt:=Kc 0 a
 have hsum:=fun (w':World) (u:Value) (hu:Qv base w' u a)=>sum_spec hu
 generalize moreN 0 a=s at *
 have hmt2:=Kc s l
 have hmore:=fun (w':World) (k:Keep No w w')=>more_spec (h.no k) s hmt
 generalize moreN s l=m at *
 have hmi:(m:Int)<4294967296:=by omega
 have hlay2:=fun (w':World) (hT:ban.top<=w'.heap.size)=>lay_spec hT m 4 (by decide)
 have hl4b:=Zu m 4
 generalize layB m 4=b at *
 have hcat:=fun (w':World) (o1 o2:Option Addr) (c1 c2:Nat) (k:Keep No w w') (h1:Qv base w' (.slice o1 4 c1) a) (h2:Qv base w' (.slice o2 4 c2) b) =>
  concat_spec (Zb.of_block (Qy w' (.cells #[.slice o1 4 c1,.slice o2 4 c2,.slice ao l.length cap] 59)) [a,b,l] rfl (by simp [maxLen]) (fun i u l'' e1 e2=>by
   have kA:Keep No w' (w'.alloc (.cells #[.slice o1 4 c1,.slice o2 4 c2,.slice ao l.length cap] 59)):=(Keep.refl _ _).alloc _
   match i,e1,e2 with
   | 0,e1,e2=>simp at e1 e2;subst e1 e2;exact h1.no kA
   | 1,e1,e2=>simp at e1 e2;subst e1 e2;exact h2.no kA
   | 2,e1,e2=>simp at e1 e2;subst e1 e2;exact h0.no (k.then kA))) (by simp;omega)
 have HC:=Lib.hid hcat
 have HL:=Lib.hid hlay2
 have H4:=Lib.hid (A2 hl4 hl4b)
 clear hcat hlay2 hl4 hl4b hmt hmt2 h0 h
 go_enter Tryz.func163,Tryz.ntmps163
 go_wp2_with (first
  | (go_at_call 101;refine (HC.out _ _ _ _ _ (((k1.then k2).then k3).then k4) (((hv1.no k2).no k3).no k4) hv4).mono ?_;rintro e w5 ⟨v5,rfl,own5,k5⟩)
  | (go_at_call 200;refine (HL.out _ (Nat.le_trans hT ((k1.then k2).then k3).size)).mono ?_;rintro e w4 ⟨v4,rfl,own4,k4⟩;obtain ⟨o4,c4,rfl⟩:=own4.form;have hv4:=own4.bytes (base:=base) (fun _=>Nat.le_trans hT ((k1.then k2).then k3).size);rw [H4.out.2] at hv4 ⊢)
  | (go_at_call 196;refine (hmore _ (k1.then k2)).mono ?_;rintro e w3 ⟨rfl,k3⟩)
  | (go_at_call 197;refine (hsum _ _ hv1).mono ?_;rintro e w2 ⟨rfl,k2⟩)
  | (go_at_call 200;refine hlay.mono ?_;rintro e w1 ⟨v1,rfl,own1,k1⟩;obtain ⟨o1,c1,rfl⟩:=own1.form;have hv1:=own1.bytes (base:=base) (fun _=>hT);rw [H4.out.1] at hv1 ⊢))
 have k15:=(((k1.then k2).then k3).then k4)
 go_ret
 refine ⟨_,rfl,?_,(k15.alloc _).then k5⟩
 have e:[a,b,l].flatten=a++(b++l):=by simp
 rw [e] at own5
 exact own5.mono (by have:=(k15.alloc (.cells #[.slice o1 4 c1,.slice o4 4 c4,.slice ao l.length cap] 59)).size;omega)
theorem mOpen_spec [bn:Inhabited Ban] {base:Nat} {w:World} {v:Value} {l:Qs} (h:Qv base w v l) (hT:ban.top<=w.heap.size) (hl:l.length<=1099511627776) :
  Calls Tryz.prog 153 #[v] w fun e w'=>∃ v',e=.returned (.tuple #[v',.int .i64 (Rf l).2])/\OwnB w' w.heap.size v' (Rf l).1/\Keep No w w':=by
 have h0:=h
 obtain ⟨ao,cap,rfl⟩:=h.form
 have hcap:l.length<=cap/\cap<=maxLen:=by obtain ⟨_,_,hq,h1,h2,_⟩:=h;simp at hq;omega
 unfold maxLen at hcap
 have hci:(l.length:Int)<=(cap:Int):=by omega
 have hci2:(cap:Int)<=9223372036854775807:=by omega
 clear hcap
 by_cases h4:l.length<4
 ·have e:Rf l=([],2):=by unfold Rf;rw [if_pos h4]
  rw [e]
  have h4i:(l.length:Int)<4:=by omega
  clear h h0 e
  go_enter Tryz.func153,Tryz.ntmps153
  go_wp2_with fail
  go_ret2
  exact ⟨_,rfl,OwnB.nil _ _,Keep.refl _ _⟩
 ·obtain ⟨n,hn⟩:∃ n,l.length=n+4:=⟨l.length - 4,by omega⟩
  have hni:(l.length:Int) - 4=(n:Int):=by omega
  have hni2:(n:Int)<=(cap:Int):=by omega
  have ht:=h0.take n (by omega)
  have e0:Rf l=if Ye (l.take n)==l then (l.take n,0) else ([],3):=by unfold Rf;rw [if_neg h4,hn,Nat.add_sub_cancel]
  rw [e0]
  have htl:(l.take n).length<=1099511627776:=by rw [List.length_take];omega
  generalize l.take n=t at *
  have hclose:=close_spec ht hT (by omega)
  have heq:=fun (w':World) (u:Value) (k:Keep No w w') (hu:Qv base w' u (Ye t))=>bequal_spec hu (h0.no k)
  have hclone:=fun (w':World) (k:Keep No w w')=>Ju (ht.no k) (by omega)
  have HN:=Lib.hid hn
  clear h ht hn h4 h0
  by_cases hq:(Ye t==l)=true
  ·rw [if_pos hq]
   rw [hq] at heq
   clear e0 hq
   go_enter Tryz.func153,Tryz.ntmps153
   go_wp2_with (first
    | (go_at_call 99;refine (hclone _ (by subst e3;exact k1)).mono ?_;rintro e w2 ⟨v2,rfl,own2,k2⟩)
    | (go_at_call 113;refine (heq _ _ k1 (own1.bytes (fun _=>hT))).mono ?_;rintro e w3 ⟨rfl,e3⟩)
    | (go_at_call 195;refine hclose.mono ?_;rintro e w1 ⟨v1,rfl,own1,k1⟩))
   go_ret2
   subst e3
   exact ⟨_,rfl,own2.mono k1.size,k1.then k2⟩
  ·have hq:(Ye t==l)=false:=by simpa using hq
   rw [hq] at heq
   rw [hq,if_neg (by decide)]
   clear e0 hq
   go_enter Tryz.func153,Tryz.ntmps153
   go_wp2_with (first
    | (go_at_call 113;refine (heq _ _ k1 (own1.bytes (fun _=>hT))).mono ?_;rintro e w3 ⟨rfl,e3⟩)
    | (go_at_call 195;refine hclose.mono ?_;rintro e w1 ⟨v1,rfl,own1,k1⟩))
   go_ret2
   subst e3
   exact ⟨_,rfl,OwnB.nil _ _,k1⟩
structure SegV where
 n:Int
 first:Nat
 count:Nat
 size:Nat
 whole:Bool
 headed:Bool
def Yy (s:SegV):List Value:=[.int .u64 s.n,.int .u64 s.first,.int .u64 s.count,.int .i64 s.size,.bool s.whole,.bool s.headed]
def Yf (l:List SegV):List Value:=l.flatMap Yy
theorem lsegCells_append (l:List SegV) (s:SegV):Yf (l++[s])=Yf l++Yy s:=by simp [Yf]
theorem lsegCells_at:∀ {l:List SegV} {i:Nat} {s:SegV},l[i]?=some s->∀ f,f<6->(Yf l)[i*6+f]?=(Yy s)[f]?:=by
 intro l
 induction l with
 | nil=>intro i s h;simp at h
 | cons x l ih =>
  intro i s h f hf
  cases i with
  | zero =>
   simp at h
   subst h
   simp only [Yf,List.flatMap_cons]
   rw [List.getElem?_append_left (by simp [Yy];omega)]
   simp
  | succ i =>
   have h2:=ih (i:=i) (by simpa using h) f hf
   rw [<- h2]
   simp only [Yf,List.flatMap_cons]
   rw [List.getElem?_append_right (by simp [Yy];omega)]
   congr 1
   simp [Yy]
   omega
def Jn (base:Nat) (w:World) (v:Value) (l:List SegV):Prop:=w.ownsRow base 265 6 v l.length (Yf l)
def Zp [bn:Inhabited Ban] (base:Nat) (w:World) (v:Value) (l:List Qs):Prop :=
 ∃ us:List Value,us.length=l.length/\(∀ (i:Nat) u b,us[i]?=some u->l[i]?=some b->Qv base w u b)/\w.ownsRow base 59 1 v l.length us
def Vi [bn:Inhabited Ban] (base:Nat) (w:World) (v:Value) (l:List Qs):Prop :=
 ∃ us:List Value,us.length=l.length/\(∀ (i:Nat) u b,us[i]?=some u->l[i]?=some b->Qv base w u b)/\Vz w base 59 v l.length us
structure LogS where
 size:Int
 segs:List SegV
 recs:List Qs
 next:Nat
structure Zd [bn:Inhabited Ban] (base:Nat) (w:World) (g p:Nat) (sv lv:Value) (L:LogS):Prop where
 blk:w.heap[g]?=some (.cells #[.pointer (some ⟨p,0,none⟩),.int .i64 L.size,sv,lv,.int .u64 L.next] 130 (0,0))
 segs:Jn base w sv L.segs
 recs:Vi base w lv L.recs
 gb:base<=g
def Yg (g:Nat) (sv lv:Value):Nat->Prop:=fun b=>b=g\/sv.ownBlock=some b\/lv.ownBlock=some b
theorem Kj {w:World} {base:Nat} {t:TypeId} {size n:Nat} {v:Value} {xs:List Value} (h:w.ownsRow base t size v n xs):∃ ao cap,v=.slice ao n cap/\n<=cap/\cap<=maxLen:=by
 rcases h.2 with ⟨rfl,h0⟩ | ⟨g,cap,cur,rfl,_,_,h1,h2,_⟩
 ·exact ⟨none,0,by rw [h0],by omega,by decide⟩
 ·exact ⟨_,_,rfl,h1,h2⟩
theorem Qa {w:World} {base:Nat} {t:TypeId} {size n:Nat} {v:Value} {xs:List Value} (h:w.ownsRow base t size v n xs):∀ b,v.ownBlock=some b->base<=b/\∃ cur,w.heap[b]?=some (.cells cur t (0,0)):=by
 intro b hb
 rcases h.2 with ⟨rfl,_⟩ | ⟨g,cap,cur,rfl,h1,h2,_⟩
 ·simp [Value.ownBlock] at hb
 ·simp [Value.ownBlock] at hb
  subst hb
  exact ⟨h1,cur,h2⟩
theorem Yu {w w':World} {base:Nat} {t:TypeId} {size n:Nat} {v:Value} {xs:List Value} {F:Nat->Prop} (h:w.ownsRow base t size v n xs) (k:Keep F w w') (hn:∀ b,v.ownBlock=some b->¬F b):w'.ownsRow base t size v n xs:=by
 refine ⟨h.1,?_⟩
 rcases h.2 with h | ⟨g,cap,cur,rfl,h1,h2,r⟩
 ·exact .inl h
 ·exact .inr ⟨g,cap,cur,rfl,h1,k.heap h2 (hn g rfl),r⟩
theorem Gy {w:World} {base:Nat} {t:TypeId} {size n cap:Nat} {ao:Option Addr} {xs:List Value} (h:w.ownsRow base t size (.slice ao n cap) n xs) {j:Nat} {x:Value} (hj:xs[j]?=some x) (hl:xs.length=n*size) :
  ∃ g,ao=some ⟨g,0,none⟩/\w.cell? ⟨g,j,none⟩=some x:=by
 have hlt:=(List.getElem?_eq_some_iff.1 hj).1
 rcases h.2 with ⟨hq,h0⟩ | ⟨g,cap',cur,hq,h1,h2,h3,h4,h5,h6⟩
 ·subst h0;rw [hl] at hlt;omega
 ·simp only [Value.slice.injEq] at hq
  obtain ⟨rfl,_,rfl⟩:=hq
  refine ⟨g,rfl,?_⟩
  rw [Qq h2]
  rw [<- h6,List.getElem?_take] at hj
  split at hj
  ·simpa using hj
  ·cases hj
theorem Zp.keep [bn:Inhabited Ban] {base:Nat} {w w':World} {v:Value} {l:List Qs} {F:Nat->Prop} (h:Zp base w v l) (hF:Foot base w F) (k:Keep F w w') (hn:∀ b,v.ownBlock=some b->¬F b):Zp base w' v l:=by
 obtain ⟨us,h1,h2,h3⟩:=h
 exact ⟨us,h1,fun i u b hu hb=>(h2 i u b hu hb).keep hF k,Yu h3 k hn⟩
theorem Zp.form [bn:Inhabited Ban] {base:Nat} {w:World} {v:Value} {l:List Qs} (h:Zp base w v l):∃ ao cap,v=.slice ao l.length cap/\l.length<=cap/\cap<=maxLen:=by
 obtain ⟨us,_,_,h3⟩:=h
 exact Kj h3
theorem Jn.form {base:Nat} {w:World} {v:Value} {l:List SegV} (h:Jn base w v l):∃ ao cap,v=.slice ao l.length cap/\l.length<=cap/\cap<=maxLen:=Kj h
theorem lsegCells_length (l:List SegV):(Yf l).length=l.length*6:=by
 induction l with
 | nil=>rfl
 | cons x l ih=>simp only [Yf,List.flatMap_cons,List.length_append,List.length_cons] at ih ⊢;rw [ih];simp [Yy];omega
theorem Jn.cell {base:Nat} {w:World} {ao:Option Addr} {n cap:Nat} {l:List SegV} (h:Jn base w (.slice ao n cap) l) {i:Nat} {s:SegV} (hi:l[i]?=some s) :
  ∃ g,ao=some ⟨g,0,none⟩/\w.cell? ⟨g,i*6,none⟩=some (.int .u64 s.n)/\w.cell? ⟨g,i*6+1,none⟩=some (.int .u64 s.first)/\w.cell? ⟨g,i*6+2,none⟩=some (.int .u64 s.count) /\
   w.cell? ⟨g,i*6+3,none⟩=some (.int .i64 s.size)/\w.cell? ⟨g,i*6+4,none⟩=some (.bool s.whole)/\w.cell? ⟨g,i*6+5,none⟩=some (.bool s.headed):=by
 obtain ⟨ao',cap',hq,_⟩:=h.form
 simp only [Value.slice.injEq] at hq
 obtain ⟨rfl,rfl,rfl⟩:=hq
 have hl:=lsegCells_length l
 have c:=fun (f:Nat) (hf:f<6) (x:Value) (hx:(Yy s)[f]?=some x)=>Gy h (j:=i*6+f) (x:=x) (by rw [lsegCells_at hi f hf];exact hx) hl
 obtain ⟨g,rfl,c0⟩:=c 0 (by decide) _ rfl
 refine ⟨g,rfl,c0,?_,?_,?_,?_,?_⟩
 ·obtain ⟨_,e,h⟩:=c 1 (by decide) _ rfl;simp at e;subst e;exact h
 ·obtain ⟨_,e,h⟩:=c 2 (by decide) _ rfl;simp at e;subst e;exact h
 ·obtain ⟨_,e,h⟩:=c 3 (by decide) _ rfl;simp at e;subst e;exact h
 ·obtain ⟨_,e,h⟩:=c 4 (by decide) _ rfl;simp at e;subst e;exact h
 ·obtain ⟨_,e,h⟩:=c 5 (by decide) _ rfl;simp at e;subst e;exact h
theorem Zp.cell [bn:Inhabited Ban] {base:Nat} {w:World} {ao:Option Addr} {n cap:Nat} {l:List Qs} (h:Zp base w (.slice ao n cap) l) {i:Nat} {b:Qs} (hi:l[i]?=some b) :
  ∃ g u,ao=some ⟨g,0,none⟩/\w.cell? ⟨g,i,none⟩=some u/\Qv base w u b:=by
 obtain ⟨ao',cap',hq,_⟩:=h.form
 simp only [Value.slice.injEq] at hq
 obtain ⟨rfl,rfl,rfl⟩:=hq
 obtain ⟨us,h1,h2,h3⟩:=h
 have hlt:i<us.length:=by rw [h1];exact (List.getElem?_eq_some_iff.1 hi).1
 have hu:us[i]?=some us[i]:=List.getElem?_eq_getElem hlt
 obtain ⟨g,rfl,hc⟩:=Gy h3 hu (by rw [h1];omega)
 exact ⟨g,_,rfl,hc,h2 i _ b hu hi⟩
theorem Vi.of [bn:Inhabited Ban] {base:Nat} {w:World} {v:Value} {l:List Qs} (h:Zp base w v l):Vi base w v l:=by
 obtain ⟨us,h1,h2,h3⟩:=h
 exact ⟨us,h1,h2,tail_of_row h3⟩
theorem Vi.nil [bn:Inhabited Ban] (base:Nat) (w:World):Vi base w (.slice none 0 0) []:=⟨[],rfl,fun i u b h=>by simp at h,tail_nil _ _ _⟩
theorem Vi.keep [bn:Inhabited Ban] {base:Nat} {w w':World} {v:Value} {l:List Qs} {F:Nat->Prop} (h:Vi base w v l) (hF:Foot base w F) (k:Keep F w w') (hn:∀ b,v.ownBlock=some b->¬F b):Vi base w' v l:=by
 obtain ⟨us,h1,h2,h3⟩:=h
 exact ⟨us,h1,fun i u b hu hb=>(h2 i u b hu hb).keep hF k,tail_keep h3 k hn⟩
theorem Vi.form [bn:Inhabited Ban] {base:Nat} {w:World} {v:Value} {l:List Qs} (h:Vi base w v l):∃ ao cap,v=.slice ao l.length cap/\l.length<=cap/\cap<=maxLen:=by
 obtain ⟨us,_,_,h3⟩:=h
 exact tail_form h3
theorem Vi.foot [bn:Inhabited Ban] {base:Nat} {w:World} {v:Value} {l:List Qs} (h:Vi base w v l):Foot base w (fun b=>v.ownBlock=some b):=by
 intro b hb
 obtain ⟨us,_,_,hr⟩:=h
 obtain ⟨h1,cur,hz⟩:=Vf hr b hb
 exact ⟨h1,Qt hz,fun cs fr e=>by rw [hz] at e;simp at e⟩
theorem Vi.cell [bn:Inhabited Ban] {base:Nat} {w:World} {ao:Option Addr} {n cap:Nat} {l:List Qs} (h:Vi base w (.slice ao n cap) l) {i:Nat} {b:Qs} (hi:l[i]?=some b) :
  ∃ g off u,ao=some ⟨g,off,none⟩/\w.cell? ⟨g,off+i,none⟩=some u/\Qv base w u b:=by
 obtain ⟨ao',cap',hq,_⟩:=h.form
 simp only [Value.slice.injEq] at hq
 obtain ⟨rfl,rfl,rfl⟩:=hq
 obtain ⟨us,h1,h2,h3⟩:=h
 have hlt:i<us.length:=by rw [h1];exact (List.getElem?_eq_some_iff.1 hi).1
 have hu:us[i]?=some us[i]:=List.getElem?_eq_getElem hlt
 obtain ⟨g,off,rfl,hc⟩:=tail_cell h3 hu
 exact ⟨g,off,_,rfl,hc,h2 i _ b hu hi⟩
section
variable [bn:Inhabited Ban] {base:Nat} {w w':World} {g p:Nat} {sv lv:Value} {L:LogS}
theorem Zd.kind (h:Zd base w g p sv lv L) {b:Nat} (hb:Yg g sv lv b):base<=b/\∃ cs t,w.heap[b]?=some (.cells cs t (0,0))/\(t=130\/t=265\/t=59):=by
 rcases hb with rfl | hb | hb
 ·exact ⟨h.gb,_,_,h.blk,.inl rfl⟩
 ·obtain ⟨h1,cur,hz⟩:=Qa h.segs b hb
  exact ⟨h1,_,_,hz,.inr (.inl rfl)⟩
 ·obtain ⟨us,_,_,hr⟩:=h.recs
  obtain ⟨h1,cur,hz⟩:=Vf hr b hb
  exact ⟨h1,_,_,hz,.inr (.inr rfl)⟩
theorem Zd.foot (h:Zd base w g p sv lv L):Foot base w (Yg g sv lv):=by
 intro b hb
 obtain ⟨h1,cs,t,hz,ht⟩:=h.kind hb
 exact ⟨h1,Qt hz,fun cs fr e=>by rw [hz] at e;simp at e;obtain ⟨_,rfl,_⟩:=e;rcases ht with ht | ht | ht <;> simp at ht⟩
theorem Zd.keep {F:Nat->Prop} (h:Zd base w g p sv lv L) (hF:Foot base w F) (k:Keep F w w') (hn:∀ b,Yg g sv lv b->¬F b):Zd base w' g p sv lv L :=
 ⟨k.heap h.blk (hn g (.inl rfl)),Yu h.segs k (fun b hb=>hn b (.inr (.inl hb))),h.recs.keep hF k (fun b hb=>hn b (.inr (.inr hb))),h.gb⟩
theorem Zd.no (h:Zd base w g p sv lv L) (k:Keep No w w'):Zd base w' g p sv lv L:=h.keep (Foot.no _ _) k (fun _ _ h=>h)
theorem Zd.lt (h:Zd base w g p sv lv L):∀ b,Yg g sv lv b->b<w.heap.size:=fun b hb=>(h.foot b hb).2.1
variable {q n s:Nat} {wv:Value} {d:Qr}
theorem Zd.apart (h:Zd base w g p sv lv L) (hd:Qo base w q n s wv d) {b:Nat} (hb:Yg g sv lv b):¬Go.Proofs.YtfdmbomlkpkegaaGreat.foot q n s wv b:=fun hf=>by
 obtain ⟨_,cs,t,hz,ht⟩:=h.kind hb
 rcases hf with rfl | rfl | rfl | hf
 ·rw [hd.blk] at hz;simp at hz;obtain ⟨_,rfl⟩:=hz;rcases ht with ht | ht | ht <;> simp at ht
 ·obtain ⟨_,_,hz'⟩:=hd.now.kind;rw [hz] at hz';cases hz'
 ·obtain ⟨_,_,hz'⟩:=hd.safe.kind;rw [hz] at hz';cases hz'
 ·obtain ⟨_,cur,hz'⟩:=hd.wait.kind b hf
  rw [hz] at hz';simp at hz';obtain ⟨_,rfl⟩:=hz';rcases ht with ht | ht | ht <;> simp at ht
theorem Zd.byD (h:Zd base w g p sv lv L) (hd:Qo base w q n s wv d) (k:Keep (Go.Proofs.YtfdmbomlkpkegaaGreat.foot q n s wv) w w'):Zd base w' g p sv lv L :=
 h.keep hd.foot_ok k (fun _ hb=>h.apart hd hb)
theorem Qo.byL (hd:Qo base w q n s wv d) (h:Zd base w g p sv lv L) (k:Keep (Yg g sv lv) w w'):Qo base w' q n s wv d :=
 hd.keep h.foot k (fun _ hb hl=>h.apart hd hl hb)
end
end Go.Proofs.YtfdmbomlkpkegaaGreat
namespace Go.Proofs.YtfdmbomlkpkegaaGreat
open Go Go.RowKit Go.Dr
theorem lNext_spec [bn:Inhabited Ban] {base:Nat} {w:World} {g p:Nat} {sv lv:Value} {L:LogS} (h:Zd base w g p sv lv L) :
  Calls Tryz.prog 105 #[.pointer (some ⟨g,0,none⟩)] w fun e w'=>e=.returned (.int .u64 L.next)/\w'=w:=by
 have c4:=Qq h.blk 4
 simp at c4
 go_enter Tryz.func105,Tryz.ntmps105
 go_wp2
 go_ret
 exact ⟨rfl,rfl⟩
theorem lFirst_spec [bn:Inhabited Ban] {base:Nat} {w:World} {g p:Nat} {sv lv:Value} {L:LogS} (h:Zd base w g p sv lv L) (hn:L.next<=9223372036854775807) (hr:L.recs.length<=L.next) :
  Calls Tryz.prog 104 #[.pointer (some ⟨g,0,none⟩)] w fun e w'=>e=.returned (.int .u64 (L.next-L.recs.length:Nat))/\Keep No w w':=by
 obtain ⟨ao,cap,rfl,hlc,hcm⟩:=h.recs.form
 have c3:=Qq h.blk 3
 have c4:=Qq h.blk 4
 simp at c3 c4
 have hw1:IntKind.u64.wrap ((L.recs.length:Nat):Int)=(L.recs.length:Int):=wraps_u64 _ (by omega) (by omega)
 have hw2:IntKind.u64.wrap ((L.next:Int) - (L.recs.length:Int))=((L.next-L.recs.length:Nat):Int):=by
  rw [wraps_u64 _ (by omega) (by omega)]
  omega
 have hli:(L.recs.length:Int)<=9223372036854775807:=by omega
 clear hlc hcm hr
 go_enter Tryz.func104,Tryz.ntmps104
 go_wp2_with fail
 refine Ql (fun w'=>Keep No w w') [0,1,2,3,4,5,6,7,8,9] [10] [11] (by kernel_rfl) (by kernel_rfl) (fun _ _ _ _ _ h=>h) (Keep.refl _ _).drew ?_
 iterate 10 (refine Qk (v:=?_) rfl rfl rfl ?_ ?_;rotate_left;focus (
  intro w' hq
  have c3':=hq.cell c3 (fun e=>e)
  have c4':=hq.cell c4 (fun e=>e)
  go_simp
  try with_reducible rfl))
 refine Qj ?_
 refine Qx rfl rfl (fun K hK=>?_)
 go_simp
 refine hK _ _ (Keep.refl _ _).drew ?_
 refine Qh (Qu rfl (Qm ?_))
 go_wp2
 go_ret
 exact ⟨rfl,(Keep.refl _ _).drew⟩
theorem lSync_spec [bn:Inhabited Ban] {base:Nat} {w:World} {g p n s:Nat} {sv lv wv:Value} {L:LogS} {d:Qr} (h:Zd base w g p sv lv L) (hd:Qo base w p n s wv d) (hb:base<=w.heap.size) :
  Calls Tryz.prog 62 #[.pointer (some ⟨g,0,none⟩)] w (Vh base w p (foot p n s wv) d.sync (.int .i64 0)):=by
 have c0:=Qq h.blk 0
 simp at c0
 have hs:=sync_spec hd hb
 go_enter Tryz.func62,Tryz.ntmps62
 go_wp2_with (go_at_call 114;refine hs.mono ?_;rintro e w1 ⟨rfl,hpost⟩)
 go_ret
 exact ⟨rfl,hpost⟩
def Ke (L:LogS):Nat:=match L.segs.getLast? with | none=>0 | some s=>s.size
def Jk (L:LogS) (size:Int):Bool:=match L.segs.getLast? with | none=>true | some s=>!s.headed || (!s.whole || decide (L.size<=size))
theorem Un {l:List SegV} (h:l≠[]):∃ (k:Nat) (s:SegV),l.length=k+1/\l[k]?=some s/\l.getLast?=some s:=by
 rcases List.eq_nil_or_concat l with rfl | ⟨i,s,rfl⟩
 ·exact absurd rfl h
 ·exact ⟨i.length,s,by simp,by simp,by simp⟩
theorem llast_spec [bn:Inhabited Ban] {base:Nat} {w:World} {g p:Nat} {sv lv:Value} {L:LogS} (h:Zd base w g p sv lv L) :
  Calls Tryz.prog 165 #[.pointer (some ⟨g,0,none⟩)] w fun e w'=>e=.returned (.int .i64 (Ke L))/\Keep No w w':=by
 obtain ⟨ao,cap,rfl,hlc,hcm⟩:=h.segs.form
 have c2:=Qq h.blk 2
 simp at c2
 by_cases hne:L.segs=[]
 ·have h0:L.segs.length=0:=by rw [hne];rfl
  have e:Ke L=0:=by unfold Ke;rw [hne];rfl
  rw [e]
  clear hne e
  go_enter Tryz.func165,Tryz.ntmps165
  go_wp2
  go_ret
  exact ⟨rfl,Keep.refl _ _⟩
 ·obtain ⟨k,s,hk,hks,hl⟩:=Un hne
  have e:Ke L=s.size:=by unfold Ke;rw [hl]
  rw [e]
  obtain ⟨r,rfl,_,_,_,s3,_,_⟩:=h.segs.cell hks
  unfold maxLen at hcm
  generalize L.segs.length=m at *
  have hki:(m:Int)=(k:Int)+1:=by omega
  have hkm:(m:Int)<=9223372036854775807:=by omega
  have hne0:¬((m:Int)=0):=by omega
  have hw:IntKind.i64.wrap ((m:Int) - 1)=(k:Int):=by rw [hki];rw [show ((k:Int)+1 - 1)=(k:Int) by omega];exact IntWalk.i64_in _ (by omega)
  have hlt:(k:Int)<(m:Int):=by omega
  clear hne e hl hks hk hlc hcm hki
  go_enter Tryz.func165,Tryz.ntmps165
  go_wp2_with fail
  refine Ql (fun w'=>Keep No w w') [0,1,2,3,4,5,6,7,8] [9,10,11,12] [13] (by kernel_rfl) (by kernel_rfl) (fun _ _ _ _ _ h=>h) (Keep.refl _ _).drew ?_
  have kd:Keep No w w.drew:=(Keep.refl _ _).drew
  iterate 9 (refine Qk (v:=?_) rfl rfl rfl ?_ ?_;rotate_left;focus (
   intro w' hq
   have c2':=hq.cell c2 (fun e=>e)
   go_simp
   try with_reducible rfl))
  refine Qj ?_
  refine Qx rfl rfl (fun K hK=>?_)
  go_simp
  refine hK _ _ kd ?_
  clear hK K
  iterate 3 (refine Qx rfl rfl (fun K hK=>?_);have s3':=kd.cell s3 (fun e=>e);go_simp;refine hK _ _ kd ?_;clear hK K)
  refine Qh (Qu rfl (Qm ?_))
  go_wp2
  go_ret
  exact ⟨rfl,kd⟩
theorem lfresh_spec [bn:Inhabited Ban] {base:Nat} {w:World} {g p:Nat} {sv lv:Value} {L:LogS} (h:Zd base w g p sv lv L) (z:Int) :
  Calls Tryz.prog 164 #[.pointer (some ⟨g,0,none⟩),.int .i64 z] w fun e w'=>e=.returned (.bool (Jk L z))/\w'=w:=by
 obtain ⟨ao,cap,rfl,hlc,hcm⟩:=h.segs.form
 have c1:=Qq h.blk 1
 have c2:=Qq h.blk 2
 simp at c1 c2
 by_cases hne:L.segs=[]
 ·have h0:L.segs.length=0:=by rw [hne];rfl
  have e:Jk L z=true:=by unfold Jk;rw [hne];rfl
  rw [e]
  clear hne e
  go_enter Tryz.func164,Tryz.ntmps164
  go_wp2
  go_ret
  exact ⟨rfl,rfl⟩
 ·obtain ⟨k,s,hk,hks,hl⟩:=Un hne
  have e:Jk L z=(!s.headed || (!s.whole || decide (L.size<=z))):=by unfold Jk;rw [hl]
  rw [e]
  obtain ⟨r,rfl,_,_,_,_,s4,s5⟩:=h.segs.cell hks
  unfold maxLen at hcm
  generalize L.segs.length=m at *
  have hki:(m:Int)=(k:Int)+1:=by omega
  have hkm:(m:Int)<=9223372036854775807:=by omega
  have hne0:¬((m:Int)=0):=by omega
  have hw:IntKind.i64.wrap ((m:Int) - 1)=(k:Int):=by rw [hki];rw [show ((k:Int)+1 - 1)=(k:Int) by omega];exact IntWalk.i64_in _ (by omega)
  have hlt:(k:Int)<(m:Int):=by omega
  have hm1:(m:Int) - 1=(k:Int):=by omega
  clear hne e hl hks hk hlc hcm hki
  generalize s.headed=hd at *
  generalize s.whole=wh at *
  cases hd with
  | false =>
   go_enter Tryz.func164,Tryz.ntmps164
   go_wp2
   go_ret
   exact ⟨rfl,rfl⟩
  | true =>
   cases wh with
   | false =>
    go_enter Tryz.func164,Tryz.ntmps164
    go_wp2
    go_ret
    exact ⟨rfl,rfl⟩
   | true =>
    by_cases hz:L.size<=z
    ·rw [decide_eq_true hz]
     go_enter Tryz.func164,Tryz.ntmps164
     go_wp2
     go_ret
     exact ⟨rfl,rfl⟩
    ·have hz2:decide (L.size<=z)=false:=decide_eq_false hz
     rw [hz2]
     have HZ:=Lib.hid hz2
     clear hz hz2
     go_enter Tryz.func164,Tryz.ntmps164
     go_wp2
     go_ret
     refine ⟨?_,rfl⟩
     have hm0:((m:Int)==0)=false:=by simpa using hne0
     simp [HZ.out,hm0]
theorem lGet_in [bn:Inhabited Ban] {base:Nat} {w:World} {g p:Nat} {sv lv:Value} {L:LogS} (h:Zd base w g p sv lv L) (hn:L.next<=9223372036854775807) (hr:L.recs.length<=L.next) {i:Nat} {b:Qs} (hi:L.recs[i]?=some b) (hb:b.length<=35184372088832) :
  Calls Tryz.prog 106 #[.pointer (some ⟨g,0,none⟩),.int .u64 (L.next-L.recs.length+i:Nat)] w fun e w'=>∃ v',e=.returned (.tuple #[v',.int .i64 0])/\OwnB w' w.heap.size v' b/\Keep No w w':=by
 obtain ⟨ao,cap,rfl,hlc,hcm⟩:=h.recs.form
 have c3:=Qq h.blk 3
 have c4:=Qq h.blk 4
 simp at c3 c4
 obtain ⟨r,off,u,rfl,hc,hu⟩:=h.recs.cell hi
 have hil:=(List.getElem?_eq_some_iff.1 hi).1
 have hf:=fun (w':World) (k:Keep No w w')=>lFirst_spec (h.no k) hn hr
 have hcl:=fun (w':World) (k:Keep No w w')=>Ju (hu.no k) hb
 obtain ⟨f,hfe⟩:∃ f,L.next-L.recs.length=f:=⟨_,rfl⟩
 rw [hfe] at hf ⊢
 generalize L.recs.length=m at *
 generalize L.next=x at *
 obtain ⟨n,hne⟩:∃ n,f+i=n:=⟨_,rfl⟩
 rw [hne]
 have h1:¬((n:Int)<(f:Int)):=by omega
 have h2:¬((x:Int)<=(n:Int)):=by omega
 have h3:(i:Int)<(m:Int):=by omega
 have hw:IntKind.u64.wrap ((n:Int) - (f:Int))=(i:Int):=by rw [wraps_u64 _ (by omega) (by omega)];omega
 have HF:=Lib.hid hf
 have HC:=Lib.hid hcl
 clear hf hcl hlc hcm hn hr hi hil hfe hne hu h
 go_enter Tryz.func106,Tryz.ntmps106
 go_wp2_with (go_at_call 104;refine (HF.out _ (Keep.refl _ _)).mono ?_;rintro e w1 ⟨rfl,k1⟩;have c3':=k1.cell c3 (fun e=>e);have c4':=k1.cell c4 (fun e=>e))
 refine Ql (fun w'=>Keep No w1 w') [0,1,2,3,4,5] [6,7,8,9,10] [11,12] (by kernel_rfl) (by kernel_rfl) (fun _ _ _ _ _ h=>h) (Keep.refl _ _).drew ?_
 have kd:Keep No w1 w1.drew:=(Keep.refl _ _).drew
 iterate 6 (refine Qk (v:=?_) rfl rfl rfl ?_ ?_;rotate_left;focus (
  intro w' hq
  have c3'':=hq.cell c3' (fun e=>e)
  go_simp
  try with_reducible rfl))
 refine Qj ?_
 refine Qx rfl rfl (fun K hK=>?_)
 go_simp
 refine (HF.out _ (k1.then kd)).mono ?_
 rintro e w2 ⟨rfl,k2⟩
 have kd:=kd.then k2
 refine hK _ _ kd ?_
 clear hK K
 have hc2:=(k1.then kd).cell hc (fun e=>e)
 iterate 3 (refine Qx rfl rfl (fun K hK=>?_);go_simp;refine hK _ _ kd ?_;clear hK K)
 refine Qx rfl rfl (fun K hK=>?_)
 go_simp
 refine (HC.out _ (k1.then kd)).mono ?_
 rintro e w3 ⟨v3,rfl,own3,k3⟩
 refine hK _ _ (kd.then k3) ?_
 clear hK K
 refine Qh (Qu rfl (Qu rfl (Qm ?_)))
 go_wp2
 go_ret2
 exact ⟨_,rfl,own3.mono (k1.then kd).size,(k1.then kd).then k3⟩
theorem Addr.add_add (a:Addr) (m n:Nat):(a.add m).add n=a.add (m+n):=by
 unfold Addr.add
 by_cases hm:m=0
 ·subst hm;simp
 ·by_cases hn:n=0
  ·subst hn;simp [hm]
  ·simp [hm,hn,Nat.add_assoc]
theorem bytes_sub [bn:Inhabited Ban] {base:Nat} {w:World} {ao:Option Addr} {n cap lo hi:Nat} {l:Qs} (h:Qv base w (.slice ao n cap) l) (h1:lo<=hi) (h2:hi<=n) :
  Qv base w (sliced ao lo hi cap 1) ((l.take hi).drop lo):=by
 obtain ⟨ao',cap',hq,h3,h4,h5,h6⟩:=h
 simp only [Value.slice.injEq] at hq
 obtain ⟨rfl,rfl,rfl⟩:=hq
 have hl:((l.take hi).drop lo).length=hi-lo:=by simp;omega
 unfold sliced
 by_cases hc:cap=lo
 ·rw [if_pos hc]
  refine ⟨ao,cap-lo,by rw [hl],by omega,by omega,fun _=>by omega,fun i x hx=>?_⟩
  have:=(List.getElem?_eq_some_iff.1 hx).1
  omega
 ·rw [if_neg hc]
  cases ao with
  | none=>exact absurd (h5 rfl) (by omega)
  | some ad =>
   refine ⟨some (ad.add (lo*1)),cap-lo,by rw [hl];rfl,by omega,by omega,fun h=>(by cases h),fun i x hx=>?_⟩
   have hlt:=(List.getElem?_eq_some_iff.1 hx).1
   rw [List.getElem?_drop,List.getElem?_take,if_pos (by omega)] at hx
   obtain ⟨ad',e,hb,hcl⟩:=h6 (lo+i) x hx
   obtain rfl:ad=ad':=by simpa using e
   refine ⟨_,rfl,by rw [Addr.block_add];exact hb,?_⟩
   rw [Addr.add_add,Nat.mul_one]
   exact hcl
theorem elem_bytes:Tryz.prog.underlying 59=some (.slice (Tryz.prog.elem 59)):=by kernel_rfl
theorem size_bytes (w:World):(sizeOf (Tryz.prog.elem 59)).run Tryz.prog w=.ok 1 w:=by kernel_rfl
theorem Ub [bn:Inhabited Ban] (ao:Option Addr) (n cap lo hi:Nat) (L H:Int) (hL:L=lo) (hH:H=hi) (h1:lo<=hi) (h2:hi<=n) (h3:n<=cap) :
  ∃ o c,(∀ w,(Instr.slice 59 (.slice ao n cap) (some (.int .i64 L)) (some (.int .i64 H)) none).run Tryz.prog w=.ok (.slice o (hi-lo) c) w) /\
   ∀ base w l,Qv base w (.slice ao n cap) l->Qv base w (.slice o (hi-lo) c) ((l.take hi).drop lo):=by
 refine ⟨_,_,fun w=>?_,fun base w l h=>bytes_sub h h1 h2⟩
 subst hL hH
 rw [run_slice_lh w 59 ao n cap elem_bytes .i64 .i64 _ _ (by omega) (by omega) (by omega),Int.toNat_natCast,Int.toNat_natCast,size_bytes]
 rfl
theorem Rg [bn:Inhabited Ban] (ao:Option Addr) (n cap lo:Nat) (L:Int) (hL:L=lo) (h1:lo<=n) (_h3:n<=cap) :
  ∃ o c,(∀ w,(Instr.slice 59 (.slice ao n cap) (some (.int .i64 L)) none none).run Tryz.prog w=.ok (.slice o (n-lo) c) w) /\
   ∀ base w l,Qv base w (.slice ao n cap) l->Qv base w (.slice o (n-lo) c) ((l.take n).drop lo):=by
 refine ⟨_,_,fun w=>?_,fun base w l h=>bytes_sub h h1 (Nat.le_refl _)⟩
 subst hL
 rw [run_slice_l w 59 ao n cap elem_bytes .i64 _ (by omega) (by omega),Int.toNat_natCast,size_bytes]
 rfl
theorem info_bytes:(Tryz.prog.info? 59).map (fun i=>(i.zero,i.size,i.bytes))=some (some (.slice none 0 0),1,24):=by kernel_rfl
theorem info_lseg:(Tryz.prog.info? 265).map (fun i=>(i.zero,i.size,i.bytes))=some (some (.agg #[.int .u64 0,.int .u64 0,.int .u64 0,.int .i64 0,.bool false,.bool false]),6,40):=by kernel_rfl
theorem Jr {w w':World} {v:Value} (h:w.grownBy w' v.ownBlock):Keep (fun b=>v.ownBlock=some b) w w':=(Keep.refl _ _).grown h (fun _ e=>.inl e)
theorem Zp.foot [bn:Inhabited Ban] {base:Nat} {w:World} {v:Value} {l:List Qs} (h:Zp base w v l):Foot base w (fun b=>v.ownBlock=some b):=by
 intro b hb
 obtain ⟨us,_,_,hr⟩:=h
 obtain ⟨h1,cur,hz⟩:=Qa hr b hb
 exact ⟨h1,Qt hz,fun cs fr e=>by rw [hz] at e;simp at e⟩
theorem wp_append_rec [bn:Inhabited Ban] {base:Nat} {w:World} {o:Oper} {a:Act} {K:Act->World->Prop} {Q:Exit->Act->World->Prop} (s x:Operand)
  (ho:o.op=.call { callee:=.builtin .append,args:=#[s,x],argTypes:=#[128,128] }) {v:Value} {rs:List Qs} (h:Zp base w v rs) (hs:a.eval s=v) {B:Nat} {u:Value} (hB:w.heap[B]?=some (.cells #[u] 59 (0,0)))
  (hx:a.eval x=.slice (some ⟨B,0,none⟩) 1 1) {b:Qs} (hu:Qv base w u b) (hl:rs.length<=1099511627776) (hb:base<=w.heap.size)
  (hK:∀ v' w',Zp base w' v' (rs++[b])->Keep (fun b=>v.ownBlock=some b) w w'->(∀ b,v'.ownBlock=some b->v.ownBlock=some b\/w.heap.size<=b)->K (a.put o.dst v') w'):o.wp Tryz.prog a w K Q:=by
 have hF:=h.foot
 obtain ⟨us,h1,h2,h3⟩:=h
 obtain ⟨i0,hi0,hz0,hz1,hz2⟩:=info_parts info_bytes
 obtain ⟨uo,uc,rfl⟩:=hu.form
 refine wp_append_lies w s x 128 ho base 59 i0 _ 1 24 Tryz.underlying128 hi0 hz0 hz1 hz2 rfl (by omega) v rs.length us hs h3
  ⟨B,0,none⟩ 1 1 [.slice uo b.length uc] hx rfl (World.news_of_block (cs:=#[.slice uo b.length uc]) (t:=59) (fr:=(0,0)) hB) (by simp [Value.oneCell']) (by omega) (by unfold maxLen;omega) (by omega) hb w.heap.size rfl ?_
 intro g cap w' hown hg hat hlt
 have k:=Jr hg
 refine hK _ _ ⟨us++[.slice uo b.length uc],by simp [h1],fun i u' b' e1 e2=>?_,by simpa using hown⟩ k (fun c hc=>?_)
 ·by_cases hi:i<us.length
  ·rw [List.getElem?_append_left hi] at e1
   rw [List.getElem?_append_left (by omega)] at e2
   exact (h2 i u' b' e1 e2).keep hF k
  ·rw [List.getElem?_append_right (by omega)] at e1
   rw [List.getElem?_append_right (by omega)] at e2
   have e1':=List.getElem?_eq_some_iff.1 e1
   obtain ⟨hi1,e1⟩:=e1'
   have hi0:i-us.length=0:=by simp at hi1;omega
   have hi2:i-rs.length=0:=by omega
   rw [hi2] at e2
   simp at e2
   simp only [hi0] at e1
   simp at e1
   subst e1 e2
   exact hu.keep hF k
 ·simp [Value.ownBlock] at hc
  subst hc
  rcases hat with hat | rfl
  ·exact .inl hat
  ·exact .inr (Nat.le_refl _)
theorem wp_append_tail [bn:Inhabited Ban] {base:Nat} {w:World} {o:Oper} {a:Act} {K:Act->World->Prop} {Q:Exit->Act->World->Prop} (s x:Operand)
  (ho:o.op=.call { callee:=.builtin .append,args:=#[s,x],argTypes:=#[128,128] }) {v:Value} {rs:List Qs} (h:Vi base w v rs) (hs:a.eval s=v) {B:Nat} {u:Value} (hB:w.heap[B]?=some (.cells #[u] 59 (0,0)))
  (hx:a.eval x=.slice (some ⟨B,0,none⟩) 1 1) {b:Qs} (hu:Qv base w u b) (hl:rs.length<=1099511627776) (hb:base<=w.heap.size)
  (hK:∀ v' w',Vi base w' v' (rs++[b])->Keep (fun b=>v.ownBlock=some b) w w'->(∀ b,v'.ownBlock=some b->v.ownBlock=some b\/w.heap.size<=b)->K (a.put o.dst v') w'):o.wp Tryz.prog a w K Q:=by
 have hF:=h.foot
 obtain ⟨us,h1,h2,h3⟩:=h
 have h30:=h3
 rcases h3.2 with ⟨rfl,h0⟩ | ⟨g,off,cap,cur,rfl,_⟩
 ·obtain rfl:rs=[]:=List.eq_nil_of_length_eq_zero h0
  exact wp_append_rec s x ho (rs:=[]) ⟨[],rfl,fun i u b h=>by simp at h,World.ownsRow_nil _ _ _ _⟩ hs hB hx hu hl hb (fun v' w' a1 a2 a3=>hK v' w' (Vi.of a1) a2 a3)
 ·obtain ⟨i0,hi0,hz0,hz1,hz2⟩:=info_parts info_bytes
  obtain ⟨uo,uc,rfl⟩:=hu.form
  obtain ⟨v',w',hr,hown,hg,hat⟩:=run_append_tail (P:=Tryz.prog) w base 128 o.type 59 i0 _ 24 Tryz.underlying128 hi0 hz0 hz1 hz2 rfl _ rs.length us h30
   ⟨B,0,none⟩ 1 1 [.slice uo b.length uc] rfl (World.news_of_block (cs:=#[.slice uo b.length uc]) (t:=59) (fr:=(0,0)) hB) (by simp [Value.oneCell']) (by unfold maxLen;omega) (by omega) hb ⟨_,_,_,rfl⟩
  have k:=Jr hg
  unfold Oper.wp execOp
  simp only [ho,resolve,invoke,builtin,Sem.run_bind,Sem.run_pure,Result.andThen_ok,List.map_toArray,List.map_cons,List.map_nil,hs,hx,hr]
  refine hK _ _ ⟨us++[.slice uo b.length uc],by simp [h1],fun i u' b' e1 e2=>?_,by simpa using hown⟩ k (fun c hc=>?_)
  ·by_cases hi:i<us.length
   ·rw [List.getElem?_append_left hi] at e1
    rw [List.getElem?_append_left (by omega)] at e2
    exact (h2 i u' b' e1 e2).keep hF k
   ·rw [List.getElem?_append_right (by omega)] at e1
    rw [List.getElem?_append_right (by omega)] at e2
    have e1':=List.getElem?_eq_some_iff.1 e1
    obtain ⟨hi1,e1⟩:=e1'
    have hi0:i-us.length=0:=by simp at hi1;omega
    have hi2:i-rs.length=0:=by omega
    rw [hi2] at e2
    simp at e2
    simp only [hi0] at e1
    simp at e1
    subst e1 e2
    exact hu.keep hF k
  ·rcases hat with hat | hat
   ·exact .inl (by rw [<- hat];exact hc)
   ·rw [hat] at hc
    cases hc
    exact .inr (Nat.le_refl _)
theorem wp_append_lseg {base:Nat} {w:World} {o:Oper} {a:Act} {K:Act->World->Prop} {Q:Exit->Act->World->Prop} (s x:Operand)
  (ho:o.op=.call { callee:=.builtin .append,args:=#[s,x],argTypes:=#[127,127] }) {v:Value} {l:List SegV} (h:Jn base w v l) (hs:a.eval s=v) {B:Nat} {c:SegV} (hB:w.heap[B]?=some (.cells (Yy c).toArray 265 (0,0)))
  (hx:a.eval x=.slice (some ⟨B,0,none⟩) 1 1) (hl:l.length<=1099511627776) (hb:base<=w.heap.size)
  (hK:∀ v' w',Jn base w' v' (l++[c])->Keep (fun b=>v.ownBlock=some b) w w'->(∀ b,v'.ownBlock=some b->v.ownBlock=some b\/w.heap.size<=b)->K (a.put o.dst v') w'):o.wp Tryz.prog a w K Q:=by
 obtain ⟨i0,hi0,hz0,hz1,hz2⟩:=info_parts info_lseg
 refine wp_append_lies w s x 127 ho base 265 i0 _ 6 40 Tryz.underlying127 hi0 hz0 hz1 hz2 rfl (by omega) v l.length (Yf l) hs h
  ⟨B,0,none⟩ 1 1 (Yy c) hx rfl (World.news_of_block (cs:=(Yy c).toArray) (t:=265) (fr:=(0,0)) hB) (by simp [Yy,Value.oneCell']) (by omega) (by unfold maxLen;omega) (by omega) hb w.heap.size rfl ?_
 intro g cap w' hown hg hat hlt
 refine hK _ _ ?_ (Jr hg) (fun b hc=>?_)
 ·unfold Jn
  rw [lsegCells_append]
  simpa using hown
 ·simp [Value.ownBlock] at hc
  subst hc
  rcases hat with hat | rfl
  ·exact .inl hat
  ·exact .inr (Nat.le_refl _)
section
variable [bn:Inhabited Ban] {base:Nat} {w:World} {g:Nat} {sv lv:Value} {sg:List SegV} {rs:List Qs}
theorem Ut {cs cs':Array Value} (hb:w.heap[g]?=some (.cells cs 130 (0,0))) (gb:base<=g) (hs:Jn base w sv sg) (hr:Vi base w lv rs) (i:Nat) (u:Value) (hc:cs.setIfInBounds i u=cs') :
  (w.setCell ⟨g,i,none⟩ u).heap[g]?=some (.cells cs' 130 (0,0))/\Jn base (w.setCell ⟨g,i,none⟩ u) sv sg/\Vi base (w.setCell ⟨g,i,none⟩ u) lv rs/\Keep (·=g) w (w.setCell ⟨g,i,none⟩ u):=by
 have hF:Foot base w (·=g):=by
  rintro b rfl
  exact ⟨gb,Qt hb,fun cs fr e=>by rw [hb] at e;simp at e⟩
 have hk:Keep (·=g) w (w.setCell ⟨g,i,none⟩ u):=Keep.setCell (F:=(·=g)) (Keep.refl _ _) (p:=⟨g,i,none⟩) (.inl rfl) _
 refine ⟨by rw [Qz hb,hc],Yu hs hk (fun b e1 e2=>?_),hr.keep hF hk (fun b e1 e2=>?_),hk⟩
 ·obtain ⟨_,cur,hz⟩:=Qa hs b e1
  rw [e2,hb] at hz;simp at hz
 ·obtain ⟨us,_,_,hrr⟩:=hr
  obtain ⟨_,cur,hz⟩:=Vf hrr b e1
  rw [e2,hb] at hz;simp at hz
end
end Go.Proofs.YtfdmbomlkpkegaaGreat
