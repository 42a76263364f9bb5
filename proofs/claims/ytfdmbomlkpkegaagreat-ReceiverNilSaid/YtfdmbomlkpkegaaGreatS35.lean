/- Lemmas for ReceiverNil. -/
import Derived.Test.YtfdmbomlkpkegaaGreatS34
import Derived.Test.YtfdmbomlkpkegaaGreatS15
set_option maxRecDepth 100000
set_option maxHeartbeats 8000000
set_option linter.all false
namespace Go.Proofs.YtfdmbomlkpkegaaGreat
open Go Go.RowKit Go.Dr Go.Shelf
def valB:List UInt8->Nat
 | []=>0
 | b :: l=>b.toNat % 128+128*valB l
structure NumIs (n:Nat) (l:List UInt8):Prop where
 pos:1<=l.length
 val:valB l=n
 mid:∀ (i:Nat) b,i+1<l.length->l[i]?=some b->128<=b.toNat
 low:∀ b,l[l.length - 1]?=some b->b.toNat<128
 nz:∀ b,0<n->l[l.length - 1]?=some b->b.toNat≠0
theorem numB_is (n:Nat):NumIs n (numB n):=by
 induction n using Nat.strongRecOn with
 | ind n ih =>
  by_cases hc:n<128
  ·rw [Yb hc]
   refine ⟨by simp,by simp [valB];omega,fun i b hi=>by simp at hi,fun b hb=>?_,fun b hb hb2=>?_⟩
   ·simp at hb;rw [<- hb];simp;omega
   ·simp at hb2;rw [<- hb2];simp;omega
  ·have h:=ih (n / 128) (by omega)
   rw [Rv (by omega)]
   generalize numB (n / 128)=l at h
   have hp:=h.pos
   have hb0:(UInt8.ofNat (n % 128+128)).toNat=n % 128+128:=Gl _ (by omega)
   have hlast:((UInt8.ofNat (n % 128+128)) :: l)[((UInt8.ofNat (n % 128+128)) :: l).length - 1]?=l[l.length - 1]?:=by
    rw [List.length_cons,Nat.add_sub_cancel]
    rw [List.getElem?_cons,if_neg (by omega)]
   refine ⟨by simp,?_,fun i b hi hb=>?_,fun b hb=>?_,fun b hn hb=>?_⟩
   ·show (UInt8.ofNat (n % 128+128)).toNat % 128+128*valB l=n
    rw [hb0,h.val]
    omega
   ·cases i with
    | zero=>rw [List.getElem?_cons_zero] at hb;cases hb;omega
    | succ i =>
     rw [List.getElem?_cons_succ] at hb
     rw [List.length_cons] at hi
     exact h.mid i b (by omega) hb
   ·rw [hlast] at hb;exact h.low b hb
   ·rw [hlast] at hb;exact h.nz b (by omega) hb
theorem valB_ge:∀ (l:List UInt8) (i:Nat) (b:UInt8),l[i]?=some b->(b.toNat % 128)*128 ^ i<=valB l
 | [],i,b,h=>by simp at h
 | c :: l,0,b,h=>by
  simp at h
  subst h
  show c.toNat % 128*1<=c.toNat % 128+128*valB l
  omega
 | c :: l,i+1,b,h=>by
  rw [List.getElem?_cons_succ] at h
  have ih:=valB_ge l i b h
  show _<=c.toNat % 128+128*valB l
  rw [Nat.pow_succ,<- Nat.mul_assoc]
  omega
theorem valB_drop:∀ (l:List UInt8) (i:Nat) (b:UInt8),l[i]?=some b->valB (l.drop i)=b.toNat % 128+128*valB (l.drop (i+1))
 | [],i,b,h=>by simp at h
 | c :: l,0,b,h=>by
  simp at h
  subst h
  rfl
 | c :: l,i+1,b,h=>by
  rw [List.getElem?_cons_succ] at h
  exact valB_drop l i b h
theorem numB_top {n:Nat} (hn:n<18446744073709551616) {b:UInt8} (hl:(numB n).length=10) (hb:(numB n)[9]?=some b):b.toNat<=1:=by
 have h:=numB_is n
 have h1:=valB_ge _ _ _ hb
 have h2:=h.low b (by rw [hl];exact hb)
 rw [h.val,Nat.mod_eq_of_lt h2] at h1
 have:(128:Nat) ^ 9=9223372036854775808:=by decide
 rw [this] at h1
 omega
theorem valB_drop_le:∀ (l:List UInt8) (i:Nat),valB (l.drop i)<=valB l
 | [],i=>by simp [valB]
 | c :: l,0=>Nat.le_refl _
 | c :: l,i+1=>by
  have ih:=valB_drop_le l i
  show valB (l.drop i)<=c.toNat % 128+128*valB l
  omega
theorem r2Read_spec [bn:Inhabited Ban] {base:Nat} {w:World} {pv:Value} {p rest:List UInt8} {at_ n:Nat} (hp:Qv base w pv p) (hat:at_<=p.length) (hd:p.drop at_=numB n++rest) (hn:n<18446744073709551616) (hpl:p.length<=1099511627776) :
  Calls Tryz.prog 208 #[pv,.int .i64 at_] w fun e w'=>e=.returned (.tuple #[.int .u64 n,.int .i64 (numB n).length,.int .i64 0])/\w'=w:=by
 obtain ⟨ao,cap,rfl⟩:=hp.form
 have hl10:=Qp hn
 have htop:=fun b=>numB_top (b:=b) hn
 have hI:=numB_is n
 have hlen:(numB n).length+at_<=p.length:=by
  have:=congrArg List.length hd
  rw [List.length_drop,List.length_append] at this
  omega
 have hget:∀ (i:Nat) b,(numB n)[i]?=some b->p[at_+i]?=some b:=fun i b hb=>by
  have h0:=(List.getElem?_eq_some_iff.1 hb).1
  rw [<- List.getElem?_drop,hd,List.getElem?_append_left h0,hb]
 have hone:1<(numB n).length->0<n:=fun h=>by
  rcases Nat.eq_zero_or_pos n with e | e
  ·rw [e,Yb (by decide)] at h;simp at h
  ·exact e
 generalize numB n=l at *
 obtain ⟨L,hL⟩:∃ L,L=l.length:=⟨_,rfl⟩
 rw [<- hL] at hl10 hlen ⊢
 have hpos:1<=L:=by rw [hL];exact hI.pos
 obtain ⟨ad,hao,hcell⟩:∃ ad,ao=some ad/\∀ (i:Nat) b,l[i]?=some b->w.cell? (ad.add (at_+i))=some (.int .u8 b.toNat):=by
  obtain ⟨_,_,hq,_,_,_,hc⟩:=hp
  simp only [Value.slice.injEq] at hq
  obtain ⟨rfl,_,rfl⟩:=hq
  obtain ⟨b0,hb0⟩:∃ b,l[0]?=some b:=⟨_,List.getElem?_eq_getElem (by omega)⟩
  obtain ⟨ad,e,_,_⟩:=hc _ _ (hget 0 b0 hb0)
  refine ⟨ad,e,fun i b hb=>?_⟩
  obtain ⟨ad',e',_,hc'⟩:=hc _ _ (hget i b hb)
  rw [e] at e'
  cases e'
  exact hc'
 subst hao
 have hpi:(p.length:Int)<=1099511627776:=by omega
 have hati:(at_:Int)<=1099511627776:=by omega
 have hw9:IntKind.i64.wrap ((at_:Int)+9)=(at_:Int)+9:=by rw [IntKind.wrap_i64];omega
 have HH:=Lib.hid (A9 hI hcell hL hl10 hlen hpos htop hn hone)
 have hpl':(at_:Int)<(p.length:Int):=by omega
 clear hp hd hget hI hcell hl10 htop hlen hpos hn hat hpl hL hone
 go_enter Tryz.func208,Tryz.ntmps208
 go_upto_block 0 with fail
 go_wp2_with fail
 go_loopw [7] (fun v7 wr=>∃ i:Nat,v7=.int .i64 ((at_+i:Nat):Int)/\i<L/\wr=w) (fun v7 _=>at_+L - (intOf v7).toNat)
 case atStart=>exact ⟨0,rfl,HH.out.2.2.2.2.2.1,rfl⟩
 case round =>
  obtain ⟨i,rfl,hi,hwr⟩:=hrel
  have hwr:=hwr.symm
  subst hwr
  obtain ⟨b,hb⟩:∃ b,l[i]?=some b:=⟨_,List.getElem?_eq_getElem (by rw [<- HH.out.2.2.1];exact hi)⟩
  have hc:=HH.out.2.1 i b hb
  have hb256:=b.toNat_lt
  have hlen:=HH.out.2.2.2.2.1
  have hl10:=HH.out.2.2.2.1
  have hLl:=HH.out.2.2.1
  have q1:((at_+i:Nat):Int)<(p.length:Int):=by omega
  by_cases hm:i+1<L
  ·have hmid:=HH.out.1.mid i b (by omega) hb
   have q2:((at_+i:Nat):Int)<(at_:Int)+9:=by omega
   have q3:(128:Int)<=(b.toNat:Int):=by omega
   have q4:IntKind.i64.wrap (((at_+i:Nat):Int)+1)=((at_+(i+1):Nat):Int):=by rw [IntKind.wrap_i64];omega
   have HR:=Lib.hid (A2 hm hi)
   clear hm hi hb hb256 hlen hl10 hLl hmid
   go_wp2_with fail
   go_roundw
   case rel=>exact ⟨i+1,rfl,HR.out.1,trivial⟩
   case measure=>have:=HR.out.1;simp [intOf];omega
  ·have hie:i+1=L:=by omega
   have hlow:=HH.out.1.low b (by rw [<- hLl,<- hie];exact hb)
   have hnz:=HH.out.1.nz b
   have hlast:l[l.length - 1]?=some b:=by rw [<- hLl,<- hie];exact hb
   have HB:=Lib.hid (A3 hb hie hlow)
   have hIv:=HH.out.1.val
   have hnz0:0<i->b.toNat≠0:=fun h=>HH.out.1.nz b (HH.out.2.2.2.2.2.2.2.2 (by omega)) hlast
   have htop9:i=9->b.toNat<=1:=fun h=>HH.out.2.2.2.2.2.2.1 b (by omega) (by rw [<- h];exact hb)
   have q4:IntKind.i64.wrap (((at_+i:Nat):Int) - (at_:Int))=(i:Int):=by rw [IntKind.wrap_i64];omega
   have q5:IntKind.i64.wrap ((i:Int)+1)=(L:Int):=by rw [IntKind.wrap_i64];omega
   have q6:¬(p.length:Int)<=((at_+i:Nat):Int):=by omega
   have hcase:(i=9)\/(0<i/\i<9)\/i=0:=by omega
   clear hm hi hb256 hlen hl10 hLl hnz hlast hb hie
   rcases hcase with h9 | ⟨h0,h9⟩ | h0
   ·subst h9
    have r1:True:=trivial
    have r2:True:=trivial
    have r3:¬(1:Int)<(b.toNat:Int):=by have:=htop9 rfl;omega
    have r4:(at_:Int)<(at_:Int)+9:=by omega
    have r5:((b.toNat:Int)==0)=false:=by have:=hnz0 (by omega);simp;omega
    have hc9:w.cell? { block:=ad.block,off:=ad.off+(at_+8+1) }=some (.int .u8 b.toNat):=by
     have hc:=hc
     rw [show at_+9=at_+8+1 by omega] at hc
     simpa [Addr.add] using hc
    clear hlow hnz0 htop9
    go_upto_block 2 with fail
    clear q1 q6 hc hc9 r1 r2 r3 r4 r5
    go_wp2_with fail
    go_loopw [8,9] (fun v8 v9 wr=>∃ j:Nat,v9=.int .i64 ((at_:Int)+(j:Int) - 1)/\v8=.int .u64 (valB (l.drop j))/\j<=L/\wr=w) (fun _ v9 _=>(intOf v9 - (at_:Int)+1).toNat)
    case atStart=>exact ⟨L,by congr 1;have:=HB.out.2.1;omega,by rw [HH.out.2.2.1,List.drop_length];rfl,Nat.le_refl _,rfl⟩
    case round =>
     obtain ⟨j,rfl,rfl,hj,hwr⟩:=hrel
     have hwr:=hwr.symm
     subst hwr
     by_cases hj0:1<=j
     ·obtain ⟨c,hc⟩:∃ c,l[j - 1]?=some c:=⟨_,List.getElem?_eq_getElem (by rw [<- HH.out.2.2.1];omega)⟩
      have hcc:=HH.out.2.1 (j - 1) c hc
      have hv:=valB_drop l (j - 1) c hc
      rw [show j - 1+1=j by omega] at hv
      have hle:=valB_drop_le l (j - 1)
      rw [HH.out.1.val] at hle
      have hnn:=HH.out.2.2.2.2.2.2.2.1
      have hlen:=HH.out.2.2.2.2.1
      have hc256:=c.toNat_lt
      obtain ⟨V,hV⟩:∃ V,V=valB (l.drop j):=⟨_,rfl⟩
      obtain ⟨U,hU⟩:∃ U,U=valB (l.drop (j - 1)):=⟨_,rfl⟩
      rw [<- hV,<- hU] at hv
      rw [<- hU] at hle
      rw [<- hV]
      obtain ⟨k,hk⟩:∃ k:Nat,k=at_+(j - 1):=⟨_,rfl⟩
      rw [<- hk] at hcc
      have hkv:(at_:Int)+(j:Int) - 1=(k:Int):=by omega
      have r1:(at_:Int)<=(k:Int):=by omega
      have r2:IntKind.u64.wrap (128*(V:Int))=128*(V:Int):=by rw [IntKind.wrap_u64];omega
      have r3:IntKind.u64.wrap (128*(V:Int)+(c.toNat:Int) % 128)=(U:Int):=by rw [IntKind.wrap_u64];omega
      have r4:IntKind.i64.wrap ((k:Int) - 1)=(at_:Int)+((j - 1:Nat):Int) - 1:=by rw [IntKind.wrap_i64];omega
      have r5:(k:Int)<(p.length:Int):=by omega
      rw [hkv]
      have HR:=Lib.hid (A4 hj hj0 hU hk)
      clear hj hj0 hU hk hkv hv hle hnn hlen hc hV q4 q5
      go_wp2_with fail
      go_roundw
      case rel=>exact ⟨j - 1,rfl,by rw [<- HR.out.2.2.1],by have:=HR.out.1;omega,trivial⟩
      case measure=>have:=HR.out.2.1;have:=HR.out.2.2.2;simp [intOf];omega
     ·obtain rfl:j=0:=by omega
      have r1:¬(at_:Int)<=(at_:Int)+((0:Nat):Int) - 1:=by omega
      rw [List.drop_zero,HH.out.1.val]
      clear hj hj0
      go_wp2_with fail
      refine bodyPost_ret (v:=.tuple #[.int .u64 n,.int .i64 L,.int .i64 0]) (by simp [results,Tryz.results208,go_sem];have:=HB.out.2.1;omega) rfl ?_
      exact ⟨rfl,rfl⟩
   ·have r1:(((at_+i:Nat):Int)==(at_:Int)+9)=false:=by simp;omega
    have r2:((at_+i:Nat):Int)<(at_:Int)+9:=by omega
    have r3:¬(128:Int)<=(b.toNat:Int):=by omega
    have r4:(at_:Int)<((at_+i:Nat):Int):=by omega
    have r5:((b.toNat:Int)==0)=false:=by have:=hnz0 (by omega);simp;omega
    clear hlow hnz0 htop9 h9 h0
    go_upto_block 2 with fail
    clear q1 q6 hc r1 r2 r3 r4 r5
    go_wp2_with fail
    go_loopw [8,9] (fun v8 v9 wr=>∃ j:Nat,v9=.int .i64 ((at_:Int)+(j:Int) - 1)/\v8=.int .u64 (valB (l.drop j))/\j<=L/\wr=w) (fun _ v9 _=>(intOf v9 - (at_:Int)+1).toNat)
    case atStart=>exact ⟨L,by congr 1;have:=HB.out.2.1;omega,by rw [HH.out.2.2.1,List.drop_length];rfl,Nat.le_refl _,rfl⟩
    case round =>
     obtain ⟨j,rfl,rfl,hj,hwr⟩:=hrel
     have hwr:=hwr.symm
     subst hwr
     by_cases hj0:1<=j
     ·obtain ⟨c,hc⟩:∃ c,l[j - 1]?=some c:=⟨_,List.getElem?_eq_getElem (by rw [<- HH.out.2.2.1];omega)⟩
      have hcc:=HH.out.2.1 (j - 1) c hc
      have hv:=valB_drop l (j - 1) c hc
      rw [show j - 1+1=j by omega] at hv
      have hle:=valB_drop_le l (j - 1)
      rw [HH.out.1.val] at hle
      have hnn:=HH.out.2.2.2.2.2.2.2.1
      have hlen:=HH.out.2.2.2.2.1
      have hc256:=c.toNat_lt
      obtain ⟨V,hV⟩:∃ V,V=valB (l.drop j):=⟨_,rfl⟩
      obtain ⟨U,hU⟩:∃ U,U=valB (l.drop (j - 1)):=⟨_,rfl⟩
      rw [<- hV,<- hU] at hv
      rw [<- hU] at hle
      rw [<- hV]
      obtain ⟨k,hk⟩:∃ k:Nat,k=at_+(j - 1):=⟨_,rfl⟩
      rw [<- hk] at hcc
      have hkv:(at_:Int)+(j:Int) - 1=(k:Int):=by omega
      have r1:(at_:Int)<=(k:Int):=by omega
      have r2:IntKind.u64.wrap (128*(V:Int))=128*(V:Int):=by rw [IntKind.wrap_u64];omega
      have r3:IntKind.u64.wrap (128*(V:Int)+(c.toNat:Int) % 128)=(U:Int):=by rw [IntKind.wrap_u64];omega
      have r4:IntKind.i64.wrap ((k:Int) - 1)=(at_:Int)+((j - 1:Nat):Int) - 1:=by rw [IntKind.wrap_i64];omega
      have r5:(k:Int)<(p.length:Int):=by omega
      rw [hkv]
      have HR:=Lib.hid (A4 hj hj0 hU hk)
      clear hj hj0 hU hk hkv hv hle hnn hlen hc hV q4 q5
      go_wp2_with fail
      go_roundw
      case rel=>exact ⟨j - 1,rfl,by rw [<- HR.out.2.2.1],by have:=HR.out.1;omega,trivial⟩
      case measure=>have:=HR.out.2.1;have:=HR.out.2.2.2;simp [intOf];omega
     ·obtain rfl:j=0:=by omega
      have r1:¬(at_:Int)<=(at_:Int)+((0:Nat):Int) - 1:=by omega
      rw [List.drop_zero,HH.out.1.val]
      clear hj hj0
      go_wp2_with fail
      refine bodyPost_ret (v:=.tuple #[.int .u64 n,.int .i64 L,.int .i64 0]) (by simp [results,Tryz.results208,go_sem];have:=HB.out.2.1;omega) rfl ?_
      exact ⟨rfl,rfl⟩
   ·have r1:(((at_+i:Nat):Int)==(at_:Int)+9)=false:=by simp;omega
    have r2:((at_+i:Nat):Int)<(at_:Int)+9:=by omega
    have r3:¬(128:Int)<=(b.toNat:Int):=by omega
    have r4:¬(at_:Int)<((at_+i:Nat):Int):=by omega
    clear hlow hnz0 htop9 h0
    go_upto_block 2 with fail
    clear q1 q6 hc r1 r2 r3 r4
    go_wp2_with fail
    go_loopw [8,9] (fun v8 v9 wr=>∃ j:Nat,v9=.int .i64 ((at_:Int)+(j:Int) - 1)/\v8=.int .u64 (valB (l.drop j))/\j<=L/\wr=w) (fun _ v9 _=>(intOf v9 - (at_:Int)+1).toNat)
    case atStart=>exact ⟨L,by congr 1;have:=HB.out.2.1;omega,by rw [HH.out.2.2.1,List.drop_length];rfl,Nat.le_refl _,rfl⟩
    case round =>
     obtain ⟨j,rfl,rfl,hj,hwr⟩:=hrel
     have hwr:=hwr.symm
     subst hwr
     by_cases hj0:1<=j
     ·obtain ⟨c,hc⟩:∃ c,l[j - 1]?=some c:=⟨_,List.getElem?_eq_getElem (by rw [<- HH.out.2.2.1];omega)⟩
      have hcc:=HH.out.2.1 (j - 1) c hc
      have hv:=valB_drop l (j - 1) c hc
      rw [show j - 1+1=j by omega] at hv
      have hle:=valB_drop_le l (j - 1)
      rw [HH.out.1.val] at hle
      have hnn:=HH.out.2.2.2.2.2.2.2.1
      have hlen:=HH.out.2.2.2.2.1
      have hc256:=c.toNat_lt
      obtain ⟨V,hV⟩:∃ V,V=valB (l.drop j):=⟨_,rfl⟩
      obtain ⟨U,hU⟩:∃ U,U=valB (l.drop (j - 1)):=⟨_,rfl⟩
      rw [<- hV,<- hU] at hv
      rw [<- hU] at hle
      rw [<- hV]
      obtain ⟨k,hk⟩:∃ k:Nat,k=at_+(j - 1):=⟨_,rfl⟩
      rw [<- hk] at hcc
      have hkv:(at_:Int)+(j:Int) - 1=(k:Int):=by omega
      have r1:(at_:Int)<=(k:Int):=by omega
      have r2:IntKind.u64.wrap (128*(V:Int))=128*(V:Int):=by rw [IntKind.wrap_u64];omega
      have r3:IntKind.u64.wrap (128*(V:Int)+(c.toNat:Int) % 128)=(U:Int):=by rw [IntKind.wrap_u64];omega
      have r4:IntKind.i64.wrap ((k:Int) - 1)=(at_:Int)+((j - 1:Nat):Int) - 1:=by rw [IntKind.wrap_i64];omega
      have r5:(k:Int)<(p.length:Int):=by omega
      rw [hkv]
      have HR:=Lib.hid (A4 hj hj0 hU hk)
      clear hj hj0 hU hk hkv hv hle hnn hlen hc hV q4 q5
      go_wp2_with fail
      go_roundw
      case rel=>exact ⟨j - 1,rfl,by rw [<- HR.out.2.2.1],by have:=HR.out.1;omega,trivial⟩
      case measure=>have:=HR.out.2.1;have:=HR.out.2.2.2;simp [intOf];omega
     ·obtain rfl:j=0:=by omega
      have r1:¬(at_:Int)<=(at_:Int)+((0:Nat):Int) - 1:=by omega
      rw [List.drop_zero,HH.out.1.val]
      clear hj hj0
      go_wp2_with fail
      refine bodyPost_ret (v:=.tuple #[.int .u64 n,.int .i64 L,.int .i64 0]) (by simp [results,Tryz.results208,go_sem];have:=HB.out.2.1;omega) rfl ?_
      exact ⟨rfl,rfl⟩
structure DIn [bn:Inhabited Ban] (base:Nat) (w:World) (b:Nat) (pv:Value) (p:List UInt8) (at_:Nat) (rest:List UInt8):Prop where
 blk:w.heap[b]?=some (.cells #[pv,.int .i64 at_,.int .i64 0] 287 (0,0))
 bytes:Qv base w pv p
 le:at_<=p.length
 left:p.drop at_=rest
 bb:base<=b
 small:p.length<=1099511627776
section
variable [bn:Inhabited Ban] {base:Nat} {w w':World} {b:Nat} {pv:Value} {p rest:List UInt8} {at_:Nat}
theorem DIn.no (h:DIn base w b pv p at_ rest) (k:Keep No w w'):DIn base w' b pv p at_ rest:=⟨k.heap h.blk (fun e=>e),h.bytes.no k,h.le,h.left,h.bb,h.small⟩
theorem DIn.foot (h:DIn base w b pv p at_ rest):Foot base w (·=b):=fun c hc=>by
 have hc:c=b:=hc
 subst hc
 exact ⟨h.bb,Qt h.blk,fun cs fr e=>by have:=h.blk;rw [this] at e;simp at e⟩
theorem DIn.lens (h:DIn base w b pv p at_ rest):at_+rest.length=p.length:=by
 have:=congrArg List.length h.left
 rw [List.length_drop] at this
 have:=h.le
 omega
theorem DIn.step {q rest':List UInt8} (h:DIn base w b pv p at_ rest) (hr:rest=q++rest'):DIn base (w.setCell ⟨b,1,none⟩ (.int .i64 (at_+q.length:Nat))) b pv p (at_+q.length) rest':=by
 have k:Keep (·=b) w (w.setCell ⟨b,1,none⟩ (.int .i64 (at_+q.length:Nat))):=Qd _ _
 have hl:=h.lens
 refine ⟨by simpa using Qz (i:=1) (u:=.int .i64 (at_+q.length:Nat)) h.blk,h.bytes.keep h.foot k,by rw [hr,List.length_append] at hl;omega,?_,h.bb,h.small⟩
 rw [<- List.drop_drop,h.left,hr,List.drop_left]
end
theorem Qv.byteAt [bn:Inhabited Ban] {base:Nat} {w:World} {ao:Option Addr} {n cap i:Nat} {l:List UInt8} {x:UInt8} (h:Qv base w (.slice ao n cap) l) (hi:l[i]?=some x):∃ ad,ao=some ad/\w.cell? (ad.add i)=some (.int .u8 x.toNat):=by
 obtain ⟨_,_,hq,_,_,_,hc⟩:=h
 simp only [Value.slice.injEq] at hq
 obtain ⟨rfl,_,rfl⟩:=hq
 obtain ⟨ad,e,_,hc'⟩:=hc _ _ hi
 exact ⟨ad,e,hc'⟩
theorem r2Byte_spec [bn:Inhabited Ban] {base:Nat} {w:World} {b:Nat} {pv:Value} {p rest:List UInt8} {at_:Nat} {c:UInt8} (h:DIn base w b pv p at_ (c :: rest)) :
  Calls Tryz.prog 176 #[.pointer (some ⟨b,0,none⟩)] w fun e w'=>e=.returned (.int .u8 c.toNat)/\DIn base w' b pv p (at_+1) rest/\Keep (·=b) w w':=by
 obtain ⟨ao,cap,rfl⟩:=h.bytes.form
 have hl:=h.lens
 have hsm:=h.small
 have hget:p[at_]?=some c:=by
  have:(p.drop at_)[0]?=some c:=by rw [h.left];rfl
  rw [List.getElem?_drop] at this
  simpa using this
 obtain ⟨ad,rfl,hcell⟩:=h.bytes.byteAt hget
 have c0:=Qq h.blk 0
 have c1:=Qq h.blk 1
 have c2:=Qq h.blk 2
 have f0:=Qg h.blk
 simp at c0 c1 c2
 have hli:(p.length:Int)<=1099511627776:=by omega
 have hlt:(at_:Int)<(p.length:Int):=by simp at hl;omega
 have hne:((at_:Int)==(p.length:Int))=false:=by simp;omega
 have q1:IntKind.i64.wrap ((at_:Int)+1)=((at_+1:Nat):Int):=by rw [IntKind.wrap_i64];omega
 have q2:IntKind.i64.wrap ((at_:Int)+1 - 1)=(at_:Int):=by rw [IntKind.wrap_i64];omega
 have q3:IntKind.i64.wrap (at_:Int)=(at_:Int):=by rw [IntKind.wrap_i64];omega
 have HH:=Lib.hid (A2 h hget)
 clear h hl hget hsm hcell
 go_enter Tryz.func176,Tryz.ntmps176
 go_upto_region 3 with fail
 have kd:Keep No w w.drew:=(Keep.refl _ _).drew
 refine Ql (fun w'=>Keep No w w') [0,1,2,3,4,5,6,7,8] [] [9] (by kernel_rfl) (by kernel_rfl) (fun _ _ _ _ _ h=>h) kd ?_
 iterate 9 (refine Qk (v:=?_) rfl rfl rfl ?_ ?_;rotate_left;focus (
  intro w' hS
  have e0:=hS.cell c0 (fun e=>e)
  have e1:=hS.cell c1 (fun e=>e)
  go_simp
  try with_reducible rfl))
 refine Qj (Qh (Qu rfl (Qm ?_)))
 generalize w.drew=X at kd ⊢
 have hs:=(HH.out.1.no kd).step (q:=[c]) (rest':=rest) rfl
 simp only [List.length_singleton] at hs
 rw [show ((at_+1:Nat):Int)=(at_:Int)+1 by omega] at hs
 have c1:=kd.cell c1 (fun e=>e)
 have f0:=Qg (HH.out.1.no kd).blk
 have k1:Keep (·=b) X (X.setCell ⟨b,1,none⟩ (.int .i64 ((at_:Int)+1))):=Qd _ _
 obtain ⟨W1,hW1⟩:∃ W1,W1=X.setCell ⟨b,1,none⟩ (.int .i64 ((at_:Int)+1)):=⟨_,rfl⟩
 rw [<- hW1] at hs k1
 have e0:=Qq hs.blk 0
 have e1:=Qq hs.blk 1
 simp at e0 e1
 obtain ⟨ad',e,hcell⟩:=hs.bytes.byteAt HH.out.2
 cases e
 have HS:=Lib.hid (A2 hs (kd.no.trans k1 (fun _ _ e=>e)))
 clear hs k1 c0 c2
 go_upto_region 7 with fail
 rw [<- hW1]
 clear hW1 c1 f0
 have kd1:Keep No W1 W1.drew:=(Keep.refl _ _).drew
 refine Ql (fun w'=>Keep No W1 w') [0,1,2,3,4,5,6,7,8,9,10] [] [11] (by kernel_rfl) (by kernel_rfl) (fun _ _ _ _ _ h=>h) kd1 ?_
 iterate 11 (refine Qk (v:=?_) rfl rfl rfl ?_ ?_;rotate_left;focus (
  intro w' hS
  have g0:=hS.cell e0 (fun e=>e)
  have g1:=hS.cell e1 (fun e=>e)
  have g2:=hS.cell hcell (fun e=>e)
  go_simp
  try with_reducible rfl))
 refine Qj (Qh (Qu rfl (Qm ?_)))
 have HF:=Lib.hid (A2 (HS.out.1.no kd1) (HS.out.2.then kd1))
 clear kd1 hcell e0 e1
 go_wp2_with fail
 go_ret
 exact ⟨rfl,HF.out⟩
theorem r2Number_spec [bn:Inhabited Ban] {base:Nat} {w:World} {b:Nat} {pv:Value} {p rest:List UInt8} {at_ n:Nat} (h:DIn base w b pv p at_ (numB n++rest)) (hn:n<18446744073709551616) :
  Calls Tryz.prog 180 #[.pointer (some ⟨b,0,none⟩)] w fun e w'=>e=.returned (.int .u64 n)/\DIn base w' b pv p (at_+(numB n).length) rest/\Keep (·=b) w w':=by
 have hl:=h.lens
 have hsm:=h.small
 have c0:=Qq h.blk 0
 have c1:=Qq h.blk 1
 have c2:=Qq h.blk 2
 have f0:=Qg h.blk
 simp at c0 c1 c2
 have hrd:=fun (X:World) (k:Keep No w X)=>r2Read_spec (h.bytes.no k) h.le h.left hn h.small
 obtain ⟨ao,cap,rfl⟩:=h.bytes.form
 have q1:IntKind.i64.wrap ((at_:Int)+((numB n).length:Int))=((at_+(numB n).length:Nat):Int):=by
  rw [List.length_append] at hl
  rw [IntKind.wrap_i64]
  omega
 have HH:=Lib.hid (A2 h hrd)
 generalize hL:(numB n).length=Ln at *
 have HL:=Lib.hid hL
 clear h hl hsm hrd hL
 go_enter Tryz.func180,Tryz.ntmps180
 go_upto_region 3 with fail
 have kd:Keep No w w.drew:=(Keep.refl _ _).drew
 refine wp_drawN2 (fun w'=>Keep No w w') [0,1,2,3,4,5,6,7] [8,9] [10,11,12] [13,14,15] (by kernel_rfl) (by kernel_rfl) (fun _ _ _ _ _ h=>h) kd ?_
 iterate 8 (refine Qk (v:=?_) rfl rfl rfl ?_ ?_;rotate_left;focus (
  intro w' hS
  have e0:=hS.cell c0 (fun e=>e)
  have e1:=hS.cell c1 (fun e=>e)
  go_simp
  try with_reducible rfl))
 refine Qj (Qx rfl rfl (fun K hK=>?_))
 go_simp
 refine (HH.out.2 _ kd).mono ?_
 rintro e w2 ⟨rfl,e2⟩
 have e2:=e2.symm
 subst e2
 refine hK _ _ kd ?_
 clear hK K
 refine Qx rfl rfl (fun K hK=>?_)
 go_simp
 refine hK _ _ kd ?_
 clear hK K
 refine Qh ?_
 iterate 3 (refine Qk (v:=?_) rfl rfl rfl ?_ ?_;rotate_left;focus (
  intro w' hS
  go_simp
  try with_reducible rfl))
 refine Qj ?_
 iterate 3 (refine Qx rfl rfl (fun K hK=>?_);go_simp;refine hK _ _ kd ?_;clear hK K)
 refine Qh ?_
 generalize w.drew=X at kd ⊢
 have hs:=(HH.out.1.no kd).step (q:=numB n) (rest':=rest) rfl
 rw [HL.out] at hs
 rw [show ((at_+Ln:Nat):Int)=(at_:Int)+(Ln:Int) by omega] at hs
 have c1:=kd.cell c1 (fun e=>e)
 have c2:=kd.cell c2 (fun e=>e)
 have f0:=Qg (HH.out.1.no kd).blk
 have k1:Keep (·=b) X (X.setCell ⟨b,1,none⟩ (.int .i64 ((at_:Int)+(Ln:Int)))):=Qd _ _
 have g2:(X.setCell ⟨b,1,none⟩ (.int .i64 ((at_:Int)+(Ln:Int)))).cell? ⟨b,2,none⟩=some (.int .i64 0):=by rw [Qq hs.blk 2];rfl
 have hb2:=Qz (i:=2) (u:=.int .i64 0) hs.blk
 have k2:Keep (·=b) (X.setCell ⟨b,1,none⟩ (.int .i64 ((at_:Int)+(Ln:Int)))) ((X.setCell ⟨b,1,none⟩ (.int .i64 ((at_:Int)+(Ln:Int)))).setCell ⟨b,2,none⟩ (.int .i64 0)):=Qd _ _
 have HS:=Lib.hid (A4 hs hb2 (kd.no.trans k1 (fun _ _ e=>e)) k2)
 clear hs hb2 k1 k2 c0 kd
 go_wp2_with fail
 go_ret
 have hz:=HS.out.2.1
 simp only [List.setIfInBounds_toArray,List.set_cons_succ,List.set_cons_zero] at hz
 exact ⟨rfl,⟨hz,HS.out.1.bytes.keep HS.out.1.foot HS.out.2.2.2,HS.out.1.le,HS.out.1.left,HS.out.1.bb,HS.out.1.small⟩,HS.out.2.2.1.trans HS.out.2.2.2 (fun _ _ e=>e)⟩
theorem r2End_spec [bn:Inhabited Ban] {base:Nat} {w:World} {b:Nat} {pv:Value} {p:List UInt8} {at_:Nat} (h:DIn base w b pv p at_ []) :
  Calls Tryz.prog 178 #[.pointer (some ⟨b,0,none⟩)] w fun e w'=>e=.returned (.int .i64 0)/\Keep No w w':=by
 obtain ⟨ao,cap,rfl⟩:=h.bytes.form
 have hl:=h.lens
 have c0:=Qq h.blk 0
 have c1:=Qq h.blk 1
 have c2:=Qq h.blk 2
 simp at c0 c1 c2
 have hlt:¬(at_:Int)<(p.length:Int):=by simp at hl;omega
 clear h hl
 go_enter Tryz.func178,Tryz.ntmps178
 go_upto_region 1 with fail
 have kd:Keep No w w.drew:=(Keep.refl _ _).drew
 refine Ql (fun w'=>Keep No w w') [0,1,2,3,4,5,6,7,8] [] [9] (by kernel_rfl) (by kernel_rfl) (fun _ _ _ _ _ h=>h) kd ?_
 iterate 9 (refine Qk (v:=?_) rfl rfl rfl ?_ ?_;rotate_left;focus (
  intro w' hS
  have e0:=hS.cell c0 (fun e=>e)
  have e1:=hS.cell c1 (fun e=>e)
  go_simp
  try with_reducible rfl))
 refine Qj (Qh (Qu rfl (Qm ?_)))
 have c2:=kd.cell c2 (fun e=>e)
 have HK:=Lib.hid kd
 clear kd c0 c1
 go_wp2_with fail
 go_ret
 exact ⟨rfl,HK.out⟩
theorem r2Some_spec [bn:Inhabited Ban] {base:Nat} {w:World} {b most:Nat} {pv:Value} {p q rest:List UInt8} {at_:Nat} (h:DIn base w b pv p at_ (numB q.length++(q++rest))) (hq:q.length<=most) (hmost:most<=1073741824) (hb:base<=w.heap.size) (hT:ban.top<=w.heap.size) :
  Calls Tryz.prog 216 #[.pointer (some ⟨b,0,none⟩),.int .i64 most] w fun e w'=>∃ v,e=.returned v/\OwnB w' w.heap.size v q/\DIn base w' b pv p (at_+((numB q.length).length+q.length)) rest/\Keep (·=b) w w':=by
 have hl:=h.lens
 rw [List.length_append,List.length_append] at hl
 have hsm:=h.small
 have hnl:=Qp (n:=q.length) (by omega)
 have c0:=Qq h.blk 0
 have c1:=Qq h.blk 1
 have c2:=Qq h.blk 2
 simp at c0 c1 c2
 have hrd:=fun (X:World) (k:Keep No w X)=>r2Read_spec (h.bytes.no k) h.le h.left (by omega) h.small
 obtain ⟨ao,cap,hpv⟩:=h.bytes.form
 subst hpv
 have hcap:p.length<=cap:=by
  obtain ⟨_,_,e,e2,_⟩:=h.bytes
  simp only [Value.slice.injEq] at e
  omega
 obtain ⟨n,hn⟩:∃ n,n=q.length:=⟨_,rfl⟩
 obtain ⟨Ln,hL⟩:∃ Ln,Ln=(numB q.length).length:=⟨_,rfl⟩
 obtain ⟨so,sc,hsl,hsub⟩:=Ub ao p.length cap (at_+Ln) (at_+Ln+n) ((at_:Int)+(Ln:Int)) ((at_:Int)+(Ln:Int)+(n:Int)) (by omega) (by omega) (by omega) (by omega) hcap
 have hsubq:(p.take (at_+Ln+n)).drop (at_+Ln)=q:=by
  rw [List.drop_take,<- List.drop_drop,h.left,hL,List.drop_left,show at_+(numB q.length).length+n - (at_+(numB q.length).length)=n by omega,hn,List.take_left]
 rw [show at_+Ln+n - (at_+Ln)=n by omega] at hsl hsub
 rw [<- hL] at hrd hl
 rw [<- hn] at hrd hl
 rw [<- hL] at hnl
 rw [<- hL]
 rw [<- hn] at hq ⊢
 have q1:IntKind.u64.wrap (most:Int)=(most:Int):=by rw [IntKind.wrap_u64];omega
 have q2:¬(most:Int)<(n:Int):=by omega
 have q3:¬(most:Int)<0:=by omega
 have q4:IntKind.i64.wrap ((p.length:Int) - (at_:Int))=(p.length:Int) - (at_:Int):=by rw [IntKind.wrap_i64];omega
 have q5:IntKind.i64.wrap ((p.length:Int) - (at_:Int) - (Ln:Int))=(p.length:Int) - (at_:Int) - (Ln:Int):=by rw [IntKind.wrap_i64];omega
 have q6:IntKind.u64.wrap ((p.length:Int) - (at_:Int) - (Ln:Int))=(p.length:Int) - (at_:Int) - (Ln:Int):=by rw [IntKind.wrap_u64];omega
 have q7:¬(p.length:Int) - (at_:Int) - (Ln:Int)<(n:Int):=by omega
 have q8:IntKind.i64.wrap ((at_:Int)+(Ln:Int))=(at_:Int)+(Ln:Int):=by rw [IntKind.wrap_i64];omega
 have q9:IntKind.i64.wrap (n:Int)=(n:Int):=by rw [IntKind.wrap_i64];omega
 have q10:IntKind.i64.wrap ((at_:Int)+(Ln:Int)+(n:Int))=(at_:Int)+(Ln:Int)+(n:Int):=by rw [IntKind.wrap_i64];omega
 have q11:IntKind.i64.wrap ((Ln:Int)+(n:Int))=(Ln:Int)+(n:Int):=by rw [IntKind.wrap_i64];omega
 have q12:IntKind.i64.wrap ((at_:Int)+((Ln:Int)+(n:Int)))=(at_:Int)+((Ln:Int)+(n:Int)):=by rw [IntKind.wrap_i64];omega
 have HH:=Lib.hid (A9 h hrd hsub hsubq hn hL hb hT (show n<=1073741824 by omega))
 clear h hl hsm hnl hrd hsub hsubq hn hL hcap hb hT hq hmost
 go_enter Tryz.func216,Tryz.ntmps216
 go_upto_region 3 with fail
 have kd:Keep No w w.drew:=(Keep.refl _ _).drew
 refine wp_drawN2 (fun w'=>Keep No w w') [0,1,2,3,4,5,6,7] [8,9] [10,11,12] [13,14,15] (by kernel_rfl) (by kernel_rfl) (fun _ _ _ _ _ h=>h) kd ?_
 iterate 8 (refine Qk (v:=?_) rfl rfl rfl ?_ ?_;rotate_left;focus (
  intro w' hS
  have e0:=hS.cell c0 (fun e=>e)
  have e1:=hS.cell c1 (fun e=>e)
  go_simp
  try with_reducible rfl))
 refine Qj (Qx rfl rfl (fun K hK=>?_))
 go_simp
 refine (HH.out.2.1 _ kd).mono ?_
 rintro e w2 ⟨rfl,e2⟩
 have e2:=e2.symm
 subst e2
 refine hK _ _ kd ?_
 clear hK K
 refine Qx rfl rfl (fun K hK=>?_)
 go_simp
 refine hK _ _ kd ?_
 clear hK K
 refine Qh ?_
 iterate 3 (refine Qk (v:=?_) rfl rfl rfl ?_ ?_;rotate_left;focus (
  intro w' hS
  go_simp
  try with_reducible rfl))
 refine Qj ?_
 iterate 3 (refine Qx rfl rfl (fun K hK=>?_);go_simp;refine hK _ _ kd ?_;clear hK K)
 refine Qh ?_
 generalize w.drew=X at kd ⊢
 have c0:=kd.cell c0 (fun e=>e)
 have c1:=kd.cell c1 (fun e=>e)
 have c2:=kd.cell c2 (fun e=>e)
 have HX:=Lib.hid kd
 clear kd
 go_upto_region 6 with fail
 have kd:Keep No X X.drew:=(Keep.refl _ _).drew
 refine Vr (fun w'=>Keep No X w') [([0,1,2],[]),([3,4,5,6,7,8,9,10,11,12,13,14,15,16,17],[18])] (by kernel_rfl) (by kernel_rfl) (fun _ _ _ _ _ h=>h) kd ?_
 iterate 3 (refine Qk (v:=?_) rfl rfl rfl ?_ ?_;rotate_left;focus (
  intro w' hq
  go_simp
  try with_reducible rfl))
 refine Qj ?_
 refine Qh ?_
 iterate 15 (refine Qe (v:=?_) rfl rfl (by first | kernel_rfl | simp [Region.wanted,yielded,Act.put,undef]) ?_ ?_;rotate_left;focus (
  intro w' hq
  have e0:=hq.cell c0 (fun e=>e)
  have e1:=hq.cell c1 (fun e=>e)
  go_simp
  try with_reducible rfl))
 refine Qj ?_
 refine Qx rfl rfl (fun K hK=>?_)
 go_simp
 refine hK _ _ kd ?_
 clear hK K
 refine Qh ?_
 unfold Vp
 generalize X.drew=Y at kd ⊢
 have c0:=kd.cell c0 (fun e=>e)
 have c1:=kd.cell c1 (fun e=>e)
 have c2:=kd.cell c2 (fun e=>e)
 have HY:=Lib.hid (HX.out.then kd)
 clear kd q4 q5 q6 q7
 go_upto_region 11 with fail
 have kd:Keep No Y Y.drew:=(Keep.refl _ _).drew
 refine Ql (fun w'=>Keep No Y w') [0,1,2,3,4,5,6,7,8,9,10,11,12,13,14,15,16,17,18] [19,20,21] [22] (by kernel_rfl) (by kernel_rfl) (fun _ _ _ _ _ h=>h) kd ?_
 iterate 19 (refine Qk (v:=?_) rfl rfl rfl ?_ ?_;rotate_left;focus (
  intro w' hS
  have e0:=hS.cell c0 (fun e=>e)
  have e1:=hS.cell c1 (fun e=>e)
  go_simp
  try with_reducible rfl))
 refine Qj (Qx rfl rfl (fun K hK=>?_))
 go_simp
 refine hK _ _ kd ?_
 clear hK K
 have hbq:=HH.out.2.2.1 base _ p (HH.out.1.bytes.no (HY.out.then kd))
 rw [HH.out.2.2.2.1] at hbq
 have hs1:=slices1 hbq
 have hjn:=Xv hs1 (by have:=HH.out.2.2.2.2.1;have:=HH.out.2.2.2.2.2.2.2.2;simp;omega)
 have he:[q].flatten=q:=by simp
 rw [he] at hjn
 have kA:=kd.alloc (.cells #[.slice so n sc] 59)
 refine Qx rfl rfl (fun K hK=>?_)
 go_simp
 refine hK _ _ kA ?_
 clear hK K
 refine Qx rfl rfl (fun K hK=>?_)
 go_simp
 refine hjn.mono ?_
 rintro e w5 ⟨v5,rfl,own5,k5⟩
 have k05:=kA.then k5
 refine hK _ _ k05 ?_
 clear hK K
 obtain ⟨o5,c5,rfl⟩:=own5.form
 have hD5:=HH.out.1.no (HY.out.then k05)
 have hs5:=hD5.step (q:=numB q.length++q) (rest':=rest) (by rw [List.append_assoc])
 have hLn:(numB n).length=Ln:=by rw [HH.out.2.2.2.2.1];exact HH.out.2.2.2.2.2.1.symm
 have hll:((at_+(numB q.length++q).length:Nat):Int)=(at_:Int)+((Ln:Int)+(n:Int)):=by rw [List.length_append,<- HH.out.2.2.2.2.1,hLn];omega
 rw [hll] at hs5
 rw [List.length_append,<- HH.out.2.2.2.2.1,hLn] at hs5
 have c1:=k05.cell c1 (fun e=>e)
 have f5:=Qg hD5.blk
 have hown:OwnB w5 w.heap.size (.slice o5 q.length c5) q:=own5.mono (HY.out.then kA).size
 have k6:Keep (·=b) w5 (w5.setCell ⟨b,1,none⟩ (.int .i64 ((at_:Int)+((Ln:Int)+(n:Int))))):=Qd _ _
 have hown6:=hown.keep k6 (fun c hc e=>by
  obtain ⟨_,cur,hz⟩:=Qa hown c hc
  have e:c=b:=e
  rw [e,hD5.blk] at hz
  simp at hz)
 have HZ:=Lib.hid (A3 hs5 hown6 (((HY.out.then k05).no).trans k6 (fun _ _ e=>e)))
 clear hLn hs5 hown6 hown k6 hD5 own5 k05 k5 kA kd hjn hs1 hbq he hll c0 c2
 refine Qh (Qu rfl (Qm ?_))
 go_wp2_with fail
 go_ret
 exact ⟨_,rfl,HZ.out.2.1,HZ.out.1,HZ.out.2.2⟩
theorem span_head {s:Ys} (h:s.Right) (rest:List UInt8):∃ c:Nat,s.c=(c:Int)/\c<8/\s.bytes++rest=UInt8.ofNat c :: (numB s.body.length++(s.body++rest))/\s.bytes.length=1+((numB s.body.length).length+s.body.length):=by
 obtain ⟨h1,h2,h3⟩:=h
 obtain ⟨c,hc⟩:∃ c:Nat,s.c=(c:Int):=⟨s.c.toNat,by omega⟩
 have e:((c:Int) % 256).toNat=c:=by omega
 refine ⟨c,hc,by omega,?_,?_⟩
 ·unfold Ys.bytes
  rw [hc,e]
  simp
 ·unfold Ys.bytes
  simp
  omega
theorem r4Get_spec [bn:Inhabited Ban] {base:Nat} {w:World} {b:Nat} {pv:Value} {p rest:List UInt8} {at_:Nat} {s:Ys} (h:DIn base w b pv p at_ (s.bytes++rest)) (hs:s.Right) (hb:base<=w.heap.size) (hT:ban.top<=w.heap.size) :
  Calls Tryz.prog 209 #[.pointer (some ⟨b,0,none⟩)] w fun e w'=>∃ v,e=.returned (.agg #[.int .i64 s.c,v])/\OwnB w' w.heap.size v s.body/\DIn base w' b pv p (at_+s.bytes.length) rest/\Keep (·=b) w w':=by
 obtain ⟨c,hc,hc8,he,hlen⟩:=span_head hs rest
 rw [he] at h
 rw [hlen,hc]
 obtain ⟨W,hW⟩:∃ W,W=w.alloc (.cells #[.int .i64 0,.slice none 0 0] 173):=⟨_,rfl⟩
 have kW:Keep No w W:=by rw [hW];exact (Keep.refl _ _).alloc _
 have hZ:W.heap[w.heap.size]?=some (.cells #[.int .i64 0,.slice none 0 0] 173 (0,0)):=by rw [hW];exact Qy _ _
 have hby:=r2Byte_spec (h.no kW)
 have hcu:((UInt8.ofNat c).toNat:Int)=(c:Int):=by rw [Gl c (by omega)]
 rw [hcu] at hby
 have q1:¬(7:Int)<(c:Int):=by omega
 have q2:IntKind.i64.wrap (c:Int)=(c:Int):=by rw [IntKind.wrap_i64];omega
 have hbl:=Qt h.blk
 have HH:=Lib.hid (A7 h hs hb hT kW hZ hbl)
 clear h hs hb hT hc hc8 he hlen kW hZ hcu hbl
 go_enter Tryz.func209,Tryz.ntmps209
 go_upto_region 1 with fail
 rw [<- hW]
 clear hW
 go_upto_region 4 with (go_at_call 176;refine hby.mono ?_;rintro e w1 ⟨rfl,hD1,k1⟩)
 clear hby q1
 have hso:=r2Some_spec (most:=4096) hD1 HH.out.2.1.2.2 (by decide) (Nat.le_trans HH.out.2.2.1 (Nat.le_trans HH.out.2.2.2.2.1.size k1.size)) (Nat.le_trans HH.out.2.2.2.1 (Nat.le_trans HH.out.2.2.2.2.1.size k1.size))
 have hbZ:¬w.heap.size=b:=by have:=HH.out.2.2.2.2.2.2;omega
 have hZ1:=k1.heap HH.out.2.2.2.2.2.1 hbZ
 have H1:=Lib.hid (A2 (HH.out.2.2.2.2.1.no.trans k1 (fun _ _ e=>e)) hZ1)
 clear hD1 k1 hZ1
 go_upto_region 5 with (go_at_call 216;refine hso.mono ?_;rintro e w2 ⟨v2,rfl,own2,hD2,k2⟩)
 clear hso
 obtain ⟨o2,c2,rfl⟩:=own2.form
 have hZ2:=k2.heap H1.out.2 hbZ
 have d2:=Qq hD2.blk 2
 have z0:=Qq hZ2 0
 have z1:=Qq hZ2 1
 have fZ:=Qg hZ2
 simp at d2 z0 z1
 have hsz:=Nat.le_trans HH.out.2.2.2.2.1.size (Nat.le_refl _)
 have H2:=Lib.hid (A6 (own2.mono H1.out.1.size) hD2 (H1.out.1.trans k2 (fun _ _ e=>e)) hZ2 hbZ own2)
 clear own2 hD2 k2 hZ2 hbZ hsz
 go_wp2_with fail
 have hA1:=Qz (i:=0) (u:=.int .i64 c) H2.out.2.2.2.1
 have hA2:=Qz (i:=1) (u:=.slice o2 s.body.length c2) hA1
 have k3:Keep (·=w.heap.size) w2 ((w2.setCell ⟨w.heap.size,0,none⟩ (.int .i64 c)).setCell ⟨w.heap.size,1,none⟩ (.slice o2 s.body.length c2)):=(Qd (g:=w.heap.size) (i:=0) w2 (.int .i64 c)).setCell (p:=⟨w.heap.size,1,none⟩) (.inl rfl) _
 generalize ((w2.setCell ⟨w.heap.size,0,none⟩ (.int .i64 c)).setCell ⟨w.heap.size,1,none⟩ (.slice o2 s.body.length c2))=W3 at hA2 k3 ⊢
 have y0:=Qq hA2 0
 have y1:=Qq hA2 1
 simp at y0 y1
 refine bodyPost_ret (v:=.agg #[.int .i64 c,.slice o2 s.body.length c2]) (by simp [results,Tryz.results209,go_sem,y0,y1]) rfl ?_
 refine ⟨_,rfl,H2.out.1.keep k3 (fun x hx e=>?_),?_,H2.out.2.2.1.trans k3 (fun x hx e=>by have e:x=w.heap.size:=e;omega)⟩
 ·have h1:=(OwnB.lt H2.out.2.2.2.2.2 x hx).1
  have h2:=Qt H1.out.2
  have e:x=w.heap.size:=e
  omega
 ·have hD:=H2.out.2.1
  rw [show at_+(1+((numB s.body.length).length+s.body.length))=at_+1+((numB s.body.length).length+s.body.length) by omega]
  refine ⟨k3.heap hD.blk (fun e=>H2.out.2.2.2.2.1 (by have e:b=w.heap.size:=e;omega)),hD.bytes.keep (fun x hx=>?_) k3,hD.le,hD.left,hD.bb,hD.small⟩
  have hx:x=w.heap.size:=hx
  subst hx
  exact ⟨HH.out.2.2.1,Qt H2.out.2.2.2.1,fun cs fr e=>by have:=H2.out.2.2.2.1;rw [this] at e;simp at e⟩
theorem r4GetItem_spec [bn:Inhabited Ban] {base:Nat} {w:World} {b:Nat} {pv:Value} {p rest:List UInt8} {at_:Nat} {x:Qc} (h:DIn base w b pv p at_ (x.bytes++rest)) (hs:x.Right) (hb:base<=w.heap.size) (hT:ban.top<=w.heap.size) :
  Calls Tryz.prog 181 #[.pointer (some ⟨b,0,none⟩)] w fun e w'=>∃ v,e=.returned (.agg #[.int .u64 x.n,.int .i64 x.s.c,v])/\OwnB w' w.heap.size v x.s.body/\DIn base w' b pv p (at_+x.bytes.length) rest/\Keep (·=b) w w':=by
 have he:x.bytes++rest=numB x.n++(x.s.bytes++rest):=by unfold Qc.bytes;rw [List.append_assoc]
 have hlen:x.bytes.length=(numB x.n).length+x.s.bytes.length:=by unfold Qc.bytes;rw [List.length_append]
 rw [he] at h
 rw [hlen]
 obtain ⟨W,hW⟩:∃ W,W=w.alloc (.cells #[.int .u64 0,.int .i64 0,.slice none 0 0] 206):=⟨_,rfl⟩
 have kW:Keep No w W:=by rw [hW];exact (Keep.refl _ _).alloc _
 have hZ:W.heap[w.heap.size]?=some (.cells #[.int .u64 0,.int .i64 0,.slice none 0 0] 206 (0,0)):=by rw [hW];exact Qy _ _
 have hnm:=r2Number_spec (h.no kW) (by have:=hs.1;omega)
 have hbl:=Qt h.blk
 have HH:=Lib.hid (A7 h hs hb hT kW hZ hbl)
 clear h hs hb hT he hlen kW hZ hbl
 go_enter Tryz.func181,Tryz.ntmps181
 go_upto_region 1 with fail
 rw [<- hW]
 clear hW
 go_upto_region 2 with (go_at_call 180;refine hnm.mono ?_;rintro e w1 ⟨rfl,hD1,k1⟩)
 clear hnm
 have hb1:=Nat.le_trans HH.out.2.2.1 (Nat.le_trans HH.out.2.2.2.2.1.size k1.size)
 have hT1:=Nat.le_trans HH.out.2.2.2.1 (Nat.le_trans HH.out.2.2.2.2.1.size k1.size)
 have hgt:=r4Get_spec hD1 HH.out.2.1.2 hb1 hT1
 have hbZ:¬w.heap.size=b:=by have:=HH.out.2.2.2.2.2.2;omega
 have hZ1:=k1.heap HH.out.2.2.2.2.2.1 hbZ
 have H1:=Lib.hid (A2 (HH.out.2.2.2.2.1.no.trans k1 (fun _ _ e=>e)) hZ1)
 clear hD1 k1 hZ1 hb1 hT1
 go_upto_region 3 with (go_at_call 209;refine hgt.mono ?_;rintro e w2 ⟨v2,rfl,own2,hD2,k2⟩;obtain ⟨o2,c2,rfl⟩:=own2.form)
 clear hgt
 have hZ2:=k2.heap H1.out.2 hbZ
 have kS:=(Keep.refl No w2).alloc (.cells #[.int .i64 x.s.c,.slice o2 x.s.body.length c2] 173)
 have hS:=Qy w2 (.cells #[.int .i64 x.s.c,.slice o2 x.s.body.length c2] 173)
 obtain ⟨W3,hW3⟩:∃ W3,W3=w2.alloc (.cells #[.int .i64 x.s.c,.slice o2 x.s.body.length c2] 173):=⟨_,rfl⟩
 rw [<- hW3] at kS hS ⊢
 clear hW3
 have hD3:=hD2.no kS
 have hZ3:=kS.heap hZ2 (fun e=>e)
 have d2:=Qq hD3.blk 2
 have s0:=Qq hS 0
 have s1:=Qq hS 1
 have z0:=Qq hZ3 0
 have z1:=Qq hZ3 1
 have z2:=Qq hZ3 2
 have fZ:=Qg hZ3
 simp at d2 s0 s1 z0 z1 z2
 have H2:=Lib.hid (A6 ((own2.mono H1.out.1.size).keep kS (fun _ _ e=>e)) hD3 ((H1.out.1.trans k2 (fun _ _ e=>e)).then kS) hZ3 hbZ own2)
 clear own2 hD2 hD3 k2 hZ2 hZ3 hbZ kS hS
 go_wp2_with fail
 have hA1:=Qz (i:=0) (u:=.int .u64 x.n) H2.out.2.2.2.1
 have hA2:=Qz (i:=1) (u:=.int .i64 x.s.c) hA1
 have hA3:=Qz (i:=2) (u:=.slice o2 x.s.body.length c2) hA2
 have k3:Keep (·=w.heap.size) W3 (((W3.setCell ⟨w.heap.size,0,none⟩ (.int .u64 x.n)).setCell ⟨w.heap.size,1,none⟩ (.int .i64 x.s.c)).setCell ⟨w.heap.size,2,none⟩ (.slice o2 x.s.body.length c2)):=((Qd (g:=w.heap.size) (i:=0) W3 (.int .u64 x.n)).setCell (p:=⟨w.heap.size,1,none⟩) (.inl rfl) _).setCell (p:=⟨w.heap.size,2,none⟩) (.inl rfl) _
 generalize (((W3.setCell ⟨w.heap.size,0,none⟩ (.int .u64 x.n)).setCell ⟨w.heap.size,1,none⟩ (.int .i64 x.s.c)).setCell ⟨w.heap.size,2,none⟩ (.slice o2 x.s.body.length c2))=W4 at hA3 k3 ⊢
 have y0:=Qq hA3 0
 have y1:=Qq hA3 1
 have y2:=Qq hA3 2
 simp at y0 y1 y2
 refine bodyPost_ret (v:=.agg #[.int .u64 x.n,.int .i64 x.s.c,.slice o2 x.s.body.length c2]) (by simp [results,Tryz.results181,go_sem,y0,y1,y2]) rfl ?_
 refine ⟨_,rfl,H2.out.1.keep k3 (fun y hy e=>?_),?_,H2.out.2.2.1.trans k3 (fun y hy e=>by have e:y=w.heap.size:=e;omega)⟩
 ·have h1:=(OwnB.lt H2.out.2.2.2.2.2 y hy).1
  have h2:=Qt H1.out.2
  have e:y=w.heap.size:=e
  omega
 ·have hD:=H2.out.2.1
  rw [show at_+((numB x.n).length+x.s.bytes.length)=at_+(numB x.n).length+x.s.bytes.length by omega]
  refine ⟨k3.heap hD.blk (fun e=>H2.out.2.2.2.2.1 (by have e:b=w.heap.size:=e;omega)),hD.bytes.keep (fun y hy=>?_) k3,hD.le,hD.left,hD.bb,hD.small⟩
  have hy:y=w.heap.size:=hy
  subst hy
  exact ⟨HH.out.2.2.1,Qt H2.out.2.2.2.1,fun cs fr e=>by have:=H2.out.2.2.2.1;rw [this] at e;simp at e⟩
end Go.Proofs.YtfdmbomlkpkegaaGreat
