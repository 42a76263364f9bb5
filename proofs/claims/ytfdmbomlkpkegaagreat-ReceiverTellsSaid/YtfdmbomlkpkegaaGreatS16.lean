/- Lemmas. -/
import Derived.Test.YtfdmbomlkpkegaaGreatS15
import Derived.Sort.Row
import Derived.Sort.LotA
import Derived.Sort.LotB
set_option maxRecDepth 100000
set_option maxHeartbeats 8000000
set_option linter.all false
set_option autoImplicit true
set_option relaxedAutoImplicit true
open Go renaming Calls->DJ,World->AC,bits_xor_u64_nat->L7,bodyPost_ret->FC,results_none->LH
open Go.Calls renaming quiet_of_same->I8
open Go.IntKind renaming wrap_u64->F0
open Go.Lib renaming hid->BX
open Go.RowKit renaming intOf->C0
open Go.Sort renaming Below->LC,PermIn->LD,SortedIn->LF,breakPatterns->L9,breakStep->L8,ltInt->I4,partialIns->L5,partialInsertionSort->L4,partition->IX,scanDown->IM,scanSorted->K1,scanUp->IL,setCell_eq->L6,shiftDown->Kp,shiftUp->L0,size_swp->I2,swp->I1
open Go.Value renaming int->DA
open Nat renaming add_sub_cancel->L3,le_refl->BE,one_shiftLeft->LB,xor_lt_two_pow->EE
open Option renaming none->AI,some->AF
open Or renaming inl->IZ,inr->IY
open UInt64 renaming ofNat->LA
namespace Go.Proofs.YtfdmbomlkpkegaaGreat
open Go Go.RowKit Go.Sort
theorem Ot{a i j k m:Nat}(n:k=IL (λx=>I4 x d[a]!) d j i)(p:m=IM (λx=>!I4 x d[a]!) d k j)(o:i<=j+1)(hi:0<i) :
  i<=k/\k<=j+1/\m<=j/\k<=m+1/\(¬m<k->k<m):=by
 have f:=scanUp_spec (λx=>I4 x d[a]!) d j _ i rfl;have g:=scanDown_spec (λx=>!I4 x d[a]!) d k j;rw[<- n]at f;rw[<- p]at g;have q:=f.2.1 o;refine⟨f.1,q,g.1,g.2.1 q,λB=>?_⟩;have A:=f.1;have w:=f.2.2.2 (by have:=g.1;omega);have z:=g.2.2.2 (by omega) (by omega);rcases Nat.lt_or_ge k m with h|h
 ·exact h
 ·have e:k=m:=by omega
  simp only[e]at w;simp only[w]at z;cases z
theorem Zj.swapD{w:AC}{g off:Nat}{d:Array Int}(h:Zj w g off d){i j:Nat}(hi:i<d.size)(f:j<d.size) :
  Zj (((w.drewN 1).setCell ⟨g,off+i,AI⟩ (.int .u64 d[j]!)).setCell ⟨g,off+j,AI⟩ (.int .u64 d[i]!)) g off (I1 d i j) /\
  Xy (·=g) w (((w.drewN 1).setCell ⟨g,off+i,AI⟩ (.int .u64 d[j]!)).setCell ⟨g,off+j,AI⟩ (.int .u64 d[i]!)):=by
 have:=(h.keep ((Xy.refl No w).drewN 1) id).swap hi f;exact⟨this.1,((Xy.refl _ _).drewN 1).trans this.2 (λ_ _ e=>e)⟩
theorem RE{w:AC}{g off cap a b f:Nat}{d:Array Int}(h:Zj w g off d)(ap:a<=f)(aq:f<b)(hb:b<=d.size)(au:d.size<=1099511627776) :
  DJ Tryz.prog 225 #[.slice (AF ⟨g,off,AI⟩) d.size cap,.int .i64 a,.int .i64 b,.int .i64 f] w λe w' =>
   e=.returned (.tuple #[.int .i64 (IX I4 d a b f).1,.bool (IX I4 d a b f).2.1])/\Zj w' g off (IX I4 d a b f).2.2/\Xy (·=g) w w':=by
 obtain⟨P,hP⟩:∃P,P=IX I4 d a b f:=⟨_,rfl⟩;rw[<- hP];unfold IX at hP;simp only[]at hP;have ab:(I1 d a f).size=d.size:=by rw[I2]
 obtain⟨q,aO⟩:∃d1,d1=I1 d a f:=⟨_,rfl⟩;rw[<- aO]at ab hP;have ar:(f:Int)<=1099511627776:=by omega
 have ao:(b:Int)<=1099511627776:=by omega
 have am:(a:Int)<=1099511627776:=by omega
 obtain⟨W,aR⟩:∃W,W=b-1:=⟨_,rfl⟩;rw[<- aR]at hP;have al:(b:Int)-1=(W:Int):=by omega
 obtain⟨o,K⟩:∃o,o=IL (λx=>I4 x q[a]!) q W (a+1):=⟨_,rfl⟩;rw[<- K]at hP;obtain⟨A,L⟩:∃A,A=IM (λx=>!I4 x q[a]!) q o W:=⟨_,rfl⟩;rw[<- L]at hP;have Y:a+1<=W+1:=by omega
 obtain⟨b1,b2,b3,b4,b5⟩:=Ot K L Y (by omega);have ai:W<d.size:=by omega
 have HD:=BX (A6 aO hP K L aR b5);clear aO hP K L aR b5;go_enter Tryz.func225,Tryz.ntmps225;go_upto_region 1 with fail;go_cut [] (λS=>Zj S g off q/\Xy (·=g) w S);case first =>
  obtain⟨G,U⟩:∃G:Nat->Int,∀t,G t=d[t]!:=⟨λt=>d[t]!,λ_=>rfl⟩;have I:∀t,t<d.size->w.cell? ⟨g,off+t,AI⟩=AF (.int .u64 (G t)):=λt ht=>by rw[U];exact h.cell ht
  have aA:∀t,t<d.size->w.frozen? ⟨g,off+t,AI⟩=false:=λt _=>h.frozen t;have n:=h.swapD (i:=a) (j:=f) (by omega) (by omega);rw[<- U,<- U,<- HD.out.1]at n;have C:=BX n;clear n h U;by_cases ah:a=f
  ·subst ah;go_region;all_goals go_wp2
   go_meet;exact C.out
  ·have ak:a<f:=by omega
   go_region;all_goals go_wp2
   go_meet;exact C.out
 case rest =>
  obtain⟨aY,aX⟩:=hcut;generalize wc=wr at *;obtain⟨G,U⟩:∃G:Nat->Int,∀t,G t=q[t]!:=⟨λt=>q[t]!,λ_=>rfl⟩;have m:=BX (A4 U aY HD.out.2.2.1.symm.symm HD.out.qd);have HK:=BX aX;clear U aY aX h;go_upto_block 0 with fail;go_cut [10] (λv S=>v=.int .i64 o/\Xy No wr S);case first =>
   go_wp2;go_loopw [10] (λM X=>∃(k:Nat),M=.int .i64 k/\(a+1)<=k/\k<=W+1/\Xy No wr X/\IL (λx=>I4 x q[a]!) q W k=o) (λM _=>(((W:Nat):Int)+1-C0 M).toNat);case atStart=>exact⟨(a+1),rfl,BE _,Y,Xy.refl _ _,m.out.2.2.1.symm⟩
   case round =>
    obtain⟨k,rfl,aP,aV,z,hS⟩:=hrel;have I:∀t,t<d.size->wr.cell? ⟨g,off+t,AI⟩=AF (.int .u64 (G t)):=λt ht=>by rw[m.out.1];exact(m.out.2.1.keep z id).cell (by omega)
    have C:=BX (A2 hS z);clear hS z;by_cases p:k<=W
    ·have V:(k:Int)<=(W:Nat):=by omega
     have aT:a<d.size:=by omega
     have aU:k<d.size:=by omega
     go_wp2;go_quiet (first|(go_at_call 223;refine I8 (Zw _ _ _)));go_wp2
     ·have B:I4 (G k) (G a)=true:=by assumption
      go_roundw;case rel=>exact⟨k+1,by go_num,by omega,by omega,C.out.2.drewN _,by rw[<- Dl p (by rw[<- m.out.1,<- m.out.1];exact B)];exact C.out.1⟩
      case measure=>simp[C0];omega
     ·have B:I4 (G k) (G a)=false:=by assumption
      go_meet;exact⟨by rw[<- C.out.1,Ka (IY (by rw[<- m.out.1,<- m.out.1];exact B))],C.out.2.drewN _⟩
    ·have V:¬(k:Int)<=(W:Nat):=by omega
     go_wp2;go_quiet (first|(go_at_call 223;refine I8 (Zw _ _ _)));go_wp2;go_meet;exact⟨by rw[<- C.out.1,Ka (IZ p)],C.out.2.drewN _⟩
  case rest =>
   obtain⟨rfl,z⟩:=hcut;generalize wc=w2 at *;go_upto_block 2 with fail;go_cut [11] (λv S=>v=.int .i64 A/\Xy No wr S);case first =>
    go_wp2;go_loopw [11] (λM X=>∃(k:Nat),M=.int .i64 k/\k<=W/\o<=k+1/\Xy No wr X/\IM (λx=>!I4 x q[a]!) q o k=A) (λM _=>(C0 M).toNat);case atStart=>exact⟨W,rfl,BE _,b2,z,m.out.2.2.2.symm⟩
    case round =>
     clear z;obtain⟨k,rfl,aV,aP,z,hS⟩:=hrel;have I:∀t,t<d.size->wr.cell? ⟨g,off+t,AI⟩=AF (.int .u64 (G t)):=λt ht=>by rw[m.out.1];exact(m.out.2.1.keep z id).cell (by omega)
     have C:=BX (A2 hS z);clear hS z;by_cases p:o<=k
     ·have V:(o:Int)<=(k:Int):=by omega
      have aT:a<d.size:=by omega
      have aU:k<d.size:=by omega
      have aS:0<k:=by omega
      go_wp2;go_quiet (first|(go_at_call 223;refine I8 (Zw _ _ _)));go_wp2
      ·have B:(!I4 (G k) (G a))=true:=by assumption
       go_roundw;case rel=>exact⟨k-1,by congr 1;omega,by omega,by omega,C.out.2.drewN _,by rw[<- Mi p aS (by rw[<- m.out.1,<- m.out.1];exact B)];exact C.out.1⟩
       case measure=>simp[C0];omega
      ·have B:(!I4 (G k) (G a))=false:=by assumption
       go_meet;exact⟨by rw[<- C.out.1,Vb (IY (by rw[<- m.out.1,<- m.out.1];exact B))],C.out.2.drewN _⟩
     ·have V:¬(o:Int)<=(k:Int):=by omega
      go_wp2;go_quiet (first|(go_at_call 223;refine I8 (Zw _ _ _)));go_wp2;go_meet;exact⟨by rw[<- C.out.1,Vb (IZ p)],C.out.2.drewN _⟩
   case rest =>
    clear z;obtain⟨rfl,z⟩:=hcut;generalize wc=w3 at *;have E:=m.out.2.1.keep z id;have H:=HK.out.trans z (λ_ _ e=>e.elim);have I:∀t,t<d.size->w3.cell? ⟨g,off+t,AI⟩=AF (.int .u64 (G t)):=λt ht=>by rw[m.out.1];exact E.cell (by omega)
    have aA:∀t,t<d.size->w3.frozen? ⟨g,off+t,AI⟩=false:=λt _=>E.frozen t;by_cases J:A<o
    ·have Q:(A:Int)<(o:Int):=by omega
     have n:=E.swapD (i:=A) (j:=a) (by omega) (by omega);rw[<- m.out.1,<- m.out.1]at n;have O:P=(A,true,I1 q A a):=by rw[HD.out.2.1,if_pos J]
     have T:=BX (A3 O n H);clear n E H z O;by_cases aQ:A=a
     ·subst aQ;go_wp2;go_region;all_goals go_wp2
      go_ret2;rw[T.out.1];exact⟨rfl,T.out.2.1.1,T.out.2.2.trans T.out.2.1.2 (λ_ _ e=>e)⟩
     ·have ac:a<A:=by omega
      go_wp2;go_region;all_goals go_wp2
      go_ret2;rw[T.out.1];exact⟨rfl,T.out.2.1.1,T.out.2.2.trans T.out.2.1.2 (λ_ _ e=>e)⟩
    ·have Q:¬(A:Int)<(o:Int):=by omega
     have aB:=HD.out.rf J;have n:=E.swapD (i:=o) (j:=A) (by omega) (by omega);rw[<- m.out.1,<- m.out.1]at n;obtain⟨R,aN⟩:∃R,R=partLoop I4 a (o+1) (A-1) (I1 q o A):=⟨_,rfl⟩;have O:P=(R.1,false,I1 R.2 R.1 a):=by rw[HD.out.2.1,if_neg J,<- aN]
     have aL:(I1 q o A).size=d.size:=by rw[I2];exact ab
     have T:=BX (A5 O n H aN aL);clear n E H z O aN aL;go_upto_block 4 with(first|go_region|fail);go_cut [10,11] (λ_ vj S=>∃j:Nat,vj=.int .i64 j/\a<=j/\j<b/\R.1=j/\R.2.size=d.size/\Zj S g off R.2/\Xy (·=g) w S);case first =>
      have aC:∃(i j:Nat) (aM:Array Int),DA .i64 ((o:Int)+1)=.int .i64 i/\DA .i64 ((A:Int)-1)=.int .i64 j/\a<i/\i<=j+1/\j<b/\aM.size=d.size/\partLoop I4 a i j aM=R/\aM=I1 q o A :=
       ⟨o+1,A-1,I1 q o A,by go_num,by congr 1;omega,by omega,by omega,by omega,T.out.re,T.out.2.2.2.1.symm,rfl⟩
      obtain⟨i0,j0,d0,aD,aE,aF,aG,aH,aI,aJ,aK⟩:=aC;have aW:=T.out.2.1.1;have ae:=T.out.2.2.1.trans T.out.2.1.2 (λ_ _ e=>e);rw[<- aK]at aW;have Z:=BX (A5 aD aE aJ aW ae);clear aD aE aJ aK aW ae aB Q J;go_wp2;go_loopw [10,11] (λM vj S=>∃(i j:Nat) (q:Array Int),M=.int .i64 i/\vj=.int .i64 j/\a<i/\i<=j+1/\j<b/\q.size=d.size/\Zj S g off q/\Xy (·=g) w S/\partLoop I4 a i j q=R) (λM vj _=>(C0 vj+1-C0 M).toNat);case atStart=>exact⟨i0,j0,d0,Z.out.1,Z.out.2.1,aF,aG,aH,aI,Z.out.qd,Z.out.re,Z.out.qc⟩
      case round =>
       clear I aA aF aG aH aI b1 b2 b3 b4 Y ai;obtain⟨i,j,q,rfl,rfl,aj,Y,ad,af,hR,hK,hI⟩:=hrel;obtain⟨G,U⟩:∃G:Nat->Int,∀t,G t=q[t]!:=⟨λt=>q[t]!,λ_=>rfl⟩;obtain⟨o,K⟩:∃o,o=IL (λx=>I4 x q[a]!) q j i:=⟨_,rfl⟩;obtain⟨A,L⟩:∃A,A=IM (λx=>!I4 x q[a]!) q o j:=⟨_,rfl⟩;obtain⟨b1,b2,b3,b4,b5⟩:=Ot K L Y (by omega);have F:=partLoop_eq I4 a i j q;rw[<- K,<- L,hI]at F;have m:=BX (A4 U hR K L);have HK:=BX (A3 hK F b5);clear U hR hK F K L hI b5;go_upto_block 6 with fail;go_cut [10] (λv S=>v=.int .i64 o/\Xy No wr S);case first =>
        go_wp2;go_loopw [10] (λM X=>∃(k:Nat),M=.int .i64 k/\i<=k/\k<=j+1/\Xy No wr X/\IL (λx=>I4 x q[a]!) q j k=o) (λM _=>(((j:Nat):Int)+1-C0 M).toNat);case atStart=>exact⟨i,rfl,BE _,Y,Xy.refl _ _,m.out.2.2.1.symm⟩
        case round =>
         obtain⟨k,rfl,aP,aV,z,hS⟩:=hrel;have I:∀t,t<d.size->wr.cell? ⟨g,off+t,AI⟩=AF (.int .u64 (G t)):=λt ht=>by rw[m.out.1];exact(m.out.2.1.keep z id).cell (by omega)
         have C:=BX (A2 hS z);clear hS z;by_cases p:k<=j
         ·have V:(k:Int)<=(j:Nat):=by omega
          have aT:a<d.size:=by omega
          have aU:k<d.size:=by omega
          go_wp2;go_quiet (first|(go_at_call 223;refine I8 (Zw _ _ _)));go_wp2
          ·have B:I4 (G k) (G a)=true:=by assumption
           go_roundw;case rel=>exact⟨k+1,by go_num,by omega,by omega,C.out.2.drewN _,by rw[<- Dl p (by rw[<- m.out.1,<- m.out.1];exact B)];exact C.out.1⟩
           case measure=>simp[C0];omega
          ·have B:I4 (G k) (G a)=false:=by assumption
           go_meet;exact⟨by rw[<- C.out.1,Ka (IY (by rw[<- m.out.1,<- m.out.1];exact B))],C.out.2.drewN _⟩
         ·have V:¬(k:Int)<=(j:Nat):=by omega
          go_wp2;go_quiet (first|(go_at_call 223;refine I8 (Zw _ _ _)));go_wp2;go_meet;exact⟨by rw[<- C.out.1,Ka (IZ p)],C.out.2.drewN _⟩
       case rest =>
        obtain⟨rfl,z⟩:=hcut;generalize wc=w2 at *;go_upto_block 8 with fail;go_cut [11] (λv S=>v=.int .i64 A/\Xy No wr S);case first =>
         go_wp2;go_loopw [11] (λM X=>∃(k:Nat),M=.int .i64 k/\k<=j/\o<=k+1/\Xy No wr X/\IM (λx=>!I4 x q[a]!) q o k=A) (λM _=>(C0 M).toNat);case atStart=>exact⟨j,rfl,BE _,b2,z,m.out.2.2.2.symm⟩
         case round =>
          clear z;obtain⟨k,rfl,aV,aP,z,hS⟩:=hrel;have I:∀t,t<d.size->wr.cell? ⟨g,off+t,AI⟩=AF (.int .u64 (G t)):=λt ht=>by rw[m.out.1];exact(m.out.2.1.keep z id).cell (by omega)
          have C:=BX (A2 hS z);clear hS z;by_cases p:o<=k
          ·have V:(o:Int)<=(k:Int):=by omega
           have aT:a<d.size:=by omega
           have aU:k<d.size:=by omega
           have aS:0<k:=by omega
           go_wp2;go_quiet (first|(go_at_call 223;refine I8 (Zw _ _ _)));go_wp2
           ·have B:(!I4 (G k) (G a))=true:=by assumption
            go_roundw;case rel=>exact⟨k-1,by congr 1;omega,by omega,by omega,C.out.2.drewN _,by rw[<- Mi p aS (by rw[<- m.out.1,<- m.out.1];exact B)];exact C.out.1⟩
            case measure=>simp[C0];omega
           ·have B:(!I4 (G k) (G a))=false:=by assumption
            go_meet;exact⟨by rw[<- C.out.1,Vb (IY (by rw[<- m.out.1,<- m.out.1];exact B))],C.out.2.drewN _⟩
          ·have V:¬(o:Int)<=(k:Int):=by omega
           go_wp2;go_quiet (first|(go_at_call 223;refine I8 (Zw _ _ _)));go_wp2;go_meet;exact⟨by rw[<- C.out.1,Vb (IZ p)],C.out.2.drewN _⟩
        case rest =>
         clear z;obtain⟨rfl,z⟩:=hcut;generalize wc=w3 at *;have E:=m.out.2.1.keep z id;have H:=HK.out.1.trans z (λ_ _ e=>e.elim);by_cases J:A<o
         ·have Q:(A:Int)<(o:Int):=by omega
          have F:=HK.out.2.1;rw[if_pos J]at F;have N:=BX (A3 F E H);clear F E H z;go_wp2;go_meet;rw[N.out.1];exact⟨A,rfl,by omega,by omega,rfl,af,N.out.2.1,N.out.2.2⟩
         ·have Q:¬(A:Int)<(o:Int):=by omega
          have aB:=HK.out.2.2 J;have F:=HK.out.2.1;rw[if_neg J]at F;have I:∀t,t<d.size->w3.cell? ⟨g,off+t,AI⟩=AF (.int .u64 (G t)):=λt ht=>by rw[m.out.1];exact E.cell (by omega)
          have aA:∀t,t<d.size->w3.frozen? ⟨g,off+t,AI⟩=false:=λt _=>E.frozen t;have n:=E.swapD (i:=o) (j:=A) (by omega) (by omega);rw[<- m.out.1,<- m.out.1]at n;have N:=BX (A3 F n H);clear F E H z n;go_wp2;go_region;all_goals go_wp2
          go_roundw;case rel=>exact⟨o+1,A-1,I1 q o A,by go_num,by congr 1;omega,by omega,by omega,by omega,by rw[I2];exact af,N.out.2.1.1,N.out.2.2.trans N.out.2.1.2 (λ_ _ e=>e),N.out.1.symm⟩
          case measure=>simp[C0];omega
     case rest =>
      clear I aA aB Q J b1 b2 b3 b4;obtain⟨j,rfl,an,ad,aZ,ag,hR,hK⟩:=hcut;generalize wc=w5 at *;obtain⟨D,hD⟩:∃D,D=R.2:=⟨_,rfl⟩;rw[<- hD]at ag hR;obtain⟨G,U⟩:∃G:Nat->Int,∀t,G t=D[t]!:=⟨λt=>D[t]!,λ_=>rfl⟩;have I:∀t,t<d.size->w5.cell? ⟨g,off+t,AI⟩=AF (.int .u64 (G t)):=λt ht=>by rw[U];exact hR.cell (by omega)
      have aA:∀t,t<d.size->w5.frozen? ⟨g,off+t,AI⟩=false:=λt _=>hR.frozen t;have n:=hR.swapD (i:=j) (j:=a) (by omega) (by omega);rw[<- U,<- U]at n;have O:P=(j,false,I1 D j a):=by rw[T.out.1,aZ,hD]
      have N:=BX (A3 O n hK);clear n hR hK O hD aZ U;by_cases aQ:j=a
      ·subst aQ;go_wp2;go_region;all_goals go_wp2
       go_ret2;rw[N.out.1];exact⟨rfl,N.out.2.1.1,N.out.2.2.trans N.out.2.1.2 (λ_ _ e=>e)⟩
      ·have ac:a<j:=by omega
       go_wp2;go_region;all_goals go_wp2
       go_ret2;rw[N.out.1];exact⟨rfl,N.out.2.1.1,N.out.2.2.trans N.out.2.1.2 (λ_ _ e=>e)⟩
theorem Dq(h:i<b)(f:(!I4 d[i]! d[i-1]!)=true):K1 I4 d b i=K1 I4 d b (i+1):=by
 conv=>lhs;rw[K1]
 simp only[f,h,decide_true,Bool.and_true,if_true]
theorem Nl(h:¬i<b\/(!I4 d[i]! d[i-1]!)=false):K1 I4 d b i=i:=by rw[K1];rcases h with h|h<;>simp[h]
theorem QY(b:Nat)(d:Array Int):∀(n i:Nat),b-i=n->i<=K1 I4 d b i/\(i<=b->K1 I4 d b i<=b):=by
 intro n
 induction n with
 | zero=>intro i h;rw[Nl (IZ (by omega))];exact⟨BE _,λh=>h⟩
 | succ n g =>
  intro i h;cases f:(!I4 d[i]! d[i-1]!)with
  | false=>rw[Nl (IY f)];exact⟨BE _,λh=>h⟩
  | true =>
   rw[Dq (by omega) f];have:=g (i+1) (by omega);exact⟨by omega,λ_=>this.2 (by omega)⟩
theorem On:∀(j:Nat) (d:Array Int),(Kp I4 j d).size=d.size:=by
 intro j
 induction j with
 | zero=>intro d;rfl
 | succ j f =>
  intro d;rw[Kp]
  split
  ·rfl
  ·rw[f,I2]
theorem Pm(h:j<b)(f:(!I4 d[j]! d[j-1]!)=false):L0 I4 b j d=L0 I4 b (j+1) (I1 d j (j-1)):=by
 conv=>lhs;rw[L0]
 simp[h,f]
theorem Me(h:¬j<b\/(!I4 d[j]! d[j-1]!)=true):L0 I4 b j d=d:=by
 rw[L0];rcases h with h|h
 ·simp[h]
 ·split
  ·simp
  ·simp
theorem X4(b:Nat):∀(n j:Nat) (d:Array Int),b-j=n->(L0 I4 b j d).size=d.size:=by
 intro n
 induction n with
 | zero=>intro j d h;rw[Me (IZ (by omega))]
 | succ n g =>
  intro j d h;cases f:(!I4 d[j]! d[j-1]!)with
  | true=>rw[Me (IY f)]
  | false=>rw[Pm (by omega) f,g _ _ (by omega),I2]
theorem Om(g:0<j)(f:(!I4 d[j]! d[j-1]!)=false):Kp I4 j d=Kp I4 (j-1) (I1 d j (j-1)):=by
 obtain⟨k,rfl⟩:∃k,j=k+1:=⟨j-1,by omega⟩
 conv=>lhs;rw[Kp]
 simp only[L3]at f⊢;simp[f]
theorem Fn(h:j=0\/(!I4 d[j]! d[j-1]!)=true):Kp I4 j d=d:=by
 cases j with
 | zero=>rfl
 | succ k =>
  rw[Kp];rcases h with h|h
  ·cases h
  ·simp only[L3]at h;simp[h]
theorem RA{w:AC}{g off cap a b:Nat}{d:Array Int}(h:Zj w g off d)(aS:a<b)(hb:b<=d.size)(aX:d.size<=1099511627776) :
  DJ Tryz.prog 222 #[.slice (AF ⟨g,off,AI⟩) d.size cap,.int .i64 a,.int .i64 b] w λe w' =>
   e=.returned (.bool (L4 I4 d a b).2)/\Zj w' g off (L4 I4 d a b).1/\Xy (·=g) w w':=by
 obtain⟨R,hR⟩:∃R,R=L4 I4 d a b:=⟨_,rfl⟩;rw[<- hR];unfold L4 at hR;have aU:(b:Int)<=1099511627776:=by omega
 have aT:(a:Int)<=1099511627776:=by omega
 have HR:=BX hR;clear hR;go_enter Tryz.func222,Tryz.ntmps222;go_wp2;go_loopw [7,8] (λvi vs wr=>∃(i s:Nat) (dk:Array Int),vi=.int .i64 i/\s<=5/\vs=.int .i64 (5-(s:Int))/\a<i/\i<=b/\dk.size=d.size/\Zj wr g off dk/\Xy (·=g) w wr/\L5 I4 a b s i dk=R) (λ_ vs _=>(5-C0 vs).toNat);case atStart=>exact⟨a+1,5,d,by go_num,BE _,rfl,by omega,by omega,rfl,h,Xy.refl _ _,HR.out.symm⟩
 case round =>
  clear h;obtain⟨i,s,dj,rfl,aW,rfl,aP,aH,aO,W,hK,B⟩:=hrel;cases s with
  | zero =>
   have F:=BX (A3 B W hK);clear B W hK;have e:(5:Int)-((0:Nat):Int)=5:=rfl;rw[e];go_wp2;go_ret;rw[<- F.out.1];exact⟨rfl,F.out.2.1,F.out.2.2⟩
  | succ s =>
   have aK:(5:Int)-((s+1:Nat):Int)<5:=by omega
   obtain⟨z,hz⟩:∃z:Int,z=(5:Int)-((s+1:Nat):Int):=⟨_,rfl⟩;rw[<- hz]at aK⊢;have aY:0<=z:=by omega
   have HZ:=BX hz;clear hz;rw[L5]at B;simp only[]at B;obtain⟨m,Y⟩:∃m,m=K1 I4 dj b i:=⟨_,rfl⟩;rw[<- Y]at B;have b1:=QY b dj _ i rfl;rw[<- Y]at b1;obtain⟨b1,b2⟩:=b1;have b2:=b2 aH;obtain⟨G,hG⟩:∃G:Nat->Int,∀t,G t=dj[t]!:=⟨λt=>dj[t]!,λ_=>rfl⟩;have F:=BX (A5 hG W Y hK B);clear hG W Y hK B;go_upto_block 2 with fail;go_cut [7] (λv O=>v=.int .i64 m/\Xy No wr O);case first =>
    go_wp2;go_loopw [7] (λvi K=>∃(k:Nat),vi=.int .i64 k/\i<=k/\k<=b/\Xy No wr K/\K1 I4 dj b k=m) (λvi _=>((b:Int)-C0 vi).toNat);case atStart=>exact⟨i,rfl,BE _,aH,Xy.refl _ _,F.out.2.2.1.symm⟩
    case round =>
     obtain⟨k,rfl,aV,aN,Z,P⟩:=hrel;have X:∀t,t<d.size->wr.cell? ⟨g,off+t,AI⟩=AF (.int .u64 (G t)):=λt ht=>by rw[F.out.1];exact(F.out.2.1.keep Z id).cell (by omega)
     have f:=BX (A2 P Z);clear P Z;by_cases M:k<b
     ·have S:(k:Int)<(b:Int):=by omega
      have aJ:k<d.size:=by omega
      go_wp2;go_quiet (first|(go_at_call 223;refine I8 (Zw _ _ _)));go_wp2
      ·have q:(!I4 (G k) (G (k-1)))=true:=by assumption
       go_roundw;case rel=>exact⟨k+1,by go_num,by omega,by omega,f.out.2.drewN _,by rw[<- Dq M (by rw[<- F.out.1,<- F.out.1];exact q)];exact f.out.1⟩
       case measure=>simp[C0];omega
      ·have q:(!I4 (G k) (G (k-1)))=false:=by assumption
       go_meet;exact⟨by rw[<- f.out.1,Nl (IY (by rw[<- F.out.1,<- F.out.1];exact q))],f.out.2.drewN _⟩
     ·have S:¬(k:Int)<(b:Int):=by omega
      go_wp2;go_quiet (first|(go_at_call 223;refine I8 (Zw _ _ _)));go_wp2;go_meet;exact⟨by rw[<- f.out.1,Nl (IZ M)],f.out.2.drewN _⟩
   case rest =>
    obtain⟨rfl,Z⟩:=hcut;generalize wc=w2 at *;have I:=F.out.2.1.keep Z id;have N:=F.out.2.2.2.1.trans Z (λ_ _ e=>e.elim);by_cases C:m=b
    ·have Q:(m:Int)=(b:Int):=by omega
     have B:=F.out.re;rw[if_pos C]at B;have J:=BX (A3 B I N);have aL:((m:Int)==(b:Int))=true:=by simpa using Q
     clear B I N Z C Q;go_wp2;go_ret;rw[<- J.out.1];exact⟨rfl,J.out.2.1,J.out.2.2⟩
    ·have aL:((m:Int)==(b:Int))=false:=by simp;omega
     by_cases aF:b-a<50
     ·have aG:(b:Int)-(a:Int)<50:=by omega
      have B:=F.out.re;rw[if_neg C,if_pos aF]at B;have J:=BX (A3 B I N);clear B I N Z C;go_wp2;go_ret;rw[<- J.out.1];exact⟨rfl,J.out.2.1,J.out.2.2⟩
     ·have aG:¬(b:Int)-(a:Int)<50:=by omega
      have B:=F.out.re;rw[if_neg C,if_neg aF]at B;have Q:m<b:=by omega
      obtain⟨D1,U⟩:∃D1,D1=I1 dj m (m-1):=⟨_,rfl⟩;rw[<- U]at B;obtain⟨T,o⟩:∃T,T=(if m-a >= 2 then Kp I4 (m-1) D1 else D1):=⟨_,rfl⟩;rw[<- o]at B;obtain⟨D3,p⟩:∃D3,D3=(if b-m >= 2 then L0 I4 b (m+1) T else T):=⟨_,rfl⟩;rw[<- p]at B;have s1:D1.size=d.size:=by rw[U,I2];exact aO
      have s2:T.size=d.size:=by rw[o];split;rw[On,s1];exact s1
      have s3:D3.size=d.size:=by rw[p];split;rw[X4 b _ _ _ rfl,s2];exact s2
      have X:∀t,t<d.size->w2.cell? ⟨g,off+t,AI⟩=AF (.int .u64 (G t)):=λt ht=>by rw[F.out.1];exact I.cell (by omega)
      have aC:∀t,t<d.size->w2.frozen? ⟨g,off+t,AI⟩=false:=λt _=>I.frozen t;have A:=I.swapD (i:=m) (j:=m-1) (by omega) (by omega);rw[<- F.out.1,<- F.out.1,<- U]at A;have J:=BX (A5 B A N o p);clear B I N Z C A U o p;have aR:m<d.size:=by omega
      have aQ:0<m:=by omega
      go_upto_region 11 with fail;go_cut [] (λO=>Zj O g off D1/\Xy (·=g) w O);case first =>
       go_wp2;go_region;all_goals go_wp2
       go_meet;exact⟨J.out.2.1.1,J.out.2.2.1.trans J.out.2.1.2 (λ_ _ e=>e)⟩
      case rest =>
       clear X aC;obtain⟨r1,k1⟩:=hcut;generalize wc=w3 at *;go_upto_if 61 with fail;go_cut [] (λO=>Zj O g off T/\Xy (·=g) w O);case first =>
        by_cases h2:m-a >= 2
        ·have aB:(2:Int)<=(m:Int)-(a:Int):=by omega
         have o:=J.out.qd;rw[if_pos h2]at o;have L:=BX (A3 o r1 k1);clear o r1 k1;go_wp2;go_loopw [9] (λvj K=>∃(k:Nat) (D:Array Int),vj=.int .i64 k/\k<d.size/\D.size=d.size/\Zj K g off D/\Xy (·=g) w K/\Kp I4 k D=T) (λvj _=>(C0 vj).toNat);case atStart=>exact⟨m-1,D1,by congr 1;omega,by omega,s1,L.out.2.1,L.out.2.2,L.out.1.symm⟩
         case round =>
          obtain⟨k,D,rfl,aJ,aD,n,H,P⟩:=hrel;obtain⟨E,V⟩:∃E:Nat->Int,∀t,E t=D[t]!:=⟨λt=>D[t]!,λ_=>rfl⟩;have X:∀t,t<d.size->wr.cell? ⟨g,off+t,AI⟩=AF (.int .u64 (E t)):=λt ht=>by rw[V];exact n.cell (by omega)
          have aC:∀t,t<d.size->wr.frozen? ⟨g,off+t,AI⟩=false:=λt _=>n.frozen t;by_cases aI:0<k
          ·have S:(1:Int)<=(k:Int):=by omega
           have aM:k-1<d.size:=by omega
           have f:=BX (A4 P V n H);clear P V n H;go_wp2;go_quiet (first|(go_at_call 223;refine I8 (Zw _ _ _)));go_wp2
           ·have q:(!I4 (E k) (E (k-1)))=true:=by assumption
            go_meet;have e:T=D:=by rw[<- f.out.1,Fn (IY (by rw[<- f.out.2.1,<- f.out.2.1];exact q))]
            rw[e];exact⟨f.out.2.2.1.keep ((Xy.refl No _).drewN _) id,f.out.2.2.2.drewN _⟩
           ·have q:(!I4 (E k) (E (k-1)))=false:=by assumption
            go_region;all_goals go_wp2
            go_roundw;case rel =>have A:=(f.out.2.2.1.keep ((Xy.refl No wr).drewN (nq+1)) id).swap (i:=k) (j:=k-1) (by omega) (by omega);rw[<- f.out.2.1,<- f.out.2.1]at A;exact⟨k-1,I1 D k (k-1),by congr 1;omega,aM,by rw[I2];exact aD,A.1,(f.out.2.2.2.drewN (nq+1)).trans A.2 (λ_ _ e=>e),by rw[<- f.out.1,Om aI (by rw[<- f.out.2.1,<- f.out.2.1];exact q)]⟩
            case measure=>simp[C0];omega
          ·have S:¬(1:Int)<=(k:Int):=by omega
           have e:T=D:=by rw[<- P,Fn (IZ (by omega))]
           have f:=BX (A3 e n H);clear P V n H e;go_wp2;go_meet;rw[f.out.1];exact f.out.2
        ·have aB:¬(2:Int)<=(m:Int)-(a:Int):=by omega
         have o:=J.out.qd;rw[if_neg h2]at o;have L:=BX (A3 o r1 k1);clear o r1 k1;go_wp2;go_meet;rw[L.out.1];exact L.out.2
       case rest =>
        clear r1 k1;obtain⟨r2,k2⟩:=hcut;generalize wc=w4 at *;have aE:∀O,Zj O g off D3->Xy (·=g) w O->∃(i s:Nat) (dk:Array Int),DA .i64 (m:Int)=.int .i64 i/\s<=5/\DA .i64 (z+1)=.int .i64 (5-(s:Int))/\a<i/\i<=b/\dk.size=d.size/\Zj O g off dk/\Xy (·=g) w O/\L5 I4 a b s i dk=R:=λO r3 k3 =>
         ⟨m,s,D3,rfl,by omega,by have:=HZ.out;congr 1;omega,by omega,by omega,s3,r3,k3,J.out.1⟩
        have aA:=BX aE;clear aE;go_upto_if 98 with fail;focus
         by_cases h2:b-m >= 2
         ·have aB:(2:Int)<=(b:Int)-(m:Int):=by omega
          have p:=J.out.re;rw[if_pos h2]at p;have L:=BX (A3 p r2 k2);clear p r2 k2;go_wp2;go_loopw [10] (λvj K=>∃(k:Nat) (D:Array Int),vj=.int .i64 k/\0<k/\k<=b/\D.size=d.size/\Zj K g off D/\Xy (·=g) w K/\L0 I4 b k D=D3) (λvj _=>((b:Int)-C0 vj).toNat);case atStart=>exact⟨m+1,T,by go_num,by omega,by omega,s2,L.out.2.1,L.out.2.2,L.out.1.symm⟩
          case round =>
           obtain⟨k,D,rfl,aI,aN,aD,n,H,P⟩:=hrel;obtain⟨E,V⟩:∃E:Nat->Int,∀t,E t=D[t]!:=⟨λt=>D[t]!,λ_=>rfl⟩;have X:∀t,t<d.size->wr.cell? ⟨g,off+t,AI⟩=AF (.int .u64 (E t)):=λt ht=>by rw[V];exact n.cell (by omega)
           have aC:∀t,t<d.size->wr.frozen? ⟨g,off+t,AI⟩=false:=λt _=>n.frozen t;by_cases M:k<b
           ·have S:(k:Int)<(b:Int):=by omega
            have aJ:k<d.size:=by omega
            have f:=BX (A4 P V n H);clear P V n H;go_wp2;go_quiet (first|(go_at_call 223;refine I8 (Zw _ _ _)));go_wp2
            ·have q:(!I4 (E k) (E (k-1)))=true:=by assumption
             go_roundw;case rel =>
              have e:D3=D:=by rw[<- f.out.1,Me (IY (by rw[<- f.out.2.1,<- f.out.2.1];exact q))]
              exact aA.out _ (by rw[e];exact f.out.2.2.1.keep ((Xy.refl No _).drewN _) id) (f.out.2.2.2.drewN _)
             case measure=>have:=HZ.out;simp[C0];omega
            ·have q:(!I4 (E k) (E (k-1)))=false:=by assumption
             go_region;all_goals go_wp2
             go_roundw;case rel =>have A:=(f.out.2.2.1.keep ((Xy.refl No wr).drewN (nq+1)) id).swap (i:=k) (j:=k-1) (by omega) (by omega);rw[<- f.out.2.1,<- f.out.2.1]at A;exact⟨k+1,I1 D k (k-1),by go_num,by omega,by omega,by rw[I2];exact aD,A.1,(f.out.2.2.2.drewN (nq+1)).trans A.2 (λ_ _ e=>e),by rw[<- f.out.1,Pm M (by rw[<- f.out.2.1,<- f.out.2.1];exact q)]⟩
             case measure=>simp[C0];omega
           ·have S:¬(k:Int)<(b:Int):=by omega
            have e:D3=D:=by rw[<- P,Me (IZ (by omega))]
            have f:=BX (A3 e n H);clear P V n H e;go_wp2;go_roundw;case rel=>exact aA.out _ (by rw[f.out.1];exact f.out.2.1) f.out.2.2
            case measure=>have:=HZ.out;simp[C0];omega
         ·have aB:¬(2:Int)<=(b:Int)-(m:Int):=by omega
          have p:=J.out.re;rw[if_neg h2]at p;have L:=BX (A3 p r2 k2);clear p r2 k2;go_wp2;go_roundw;case rel=>exact aA.out _ (by rw[L.out.1];exact L.out.2.1) L.out.2.2
          case measure=>have:=HZ.out;simp[C0];omega
def ZD (w:AC)(s:Nat)(n:Nat):Prop:=w.heap[s]?=AF (.cells #[.int .u64 n] 331 (0,0))
theorem QK(w:AC)(blk off:Nat)(v d:Value):(w.setCell ⟨blk,off,AI⟩ v).setCell ⟨blk,off,AI⟩ d=w.setCell ⟨blk,off,AI⟩ d:=by
 rw[L6,L6,mapBlock_mapBlock,L6];congr 1
 funext c
 simp
theorem U0{w:AC}{s X:Nat}(h:ZD w s X)(E:X<18446744073709551616) :
  DJ Tryz.prog 230 #[.pointer (AF ⟨s,0,AI⟩)] w λe q=>e=.returned (.int .u64 (xorNextN X:Nat))/\ZD q s (xorNextN X)/\Xy (·=s) w q:=by
 have D:=Qq h 0;have M:=Qg h 0;simp at D;obtain⟨A,f⟩:∃A,A=X ^^^ (X*8192%18446744073709551616):=⟨_,rfl⟩;obtain⟨B,g⟩:∃B,B=A ^^^ (A/128):=⟨_,rfl⟩;obtain⟨C,j⟩:∃C,C=B ^^^ (B*131072%18446744073709551616):=⟨_,rfl⟩;have H:A<18446744073709551616:=by rw[f];exact EE (n:=64) (by omega) (by omega)
 have I:B<18446744073709551616:=by rw[g];exact EE (n:=64) (by omega) (by omega)
 have J:bits .xor .u64 (X:Int) (IntKind.u64.wrap ((X:Int)*8192))=(A:Int):=by rw[F0,show((X:Int)*8192%18446744073709551616)=((X*8192%18446744073709551616:Nat):Int)by omega,L7 _ _ E (by omega),f]
 have K:bits .xor .u64 (A:Int) ((A:Int)/128)=(B:Int):=by rw[show((A:Int)/128)=((A/128:Nat):Int)by omega,L7 _ _ H (by omega),g]
 have L:bits .xor .u64 (B:Int) (IntKind.u64.wrap ((B:Int)*131072))=(C:Int):=by rw[F0,show((B:Int)*131072%18446744073709551616)=((B*131072%18446744073709551616:Nat):Int)by omega,L7 _ _ I (by omega),j]
 have m:xorNextN X=C:=by unfold xorNextN;simp only[];rw[<- f,<- g,<- j]
 rw[m];have G:∀v o,(w.setCell ⟨s,0,AI⟩ v).setCell ⟨s,0,AI⟩ o=w.setCell ⟨s,0,AI⟩ o:=QK w s 0;have d:ZD ((w.setCell ⟨s,0,AI⟩ (.int .u64 C)).drewN 3) s C/\Xy (·=s) w ((w.setCell ⟨s,0,AI⟩ (.int .u64 C)).drewN 3):=by have k:=Qz (i:=0) (u:=.int .u64 C) h;refine⟨?_,(Xy.setCell (F:=(·=s)) (Xy.refl _ _) (p:=⟨s,0,AI⟩) (.inl rfl) _).drewN 3⟩;have:((w.setCell ⟨s,0,AI⟩ (.int .u64 C)).drewN 3).heap[s]?=(w.setCell ⟨s,0,AI⟩ (.int .u64 C)).heap[s]?:=rfl;unfold ZD;rw[this,k];simp
 have z:=BX d;clear f g j m h d;go_enter Tryz.func230,Tryz.ntmps230;go_wp2;go_region;all_goals go_wp2
 all_goals go_region
 all_goals go_wp2
 all_goals go_region
 all_goals go_wp2
 go_ret;exact⟨rfl,z.out⟩
def brkN (a n m:Nat)(f:UInt64×Array Int)(d:Nat):Nat->UInt64×Array Int
 | 0=>f
 | k+1=>L8 a n m (brkN a n m f d k) (d+k)
theorem GL(a n m:Nat)(f:UInt64×Array Int)(d:Nat):∀k,(brkN a n m f d k).2.size=f.2.size:=by
 intro k
 induction k with
 | zero=>rfl
 | succ k g=>simp only[brkN,L8];rw[I2,g]
theorem Wy(f:b-a=n)(h:8<=n):L9 d a b=(brkN a n (1 <<< bitsLen n) (LA n,d) (a+n/4*2-1) 3).2:=by unfold L9;simp only[f];rw[if_pos h];rfl
theorem S7{w:AC}{g off cap a b:Nat}{d:Array Int}(h:Zj w g off d)(aN:12<b-a)(hb:b<=d.size)(aF:d.size<65536) :
  DJ Tryz.prog 219 #[.slice (AF ⟨g,off,AI⟩) d.size cap,.int .i64 a,.int .i64 b] w λe w'=>e=.returned (.tuple #[])/\Zj w' g off (L9 d a b)/\Xy (·=g) w w':=by
 obtain⟨n,hn⟩:∃n:Nat,b-a=n:=⟨_,rfl⟩;obtain⟨q,hq⟩:∃q:Nat,n/4=q:=⟨_,rfl⟩;obtain⟨m,P⟩:∃m:Nat,m=1 <<< bitsLen n:=⟨_,rfl⟩;have e0:(b:Int)-(a:Int)=(n:Int):=by omega
 have e1:(n:Int).tdiv 4=(q:Int):=by rw[<- hq];rfl
 have aW:(8:Int)<=(n:Int):=by omega
 have aX:(n:Int)<=1099511627776:=by omega
 have ac:(q:Int)<=1099511627776:=by omega
 have aO:(a:Int)<=1099511627776:=by omega
 have E:=Wy (d:=d) hn (by omega);rw[hq,<- P]at E;have aU:m<=2*n:=by rw[P,LB];exact two_pow_bitsLen_le (by omega)
 have aT:1<=m:=by rw[P,LB];exact Nat.two_pow_pos _
 have aV:(m:Int)<=1099511627776:=by omega
 have aJ:(1:Int)<=(m:Int):=by omega
 obtain⟨f,O⟩:∃f:Nat,f=a+q*2-1:=⟨_,rfl⟩;have aL:(a:Int)+(q:Int)*2-1=(f:Int):=by omega
 have ad:a<=f:=by omega
 have ae:f+2<b:=by omega
 rw[<- O]at E;rw[E];have J:=KO n (by omega);rw[<- P]at J;have aR:=h.lt;have kA:Xy No w (w.alloc (.cells #[.int .u64 n] 331)):=(Xy.refl _ _).alloc _;have Y:ZD (w.alloc (.cells #[.int .u64 n] 331)) w.heap.size n:=Qy w _;have aD:=h.keep kA id;have HA:=BX (A7 Y aD kA hn hq P O);clear Y aD kA hn hq P O h E;have K:(brkN a n m (LA n,d) f 0).1.toNat=n:=by show(LA n).toNat=n;rw[UInt64.toNat_ofNat'];omega
 have aM:=BX aF;clear aF;go_enter Tryz.func219,Tryz.ntmps219;go_upto_block 0 with(go_at_call 229;refine(J _).mono ?_;rintro e w' ⟨rfl,rfl⟩);go_wp2;go_loopw [9] (λvi wr=>∃(k:Nat),vi=.int .i64 ((f+k:Nat):Int)/\k<=3/\ZD wr w.heap.size (brkN a n m (LA n,d) f k).1.toNat/\Zj wr g off (brkN a n m (LA n,d) f k).2/\Xy (·=g) w wr) (λvi _=>((f:Int)+3-C0 vi).toNat);case atStart=>exact⟨0,by go_num,by omega,by rw[K];exact HA.out.1,HA.out.2.1,HA.out.2.2.1.no⟩
 case round =>
  clear K;obtain⟨k,rfl,aS,hB,T,hK⟩:=hrel;by_cases hk:k<3
  ·have Z:((f+k:Nat):Int)<=(a:Int)+(q:Int)*2+1:=by omega
   have F:=GL a n m (LA n,d) f k;have M:brkN a n m (LA n,d) f (k+1)=L8 a n m (brkN a n m (LA n,d) f k) (f+k):=rfl;generalize brkN a n m (LA n,d) f k=st at *;obtain⟨r,dk⟩:=st;simp only[]at hB T F;obtain⟨X,U⟩:∃X,X=xorNextN r.toNat:=⟨_,rfl⟩;have aG:X<18446744073709551616:=by rw[U];exact xorNextN_lt _ r.toNat_lt
   obtain⟨o,ho⟩:∃o,o=X &&& (m-1):=⟨_,rfl⟩;have ab:o<=m-1:=by rw[ho];exact Nat.and_le_right
   have eb:bits .and .u64 (X:Int) ((m:Int)-1)=(o:Int):=by rw[show(m:Int)-1=((m-1:Nat):Int)by omega,bits_and_u64_nat _ _ aG (by omega),ho]
   obtain⟨A,z⟩:∃A,A=(if o >= n then o-n else o):=⟨_,rfl⟩;have aK:A<n:=by rw[z];split<;>omega
   have W:L8 a n m (r,dk) (f+k)=(xorNext r,I1 dk (f+k) (a+A)):=by unfold L8;simp only[];rw[xorNext_toNat,<- U,<- ho,<- z]
   rw[W]at M;have aA:=U0 hB r.toNat_lt;rw[<- U]at aA;have aE:X=(xorNext r).toNat:=by rw[xorNext_toNat,<- U]
   have aZ:(o:Int)<=1099511627776:=by omega
   have H:=BX (A5 T hK M aE F);clear T hK M W aE U ho hB;obtain⟨y,hy⟩:∃y:Nat,y=f+k:=⟨_,rfl⟩;rw[<- hy]at Z⊢;have af:a<=y:=by omega
   have ag:y<b:=by omega
   have Q:=BX (A2 hy F);clear hy;go_upto_if 43 with(go_at_call 230;refine aA.mono ?_;rintro e w5 ⟨rfl,R,L⟩);go_cut [10] (λv B=>v=.int .i64 (A:Int)/\B=w5);case first =>
    by_cases aB:n<=o
    ·have aC:(n:Int)<=(o:Int):=by omega
     have e:A=o-n:=by rw[z,if_pos aB]
     clear z;go_wp2;go_meet;exact⟨by congr 1;omega,rfl⟩
    ·have aC:¬(n:Int)<=(o:Int):=by omega
     have e:A=o:=by rw[z,if_neg aB]
     clear z;go_wp2;go_meet;exact⟨by congr 1;omega,rfl⟩
   case rest =>
    obtain⟨rfl,rfl⟩:=hcut;have D:=H.out.1.keep L (λe=>by have e:g=w.heap.size:=e;omega);have S:=H.out.2.1.trans L (λy hy e=>by have e:y=w.heap.size:=e;omega);obtain⟨G,hG⟩:∃G:Nat->Int,∀t,G t=dk[t]!:=⟨λt=>dk[t]!,λ_=>rfl⟩;have aP:∀t,t<d.size->wc.cell? ⟨g,off+t,AI⟩=AF (.int .u64 (G t)):=λt ht=>by rw[hG];exact D.cell (by omega)
    have aQ:∀t,t<d.size->wc.frozen? ⟨g,off+t,AI⟩=false:=λt _=>D.frozen t;have N:=D.swapD (i:=y) (j:=a+A) (by omega) (by omega);rw[<- hG,<- hG]at N;have I:∀B,Zj B g off (I1 dk y (a+A))->Xy (·=g) w B->ZD B w.heap.size X->∃(k':Nat),DA .i64 ((y:Int)+1)=.int .i64 ((f+k':Nat):Int)/\k'<=3/\ZD B w.heap.size (brkN a n m (LA n,d) f k').1.toNat/\Zj B g off (brkN a n m (LA n,d) f k').2/\Xy (·=g) w B:=λB h1 h2 h3 =>
     ⟨k+1,by have:=Q.out.1;congr 1;omega,by omega,by rw[H.out.qc];simp only[];rw[<- H.out.qd];exact h3,by rw[H.out.qc,<- Q.out.1];exact h1,h2⟩
    have V:∀B,Xy (·=g) wc B->ZD B w.heap.size X:=λB kx=>kx.heap R (λe=>by have e:w.heap.size=g:=e;omega);have p:=BX (A4 N S I V);clear D S hG N I V R L z F;have aY:a+A<d.size:=by omega
    have ah:y<d.size:=by omega
    by_cases C:y=a+A
    ·have HE:=BX C;subst C;go_wp2;go_region;all_goals go_wp2
     go_roundw;case rel=>exact p.out.qc _ p.out.1.1 (p.out.2.1.trans p.out.1.2 (λ_ _ e=>e)) (p.out.2.2.2 _ p.out.1.2)
     case measure=>have:=Q.out.1;simp[C0];omega
    ·by_cases aH:y<a+A
     ·go_wp2;go_region;all_goals go_wp2
      go_roundw;case rel=>exact p.out.qc _ p.out.1.1 (p.out.2.1.trans p.out.1.2 (λ_ _ e=>e)) (p.out.2.2.2 _ p.out.1.2)
      case measure=>have:=Q.out.1;simp[C0];omega
     ·have aI:a+A<y:=by omega
      go_wp2;go_region;all_goals go_wp2
      go_roundw;case rel=>exact p.out.qc _ p.out.1.1 (p.out.2.1.trans p.out.1.2 (λ_ _ e=>e)) (p.out.2.2.2 _ p.out.1.2)
      case measure=>have:=Q.out.1;simp[C0];omega
  ·have Z:¬((f+k:Nat):Int)<=(a:Int)+(q:Int)*2+1:=by omega
   obtain rfl:k=3:=by omega
   have H:=BX (A2 T hK);clear T hK hB;go_wp2
   go_end0
   exact⟨rfl,H.out.1,H.out.2⟩
structure Bf (a0 b0:Nat)(d0:Array Int)(a b:Nat)(dk:Array Int):Prop where
 size:dk.size=d0.size
 ab:a<=b
 bs:b<=d0.size
 below:LC I4 a b dk
 done:∀R,LD a b dk R->LF I4 a b R->LD a0 b0 d0 R/\LF I4 a0 b0 R
theorem Bf.perm(h:Bf f g d0 a b dk)(p:LD a b dk d):Bf f g d0 a b d :=
 ⟨by rw[p.1,h.size],h.ab,h.bs,h.below.perm (by rw[h.size];exact h.bs) p,λR i j=>h.done R (permIn_trans _ _ _ a b p i) j⟩
def U4 (w:AC)(g off a b:Nat)(d:Array Int)(e:Ending)(f:AC):Prop :=
 e=.returned (.tuple #[])/\∃d',LD a b d d'/\LF I4 a b d'/\Zj f g off d'/\Xy (·=g) w f
theorem T7:∀(N:Nat) (w:AC) (d:Array Int) (a b l:Nat),b-a<=N->Zj w g off d->a<=b->b<=d.size->Hid (d.size<65536)->l<=1000->LC I4 a b d ->
  DJ Tryz.prog 211 #[.slice (AF ⟨g,off,AI⟩) d.size cap,.int .i64 a,.int .i64 b,.int .i64 l] w (U4 w g off a b d):=by
 intro N
 induction N using Nat.strongRecOn with
 | _ N ih =>
 intro w d a b l hN h aq hb Q hl hB;have an:∀(w:AC) (d:Array Int) (a' b' l:Nat),b'-a'<b-a->Zj w g off d->a'<=b'->b'<=d.size->Hid (d.size<65536)->l<=1000->LC I4 a' b' d ->
  DJ Tryz.prog 211 #[.slice (AF ⟨g,off,AI⟩) d.size cap,.int .i64 a',.int .i64 b',.int .i64 l] w (U4 w g off a' b' d):=λw d a' b' l Y=>ih (b'-a') (by omega) w d a' b' l (BE _)
 have aJ:=BX an;clear an ih hN;have aG:Bf a b d a b d:=⟨rfl,aq,hb,hB,λR Y h2=>⟨Y,h2⟩⟩;have bN:d.size<=1099511627776:=by have:=Q.out;omega
 have au:(l:Int)<=1099511627776:=by omega
 go_enter Tryz.func211,Tryz.ntmps211;go_wp2;go_loopw [1,2,3,8,9] (λva vb vl ax ay wr=>∃(A B L:Nat) (wb wp:Bool) (dk:Array Int),va=.int .i64 A/\vb=.int .i64 B/\vl=.int .i64 L/\L<=1000/\ax=.bool wb/\ay=.bool wp/\B-A<=b-a/\Zj wr g off dk/\Xy (·=g) w wr/\Bf a b d A B dk) (λva vb _ _ _ _=>(C0 vb-C0 va).toNat);case atStart=>exact⟨a,b,l,true,true,d,rfl,rfl,rfl,hl,rfl,rfl,BE _,h,Xy.refl _ _,aG⟩
 case round =>
  clear h aG hB hl au;obtain⟨A,B,L,wb,wp,dk,rfl,rfl,rfl,hL,rfl,rfl,ae,hR,hK,k⟩:=hrel;obtain⟨n,hn⟩:∃n:Nat,B-A=n:=⟨_,rfl⟩;have aF:=k.ab;have ai:=k.bs;have aP:=k.size;have e0:(B:Int)-(A:Int)=(n:Int):=by omega
  have bF:(L:Int)<=1099511627776:=by omega
  have bD:(A:Int)<=1099511627776:=by omega
  have bE:(B:Int)<=1099511627776:=by omega
  have bJ:(n:Int)<=1099511627776:=by omega
  have aI:SWO I4:=swo_ltInt;by_cases aR:n<=12
  ·have ac:(n:Int)<=12:=by omega
   have aE:=TD (cap:=cap) hR aF (by omega) (by omega);rw[aP]at aE;have I:=insertionSort_holds aI dk A B aF (by omega);have hd:=k.done _ I.1 I.2;have j:=BX (A3 aE hd hK);clear aE I hd hK hR k aR aJ Q;go_wp2_with(go_at_call 217;refine j.out.1.mono ?_;rintro e w2 ⟨rfl,p,o⟩);refine FC (LH rfl _ _ _) rfl ?_;exact⟨rfl,_,j.out.2.1.1,j.out.2.1.2,p,j.out.2.2.trans o (λ_ _ e=>e)⟩
  ·have ac:¬(n:Int)<=12:=by omega
   by_cases aV:L=0
   ·subst aV;have M:=RZ (cap:=cap) hR (a:=A) (b:=B) (by omega) (by omega) (by omega);rw[aP]at M;have I:=heapSort_holds aI dk A B aF (by omega);have hd:=k.done _ I.1 I.2;have j:=BX (A3 M hd hK);clear M I hd hK hR k aR aJ Q;go_wp2_with(go_at_call 218;refine j.out.1.mono ?_;rintro e w2 ⟨rfl,p,o⟩);refine FC (LH rfl _ _ _) rfl ?_;exact⟨rfl,_,j.out.2.1.1,j.out.2.1.2,p,j.out.2.2.trans o (λ_ _ e=>e)⟩
   ·have ag:((L:Int)==0)=false:=by simp;omega
    have W:=BX (A7 hR hK k ae hL aV hn);have aQ:12<B-A:=by omega
    clear hR hK k ae hL aV hn aR;go_upto_if 35 with fail;go_cut [3] (λv V=>∃(L1:Nat) (d1:Array Int),v=.int .i64 L1/\L1<=1000/\Zj V g off d1/\Xy (·=g) w V/\Bf a b d A B d1);case first =>
     cases wb with
     | true =>
      go_wp2;go_meet;exact⟨L,dk,rfl,W.out.qe,W.out.1,W.out.2.1,W.out.qc⟩
     | false =>
      have aD:=S7 (cap:=cap) W.out.1 aQ (by omega) (by rw[aP];exact Q.out);rw[aP]at aD;have I:=breakPatterns_holds dk A B aF (by omega);have j:=BX (A2 aD I);clear aD I;go_wp2_with(go_at_call 219;refine j.out.1.mono ?_;rintro e w2 ⟨rfl,p,o⟩);go_meet;exact⟨L-1,_,by have:=W.out.qf;congr 1;omega,by have:=W.out.qe;omega,p,W.out.2.1.trans o (λ_ _ e=>e),W.out.2.2.1.perm j.out.2⟩
    case rest =>
     obtain⟨L1,d1,rfl,ah,aW,af,C⟩:=hcut;generalize wc=w1 at *;have bA:(L1:Int)<=1099511627776:=by omega
     have al:=C.size;have P:=T9 (cap:=cap) aW aQ (by omega) (by omega);rw[al]at P;have aL:=choosePivot_holds I4 d1 A B (by omega);generalize choosePivot I4 d1 A B=c at *;obtain⟨c1,c2⟩:=c;simp only[]at P aL;have m:=BX (A5 aW af C ah aL);have ao:=BX P;clear aW af C ah aL P ag;have bB:(c1:Int)<=1099511627776:=by have:=m.out.re;omega
     go_upto_if 50 with(go_at_call 220;refine ao.out.mono ?_;rintro e w2 ⟨rfl,p,o⟩);go_cut [11,12] (λpv hv V=>∃(i:Nat) (hc:Int) (d2:Array Int),pv=.int .i64 i/\hv=.int .i64 hc/\A<=i/\i<B/\Zj V g off d2/\Xy (·=g) w V/\Bf a b d A B d2);case first =>
      cases c2 with
      | decreasing =>
       have aH:=NZ (cap:=cap) p (a:=A) (b:=B) (by omega) (by omega) (by omega);rw[al]at aH;have I:=reverseRange_holds d1 A B aF (by omega);have j:=BX (A3 aH I o);clear aH I p o;have e2:hintCode .decreasing=2:=rfl;rw[e2];go_wp2_with(go_at_call 221;refine j.out.1.mono ?_;rintro e w3 ⟨rfl,aA,aK⟩);go_meet;have aL:=m.out.re;exact⟨(B-1)-(c1-A),1,_,by congr 1;omega,rfl,by omega,by omega,aA,(m.out.2.1.trans j.out.2.2 (λ_ _ e=>e.elim)).trans aK (λ_ _ e=>e),m.out.2.2.1.perm j.out.2.1⟩
      | increasing =>
       have e2:hintCode .increasing=1:=rfl;rw[e2];have j:=BX (A2 p o);clear p o;go_wp2;go_meet;exact⟨c1,1,_,rfl,rfl,m.out.qe,m.out.rf,j.out.1,m.out.2.1.trans j.out.2 (λ_ _ e=>e.elim),m.out.qc⟩
      | unknown =>
       have e2:hintCode .unknown=0:=rfl;rw[e2];have j:=BX (A2 p o);clear p o;go_wp2;go_meet;exact⟨c1,0,_,rfl,rfl,m.out.qe,m.out.rf,j.out.1,m.out.2.1.trans j.out.2 (λ_ _ e=>e.elim),m.out.qc⟩
     case rest =>
      clear p o;obtain⟨i,hc,d2,rfl,rfl,aM,aN,p,o,D⟩:=hcut;generalize wc=w3 at *;have bL:(i:Int)<=1099511627776:=by omega
      have av:=D.size;have K:=BX (A3 p o D);clear p o D;go_upto_region 15 with fail;go_cut [68] (λv V=>∃pb:Bool,v=.bool pb/\V=w3);case first =>
       have aZ:(hc==1)=true\/(hc==1)=false:=by cases(hc==1)<;>simp
       cases wb<;>cases wp<;>rcases aZ with aZ|aZ
       all_goals go_wp2
       all_goals go_meet
       all_goals first
        | exact⟨true,rfl,rfl⟩
        | exact⟨false,rfl,rfl⟩
      case rest =>
      obtain⟨pb,rfl,am⟩:=hcut;rw[am];clear am;go_upto_if 68 with fail;go_cut [] (λV=>∃d3:Array Int,Zj V g off d3/\Xy (·=g) w V/\Bf a b d A B d3);case first =>
       have E:=RA (cap:=cap) K.out.1 (a:=A) (b:=B) (by omega) (by omega) (by omega);rw[av]at E;have I:=partialInsertionSort_holds aI d2 A B (by omega) (by omega) K.out.2.2.below;generalize L4 I4 d2 A B=r at *;obtain⟨d3,rb⟩:=r;simp only[]at E I;have j:=BX (A2 E I);clear E I;cases pb with
       | true =>
        cases rb with
        | true =>
         go_wp2_with(go_at_call 222;refine j.out.1.mono ?_;rintro e w4 ⟨rfl,aX,aT⟩);refine FC (LH rfl _ _ _) rfl ?_;have hd:=K.out.2.2.done _ j.out.2.1 (j.out.2.2 trivial);exact⟨rfl,_,hd.1,hd.2,aX,K.out.2.1.trans aT (λ_ _ e=>e)⟩
        | false =>
         go_wp2_with(go_at_call 222;refine j.out.1.mono ?_;rintro e w4 ⟨rfl,aX,aT⟩);go_meet;exact⟨_,aX,K.out.2.1.trans aT (λ_ _ e=>e),K.out.2.2.perm j.out.2.1⟩
       | false =>
        go_wp2;go_meet;exact⟨_,K.out⟩
      case rest =>
       obtain⟨d3,aA,aK,f⟩:=hcut;generalize wc=w4 at *;have aO:=f.size;have bG:=f.bs;obtain⟨G,hG⟩:∃G:Nat->Int,∀t,G t=d3[t]!:=⟨λt=>d3[t]!,λ_=>rfl⟩;have ar:∀t,t<d.size->w4.cell? ⟨g,off+t,AI⟩=AF (.int .u64 (G t)):=λt ht=>by rw[hG];exact aA.cell (by omega)
       have X:=BX (A4 aA aK f hG);clear aA aK f hG;go_upto_region 17 with fail;go_cut [87] (λv V=>∃tb:Bool,v=.bool tb/\(tb=true->0<A/\I4 d3[A-1]! d3[i]! = false)/\Xy No w4 V);case first =>
        by_cases aS:0<A
        ·have ad:(0:Int)<(A:Int):=by omega
         have bC:A-1<d.size:=by omega
         have bK:i<d.size:=by omega
         go_quiet (first|(go_at_call 223;refine I8 (Zw _ _ _)));go_wp2;go_meet;refine⟨!I4 (G (A-1)) (G i),by first|rfl|simp,λht=>⟨aS,?_⟩,(Xy.refl _ _).drewN _⟩;rw[<- X.out.2.2.2,<- X.out.2.2.2];simpa using ht
        ·have ad:¬(0:Int)<(A:Int):=by omega
         go_quiet (first|(go_at_call 223;refine I8 (Zw _ _ _)));go_wp2;go_meet;exact⟨false,rfl,λht=>(by cases ht),(Xy.refl _ _).drewN _⟩
       case rest =>
        obtain⟨tb,rfl,aw,k5⟩:=hcut;generalize wc=w5 at *;clear ar;have aB:=X.out.1.keep k5 id;have S:=X.out.2.1.trans k5 (λ_ _ e=>e.elim);have f:=X.out.qc;cases tb with
        | true =>
         obtain⟨aS,ak⟩:=aw rfl;have J:=T8 (cap:=cap) aB aM aN (by omega) (by omega);rw[aO]at J;rcases hr:partitionEqual I4 d3 A B i with⟨mid,d4⟩;rw[hr]at J;simp only[]at J;obtain⟨m1,m2,m3,m4,m5⟩:=round_eq aI (partitionEqual_holds I4) aS aM aN (by omega) f.below ak hr;have O:Bf a b d mid B d4:=⟨by rw[m3];exact aO,m2,ai,m4,λR Y h2=>f.done R (m5 R Y h2).1 (m5 R Y h2).2⟩;have j:=BX (A3 J S O);clear J S aB O f m3 m4 m5 hr ak;go_wp2_with(go_at_call 224;refine j.out.1.mono ?_;rintro e w6 ⟨rfl,aC,Z⟩);go_roundw;case rel=>exact⟨mid,B,L1,wb,wp,d4,rfl,rfl,rfl,m.out.qd,rfl,rfl,by have:=W.out.qd;omega,aC,j.out.2.1.trans Z (λ_ _ e=>e),j.out.2.2⟩
         case measure=>simp[C0];omega
        | false =>
         have q:=RE (cap:=cap) aB aM aN (by omega) (by omega);rw[aO]at q;rcases hr:IX I4 d3 A B i with⟨mid,ap,d4⟩;rw[hr]at q;simp only[]at q;obtain⟨p1,p2,p3,p4,p5,p6,p7⟩:=round_part aI (partition_holds I4) aM aN (by omega) f.below hr;have T:d4.size=d.size:=by rw[p3];exact aO
         have bM:(n:Int).tdiv 8=((n/8:Nat):Int):=rfl;have bI:(mid:Int)<=1099511627776:=by omega
         have az:=W.out.qd;by_cases bH:mid-A<B-mid
         ·have aj:(mid:Int)-(A:Int)<(B:Int)-(mid:Int):=by omega
          have H:=λ(w6:AC) (h6:Zj w6 g off d4)=>aJ.out w6 d4 A mid L1 (by omega) h6 p1 (by omega) (by rw[T];exact Q) m.out.qd p4;simp only[T]at H;have F:∀(w7:AC) (z:Array Int),LD A mid d4 z->LF I4 A mid z->Bf a b d (mid+1) B z:=λw7 z U q2 =>
           ⟨by rw[U.1];exact T,by omega,ai,(p6 z U q2).1,λR Y h2=>f.done R ((p6 z U q2).2 R Y h2).1 ((p6 z U q2).2 R Y h2).2⟩
          have j:=BX (A4 q H S F);clear q H S aB f F p3 p4 p5 p6 p7 hr;go_wp2_with(first
           | (go_at_call 225;refine j.out.1.mono ?_;rintro e w6 ⟨rfl,aC,Z⟩)
           | (go_at_call 211;refine(j.out.2.1 _ aC).mono ?_;rintro e w7 ⟨rfl,z,U,q2,aY,aU⟩))
          go_roundw;case rel=>exact⟨mid+1,B,L1,_,ap,z,by go_num,rfl,rfl,m.out.qd,rfl,rfl,by omega,aY,(j.out.2.2.1.trans Z (λ_ _ e=>e)).trans aU (λ_ _ e=>e),j.out.2.2.2 w7 z U q2⟩
          case measure=>simp[C0];omega
         ·have aj:¬(mid:Int)-(A:Int)<(B:Int)-(mid:Int):=by omega
          have H:=λ(w6:AC) (h6:Zj w6 g off d4)=>aJ.out w6 d4 (mid+1) B L1 (by omega) h6 (by omega) (by omega) (by rw[T];exact Q) m.out.qd p5;simp only[T]at H;have e1:((mid+1:Nat):Int)=(mid:Int)+1:=by omega
          simp only[e1]at H;have F:∀(w7:AC) (z:Array Int),LD (mid+1) B d4 z->LF I4 (mid+1) B z->Bf a b d A mid z:=λw7 z U q2 =>
           ⟨by rw[U.1];exact T,p1,by omega,(p7 z U q2).1,λR Y h2=>f.done R ((p7 z U q2).2 R Y h2).1 ((p7 z U q2).2 R Y h2).2⟩
          have j:=BX (A4 q H S F);clear q H S aB f F p3 p4 p5 p6 p7 hr e1;go_wp2_with(first
           | (go_at_call 225;refine j.out.1.mono ?_;rintro e w6 ⟨rfl,aC,Z⟩)
           | (go_at_call 211;refine(j.out.2.1 _ aC).mono ?_;rintro e w7 ⟨rfl,z,U,q2,aY,aU⟩))
          go_roundw;case rel=>exact⟨A,mid,L1,_,ap,z,rfl,rfl,rfl,m.out.qd,rfl,rfl,by omega,aY,(j.out.2.2.1.trans Z (λ_ _ e=>e)).trans aU (λ_ _ e=>e),j.out.2.2.2 w7 z U q2⟩
          case measure=>simp[C0];omega
end Go.Proofs.YtfdmbomlkpkegaaGreat
