/- Lemmas. -/
import Derived.Sort.LotD3
import Derived.CellFam
import Derived.Deep.Draws
import Derived.BigGuard
import Derived.BigCall
import Derived.Test.YtfdmbomlkpkegaaGreatS8
import Derived.Sort.LotD4
import Derived.Sort.LotC
import Derived.Sort.LotD5
import Derived.Lib.BitFns
import Derived.Lib.Walk
import Derived.Lib.Small
import Derived.Lib.Strings
import Derived.Lib.Tables
import Derived.Laws.Bits64b
set_option maxRecDepth 100000
set_option maxHeartbeats 8000000
set_option linter.all false
set_option autoImplicit true
set_option relaxedAutoImplicit true
open Array renaming getElem?_setIfInBounds->I3
open Go renaming Calls->DJ,World->AC
open Go.Calls renaming quiet_of_same->I8
open Go.Ending renaming returned->IU
open Go.IntKind renaming i64->IV
open Go.Lib renaming hid->BX,len8->IS,len8tab->IT,len8tab_size->IW
open Go.RowKit renaming intOf->C0
open Go.Sort renaming bitsLen->IQ,bitsLen_le_iff->IR,choosePivot->IG,heapBuild->IB,heapPop->IC,hintOf->II,insInner->I6,insOuter->I7,ltInt->I4,median->IE,medianAdjacent->IF,medianAdjacent_count->IK,medianAdjacent_mem->IJ,order2->ID,partEqLoop->IP,partitionEqual->IN,rawPivot->IH,reverseLoop->I9,scanDown->IM,scanUp->IL,siftDown->IA,size_swp->I2,swp->I1
open Go.Value renaming int->DA
open Int renaming toNat_natCast->EO
open List renaming getElem?_eq_some_iff->BK,mergeSort_perm->I5,pairwise_map->CN
open Nat renaming le_refl->BE,mul_one->DY
open Option renaming none->AI,some->AF
namespace Go.Proofs.YtfdmbomlkpkegaaGreat
open Go Go.RowKit Go.Sort
def Zj (w:AC)(g off:Nat)(d:Array Int):Prop :=
 ∃cs:Array Value,w.heap[g]?=AF (.cells cs 27 (0,0))/\∀j,j<d.size->cs[off+j]?=AF (.int .u64 d[j]!)
theorem Zj.keep(h:Zj w g off d)(k:Xy F w f)(m:¬F g):Zj f g off d:=by obtain⟨cs,i,j⟩:=h;exact⟨cs,k.heap i m,j⟩
theorem Zj.cell(h:Zj w g off d)(k:j<d.size):w.cell? ⟨g,off+j,AI⟩=AF (.int .u64 d[j]!):=by obtain⟨cs,f,i⟩:=h;rw[Qq f];exact i j k
theorem Zj.frozen(h:Zj w g off d)(j:Nat):w.frozen? ⟨g,off+j,AI⟩=false:=by obtain⟨cs,f,_⟩:=h;exact Qg f _
theorem Zj.swap{w:AC}{g off:Nat}{d:Array Int}(h:Zj w g off d){i j:Nat}(hi:i<d.size)(C:j<d.size) :
  Zj ((w.setCell ⟨g,off+i,AI⟩ (.int .u64 d[j]!)).setCell ⟨g,off+j,AI⟩ (.int .u64 d[i]!)) g off (I1 d i j) /\
  Xy (·=g) w ((w.setCell ⟨g,off+i,AI⟩ (.int .u64 d[j]!)).setCell ⟨g,off+j,AI⟩ (.int .u64 d[i]!)):=by
 obtain⟨cs,A,z⟩:=h;have B:=Qz (i:=off+j) (u:=.int .u64 d[i]!) (Qz (i:=off+i) (u:=.int .u64 d[j]!) A);refine⟨⟨_,B,λk o=>?_⟩,Xy.setCell (F:=(·=g)) (Xy.setCell (F:=(·=g)) (Xy.refl _ _) (p:=⟨g,off+i,AI⟩) (.inl rfl) _) (p:=⟨g,off+j,AI⟩) (.inl rfl) _⟩;rw[I2]at o;have q:∀t,t<d.size->off+t<cs.size:=λt D=>(Array.getElem?_eq_some_iff.1 (z t D)).1;have f:=q k o;rw[I3,I3];by_cases n:k=j
 ·rw[if_pos (by omega),if_pos (by simpa using(by rw[<- n];exact f)),n,swp_right _ _ _ C]
 ·rw[if_neg (by omega)];by_cases m:k=i
  ·rw[if_pos (by omega),if_pos (by rw[<- m];exact f),m,swp_left _ _ _ hi (by omega)]
  ·rw[if_neg (by omega),z k o,swp_other _ _ _ _ m n]
theorem KS(x:Int)(w:AC):DJ Tryz.prog 233 #[.int .u64 x] w λe d=>e=.returned (.bool false)/\d=w:=by go_enter Tryz.func233,Tryz.ntmps233;go_wp2;go_ret;exact⟨by simp,rfl⟩
theorem Zw(x y:Int)(w:AC):DJ Tryz.prog 223 #[.int .u64 x,.int .u64 y] w λe d=>e=.returned (.bool (I4 x y))/\d=w:=by go_enter Tryz.func223,Tryz.ntmps223;go_wp2_with(go_at_call 233;refine(KS _ _).mono ?_;rintro e d ⟨rfl,rfl⟩);go_ret;exact⟨rfl,rfl⟩
def Yk (m:Kk):List Int:=(m.map (·.1)).mergeSort (λx y=>decide (x<=y))
def Kh (w:AC)(v:Value)(l:List Int):Prop :=
 ∃ao cap,v=.slice ao l.length cap/\l.length<=cap/\cap<=maxLen/\(l=[]\/∃g,ao=AF ⟨g,0,AI⟩/\Zj w g 0 l.toArray)
theorem Kh.keep(h:Kh w v l)(k:Xy F w f)(m:∀g a b,v=.slice (AF ⟨g,0,AI⟩) a b->¬F g):Kh f v l:=by
 obtain⟨ao,cap,rfl,i,j,d⟩:=h;refine⟨ao,cap,rfl,i,j,?_⟩;rcases d with d|⟨g,rfl,d⟩
 ·exact .inl d
 ·exact .inr ⟨g,rfl,d.keep k (m g _ _ rfl)⟩
theorem Kh.no(h:Kh w v l)(k:Xy No w d):Kh d v l:=h.keep k (λ_ _ _ _ h=>h)
theorem Kh.form(h:Kh w v l):∃ao cap,v=.slice ao l.length cap/\l.length<=cap/\cap<=maxLen:=by obtain⟨ao,cap,h,d,f,_⟩:=h;exact⟨ao,cap,h,d,f⟩
theorem Kh.cell(h:Kh w (.slice ao n cap) l)(f:l[j]?=AF k):∃g,ao=AF ⟨g,0,AI⟩/\w.cell? ⟨g,j,AI⟩=AF (.int .u64 k):=by
 obtain⟨o,i,m,z,A,p⟩:=h;simp only[Value.slice.injEq]at m;obtain⟨rfl,rfl,rfl⟩:=m;have d:=(BK.1 f).1;rcases p with rfl|⟨g,rfl,q⟩
 ·simp at f
 ·refine⟨g,rfl,?_⟩;have:=q.cell (j:=j) (by simpa using d);rw[Nat.zero_add]at this;rw[this];have e:l.toArray[j]! = k:=by rw[getElem!_pos l.toArray j (by simpa using d)];simpa using(BK.1 f).2
  rw[e]
theorem Pz(m:Kk)(k:Int):k∈m.map (·.1) ↔(Uu m k).isSome=true:=by
 induction m with
 | nil=>simp[Uu]
 | cons e m f =>
  rw[Zh,List.map_cons,List.mem_cons];by_cases h:e.1=k
  ·simp[h]
  ·rw[if_neg h,<- f];constructor
   ·rintro(d|d)
    ·exact absurd d.symm h
    ·exact d
   ·exact .inr
theorem Hg.nodup{m:Kk}(h:Hg m):(m.map (·.1)).Nodup:=CN.2 h
theorem QU{a b:Kk}(g:Kd a)(i:Hg b)(h:Jf a b):Yk b=a.map (·.1):=by
 have j:(Yk b).Perm (a.map (·.1)):=by refine(I5 _ _).trans ((List.perm_ext_iff_of_nodup i.nodup g.keys.nodup).2 (λk=>?_));rw[Pz,Pz,h k]
 refine j.eq_of_pairwise (le:=λx y=>x<=y) (λx y _ _ d f=>Int.le_antisymm d f) ?_ ?_
 ·have:=List.pairwise_mergeSort (le:=λx y:Int=>decide (x<=y)) (λx y z d f=>by simp at d f⊢;omega) (λx y=>by simp;omega) (b.map (·.1));exact this.imp (λh=>by simpa using h)
 ·exact CN.2 (g.imp (λh=>by omega))
theorem Pc(m:Kk):(Yk m).length=m.length:=by unfold Yk;rw[(I5 _ _).length_eq,List.length_map]
theorem Is(a k:Nat)(d:Array Int)(h:a<k+1)(f:I4 d[k+1]! d[k]! = true):I6 I4 a (k+1) d=I6 I4 a k (I1 d (k+1) k):=by rw[I6];simp[h,f]
theorem XZ(a k:Nat)(d:Array Int)(h:k+1<=a\/I4 d[k+1]! d[k]! = false):I6 I4 a (k+1) d=d:=by
 rw[I6];rcases h with h|h
 ·simp[show ¬k+1 > a by omega]
 ·simp[h]
theorem It(a b i:Nat)(d:Array Int)(h:i<b):I7 I4 a b i d=I7 I4 a b (i+1) (I6 I4 a i d):=by rw[I7,if_pos h]
theorem XX(a b i:Nat)(d:Array Int)(h:¬i<b):I7 I4 a b i d=d:=by rw[I7,if_neg h]
theorem TD{w:AC}{g off cap a b:Nat}{d:Array Int}(h:Zj w g off d)(S:a<=b)(hb:b<=d.size)(aA:d.size<=1099511627776) :
  DJ Tryz.prog 217 #[.slice (AF ⟨g,off,AI⟩) d.size cap,.int .i64 a,.int .i64 b] w λe R=>e=.returned (.tuple #[])/\Zj R g off (insertionSort I4 d a b)/\Xy (·=g) w R:=by
 go_enter Tryz.func217,Tryz.ntmps217;go_wp2;go_loopw [6] (λN wr=>∃(i:Nat) (dk:Array Int),N=.int .i64 i/\a<i/\i<=b+1/\dk.size=d.size/\Zj wr g off dk/\Xy (·=g) w wr/\I7 I4 a b i dk=I7 I4 a b (a+1) d) (λN _=>b+1-(C0 N).toNat);case atStart=>exact⟨a+1,d,by go_num,by omega,by omega,rfl,h,Xy.refl _ _,rfl⟩
 case round =>
  clear h;obtain⟨i,dk,rfl,T,X,M,p,B,Q⟩:=hrel;have z:=BX (A3 Q p B);clear Q p B;by_cases D:i<b
  ·have E:(i:Int)<(b:Int):=by omega
   go_wp2_with fail;go_loopw [7] (λO H=>∃(j:Nat) (m:Array Int),O=.int .i64 j/\a<=j/\j<=i/\m.size=d.size/\Zj H g off m/\Xy (·=g) w H/\I6 I4 a j m=I6 I4 a i dk) (λO _=>(C0 O).toNat);case atStart=>exact⟨i,dk,rfl,by omega,BE _,M,z.out.2.1,z.out.2.2,rfl⟩
   case round =>
    obtain⟨j,m,rfl,U,Y,F,p,B,P⟩:=hrel;obtain⟨G,J⟩:∃G:Nat->Int,∀t,G t=m[t]!:=⟨λt=>m[t]!,λ_=>rfl⟩;have V:∀t,t<d.size->wr.cell? ⟨g,off+t,AI⟩=AF (.int .u64 (G t)):=λt ht=>by rw[J];exact p.cell (by omega)
    have W:∀t,t<d.size->wr.frozen? ⟨g,off+t,AI⟩=false:=λt _=>p.frozen t;have f:=BX (A4 P J p B);clear P J p B;have n:∀nq,(j<=a\/I4 (G j) (G (j-1))=false)->∃(I:Nat) (o:Array Int),DA .i64 ((i:Int)+1)=.int .i64 I/\a<I/\I<=b+1/\o.size=d.size/\Zj (wr.drewN nq) g off o/\Xy (·=g) w (wr.drewN nq)/\I7 I4 a b I o=I7 I4 a b (a+1) d:=λnq Z =>
     ⟨i+1,m,by go_num,by omega,by omega,F,f.out.2.2.1.keep ((Xy.refl No wr).drewN nq) id,f.out.2.2.2.drewN nq,by
      rw[<- z.out.1,It _ _ _ _ D,<- f.out.1];congr 1;cases j with
      | zero=>rw[I6]
      | succ k=>exact(XZ _ _ _ (by simpa[f.out.2.1]using Z)).symm⟩
    have A:=BX n;clear n;by_cases K:a<j
    ·have C:(a:Int)<(j:Int):=by omega
     go_wp2;go_quiet (first|(go_at_call 223;refine I8 (Zw _ _ _)));go_wp2
     ·have L:I4 (G j) (G (j-1))=true:=by assumption
      go_region;all_goals go_wp2
      go_roundw;case rel =>have q:=(f.out.2.2.1.keep ((Xy.refl No wr).drewN (nq+1)) id).swap (i:=j) (j:=j-1) (by omega) (by omega);rw[<- f.out.2.1,<- f.out.2.1]at q;refine⟨j-1,I1 m j (j-1),by congr 1;omega,by omega,by omega,by rw[I2];exact F,q.1,((f.out.2.2.2.drewN (nq+1)).trans q.2 (λ_ _ e=>e)),?_⟩;rw[<- f.out.1];obtain⟨k,rfl⟩:∃k,j=k+1:=⟨j-1,by omega⟩;exact(Is _ _ _ K (by rw[<- f.out.2.1,<- f.out.2.1];exact L)).symm
      case measure=>simp[C0];omega
     ·have L:I4 (G j) (G (j-1))=false:=by assumption
      go_roundw;case rel=>exact A.out nq (Or.inr L)
      case measure=>simp[C0];omega
    ·have C:¬(a:Int)<(j:Int):=by omega
     go_wp2;go_quiet (first|(go_at_call 223;refine I8 (Zw _ _ _)));go_wp2;go_roundw;case rel=>exact A.out nq (Or.inl (by omega))
     case measure=>simp[C0];omega
  ·have E:¬(i:Int)<(b:Int):=by omega
   go_wp2
   go_end0
   exact⟨rfl,by unfold insertionSort;rw[<- z.out.1,XX _ _ _ _ D];exact z.out.2.1,z.out.2.2⟩
theorem We(i j:Nat)(d:Array Int)(h:i<j):I9 i j d=I9 (i+1) (j-1) (I1 d i j):=by rw[I9,if_pos h]
theorem Bu(i j:Nat)(d:Array Int)(h:¬i<j):I9 i j d=d:=by rw[I9,if_neg h]
theorem NZ{w:AC}{g off cap a b:Nat}{d:Array Int}(h:Zj w g off d)(E:a<b)(M:b<=d.size)(K:d.size<=1099511627776) :
  DJ Tryz.prog 221 #[.slice (AF ⟨g,off,AI⟩) d.size cap,.int .i64 a,.int .i64 b] w λe D=>e=.returned (.tuple #[])/\Zj D g off (reverseRange d a b)/\Xy (·=g) w D:=by
 go_enter Tryz.func221,Tryz.ntmps221;go_wp2;go_loopw [6,7] (λL A wr=>∃(i j:Nat) (dk:Array Int),L=.int .i64 i/\A=.int .i64 j/\j<d.size/\i<=d.size/\dk.size=d.size/\Zj wr g off dk/\Xy (·=g) w wr/\I9 i j dk=I9 a (b-1) d) (λ_ A _=>(C0 A).toNat);case atStart=>exact⟨a,b-1,d,rfl,by congr 1;omega,by omega,by omega,rfl,h,Xy.refl _ _,rfl⟩
 case round =>
  clear h;obtain⟨i,j,p,rfl,rfl,J,I,z,o,C,B⟩:=hrel;obtain⟨G,q⟩:∃G:Nat->Int,∀t,G t=p[t]!:=⟨λt=>p[t]!,λ_=>rfl⟩;have F:∀t,t<d.size->wr.cell? ⟨g,off+t,AI⟩=AF (.int .u64 (G t)):=λt N=>by rw[q];exact o.cell (by omega)
  have H:∀t,t<d.size->wr.frozen? ⟨g,off+t,AI⟩=false:=λt _=>o.frozen t;have f:=BX (A4 B q o C);clear B q o C;by_cases m:i<j
  ·have n:(i:Int)<(j:Int):=by omega
   go_wp2;go_region;all_goals go_wp2
   go_roundw;case rel =>have k:=(f.out.2.2.1.keep ((Xy.refl No wr).drewN 1) id).swap (i:=i) (j:=j) (by omega) (by omega);rw[<- f.out.2.1,<- f.out.2.1]at k;refine⟨i+1,j-1,I1 p i j,by go_num,by congr 1;omega,by omega,by omega,by rw[I2];exact z,k.1,((f.out.2.2.2.drewN 1).trans k.2 (λ_ _ e=>e)),?_⟩;rw[<- f.out.1,We _ _ _ m]
   case measure=>simp[C0];omega
  ·have n:¬(i:Int)<(j:Int):=by omega
   go_wp2
   go_end0
   exact⟨rfl,by unfold reverseRange;rw[<- f.out.1,Bu _ _ _ m];exact f.out.qc,f.out.2.2.2⟩
theorem Cw(hi first f:Nat)(d:Array Int)(h:hi<=2*f+1):IA I4 hi first f d=d:=by rw[IA,dif_pos h]
def Vs (hi first f:Nat)(d:Array Int):Nat:=if 2*f+1+1<hi&&I4 d[first+(2*f+1)]! d[first+(2*f+1)+1]! then 2*f+2 else 2*f+1
theorem Fd(hi first f:Nat)(d:Array Int)(h:¬hi<=2*f+1)(g:I4 d[first+f]! d[first+Vs hi first f d]! = false):IA I4 hi first f d=d:=by
 rw[IA,dif_neg h];unfold Vs at g
 split
 ·rename_i i;rw[if_pos i]at g;simp[g]
 ·rename_i i;rw[if_neg i]at g;simp[g]
theorem Fc(hi first f:Nat)(d:Array Int)(h:¬hi<=2*f+1)(g:I4 d[first+f]! d[first+Vs hi first f d]! = true) :
  IA I4 hi first f d=IA I4 hi first (Vs hi first f d) (I1 d (first+f) (first+Vs hi first f d)):=by
 conv=>lhs;rw[IA,dif_neg h]
 unfold Vs at g⊢
 split
 ·rename_i i;rw[if_pos i]at g;have j:2*f+2<hi:=by simp at i;omega
  simp[g,j]
 ·rename_i i;rw[if_neg i]at g;simp[g]
theorem Dk(hi first f:Nat)(d:Array Int):Vs hi first f d=2*f+1\/(Vs hi first f d=2*f+2/\2*f+2<hi):=by
 unfold Vs
 split
 ·rename_i h;simp at h;exact .inr ⟨rfl,by omega⟩
 ·exact .inl rfl
theorem ZU{w:AC}{g off cap lo hi first:Nat}{d:Array Int}(h:Zj w g off d)(hb:first+hi<=d.size)(R:lo<=d.size)(aF:d.size<=1099511627776) :
  DJ Tryz.prog 228 #[.slice (AF ⟨g,off,AI⟩) d.size cap,.int .i64 lo,.int .i64 hi,.int .i64 first] w λe Z=>e=.returned (.tuple #[])/\Zj Z g off (IA I4 hi first lo d)/\Xy (·=g) w Z:=by
 go_enter Tryz.func228,Tryz.ntmps228;go_wp2;go_loopw [8] (λT wr=>∃(f:Nat) (dk:Array Int),T=.int .i64 f/\f<=d.size/\dk.size=d.size/\Zj wr g off dk/\Xy (·=g) w wr/\IA I4 hi first f dk=IA I4 hi first lo d) (λT _=>hi-(C0 T).toNat);case atStart=>exact⟨lo,d,rfl,R,rfl,h,Xy.refl _ _,rfl⟩
 case round =>
  clear h;obtain⟨f,C,rfl,aE,S,J,M,L⟩:=hrel;obtain⟨G,H⟩:∃G:Nat->Int,∀t,G t=C[t]!:=⟨λt=>C[t]!,λ_=>rfl⟩;have K:∀t,t<d.size->wr.cell? ⟨g,off+t,AI⟩=AF (.int .u64 (G t)):=λt ht=>by rw[H];exact J.cell (by omega)
  by_cases A:hi<=2*f+1
  ·have X:(hi:Int)<=2*(f:Int)+1:=by omega
   have m:=BX (A3 L J M);clear L J M K H;go_wp2
   go_end0
   exact⟨rfl,by rw[<- m.out.1,Cw _ _ _ _ A];exact m.out.2.1,m.out.2.2⟩
  ·have X:¬(hi:Int)<=2*(f:Int)+1:=by omega
   obtain⟨c,N⟩:∃c,c=Vs hi first f C:=⟨_,rfl⟩
   have z:=Dk hi first f C
   rw[<- N]at z;have p:=Fd hi first f C A
   have o:=Fc hi first f C A
   rw[<- N]at p o;have k:c=if 2*f+1+1<hi&&I4 (G (first+(2*f+1))) (G (first+(2*f+1)+1))then 2*f+2 else 2*f+1:=by rw[N,H,H];rfl
   have m:=BX (A6 L H J M p o);clear L H J M p o N;obtain⟨cb,q⟩:∃cb:Bool,cb=(decide (2*f+1+1<hi)&&I4 (G (first+(2*f+1))) (G (first+(2*f+1)+1))):=⟨_,rfl⟩;go_upto_region 3 with fail;go_cut [36] (λv V=>v=.bool cb/\Xy No wr V);case first =>
    by_cases W:2*f+1+1<hi
    ·have P:2*(f:Int)+1+1<(hi:Int):=by omega
     have n:cb=I4 (G (first+(2*f+1))) (G (first+(2*f+1)+1)):=by rw[q];simp[W]
     have O:=BX n;clear q k n;go_quiet (first|(go_at_call 223;refine I8 (Zw _ _ _)));go_wp2;go_meet;exact⟨by rw[O.out,show first+(2*f+1)+1=first+2*f+2 by omega,show first+(2*f+1)=first+2*f+1 by omega],(Xy.refl _ _).drewN _⟩
    ·have P:¬2*(f:Int)+1+1<(hi:Int):=by omega
     have n:cb=false:=by rw[q];simp[W]
     have O:=BX n;clear q k n;go_quiet (first|(go_at_call 223;refine I8 (Zw _ _ _)));go_wp2;go_meet;exact⟨by rw[O.out],(Xy.refl _ _).drewN _⟩
   case rest =>
    obtain⟨rfl,Y⟩:=hcut;generalize wc=U at *;have B:=m.out.2.2.1.keep Y id;have I:=m.out.2.2.2.1.trans Y (λ_ _ e=>e.elim);have K:∀t,t<d.size->U.cell? ⟨g,off+t,AI⟩=AF (.int .u64 (G t)):=λt ht=>by rw[m.out.2.1];exact B.cell (by omega)
    have aB:∀t,t<d.size->U.frozen? ⟨g,off+t,AI⟩=false:=λt _=>B.frozen t;rw[<- q]at k;have F:=BX (A4 B I k z);clear B I q;go_upto_if 36 with fail;go_cut [9] (λv V=>v=.int .i64 c/\V=U);case first =>
     cases cb with
     | true =>
      have e:c=2*f+2:=k;clear k z;go_wp2;go_meet;exact⟨by congr 1;omega,rfl⟩
     | false =>
      have e:c=2*f+1:=k;clear k z;go_wp2;go_meet;exact⟨by congr 1;omega,rfl⟩
    case rest =>
     obtain⟨rfl,rfl⟩:=hcut;have aA:first+c<d.size:=by have:=F.out.2.2.2;omega
     have aD:first+f<d.size:=by omega
     have aC:f<c:=by omega
     clear k z X;go_wp2;go_quiet (first|(go_at_call 223;refine I8 (Zw _ _ _)));go_wp2
     ·have D:(!I4 (G (first+f)) (G (first+c)))=true:=by assumption
      have Q:I4 (G (first+f)) (G (first+c))=false:=by simpa using D
      refine bodyPost_ret (results_none rfl _ _ _) rfl ?_;refine⟨rfl,?_,F.out.2.1.drewN _⟩;rw[<- m.out.1,m.out.qe (by rw[<- m.out.2.1,<- m.out.2.1];exact Q)];exact F.out.1.keep ((Xy.refl No _).drewN _) id
     ·have D:(!I4 (G (first+f)) (G (first+c)))=false:=by assumption
      have Q:I4 (G (first+f)) (G (first+c))=true:=by simpa using D
      go_region;all_goals go_wp2
      go_roundw;case rel =>have E:=(F.out.1.keep ((Xy.refl No _).drewN (nq+1)) id).swap (i:=first+f) (j:=first+c) (by omega) (by omega);rw[<- m.out.2.1,<- m.out.2.1]at E;refine⟨c,I1 C (first+f) (first+c),rfl,by omega,by rw[I2];exact S,E.1,((F.out.2.1.drewN (nq+1)).trans E.2 (λ_ _ e=>e)),?_⟩;rw[<- m.out.1,m.out.rf (by rw[<- m.out.2.1,<- m.out.2.1];exact Q)]
      case measure =>have:=F.out.2.2.2;simp[C0];omega
theorem Fm(hi first:Nat):∀(n f:Nat) (d:Array Int),hi-f<=n->(IA I4 hi first f d).size=d.size:=by
 intro n
 induction n with
 | zero=>intro f d h;rw[Cw _ _ _ _ (by omega)]
 | succ n j =>
  intro f d h;by_cases g:hi<=2*f+1
  ·rw[Cw _ _ _ _ g]
  ·cases i:I4 d[first+f]! d[first+Vs hi first f d]! with
   | false=>rw[Fd _ _ _ _ g i]
   | true =>
    rw[Fc _ _ _ _ g i,j _ _ (by have:=Dk hi first f d;omega),I2]
theorem RZ{w:AC}{g off cap a b:Nat}{d:Array Int}(h:Zj w g off d)(U:a<b)(hb:b<=d.size)(aH:d.size<=1099511627776) :
  DJ Tryz.prog 218 #[.slice (AF ⟨g,off,AI⟩) d.size cap,.int .i64 a,.int .i64 b] w λe w'=>e=.returned (.tuple #[])/\Zj w' g off (heapSort I4 d a b)/\Xy (·=g) w w':=by
 obtain⟨n,R⟩:∃n:Nat,b-a=n:=⟨_,rfl⟩;have z:∀(k:Nat) (d:Array Int),IB I4 n a (k+1) d=IB I4 n a k (IA I4 n a k d):=λk d=>rfl;have J:∀(k:Nat) (d:Array Int),IC I4 a (k+1) d=IC I4 a k (IA I4 k a 0 (I1 d a (a+k))):=λk d=>rfl;have hq:((n:Int)-1).tdiv 2=(((n-1)/2:Nat):Int):=by
  have e:(n:Int)-1=((n-1:Nat):Int):=by omega
  rw[e];rfl
 obtain⟨m,X⟩:∃m:Nat,m=(n-1)/2:=⟨_,rfl⟩;rw[<- X]at hq;have aE:m<=n:=by omega
 have aG:(n:Int)<=1099511627776:=by omega
 have aF:(1:Int)<=(n:Int):=by omega
 have e0:(b:Int)-(a:Int)=(n:Int):=by omega
 have aA:a+n<=d.size:=by omega
 unfold heapSort;rw[R,<- X];have Z:=BX (A2 z J);clear z J R U hb;go_enter Tryz.func218,Tryz.ntmps218;go_upto_block 0 with fail;go_cut [9] (λ_ wx=>Zj wx g off (IB I4 n a (m+1) d)/\(IB I4 n a (m+1) d).size=d.size/\Xy (·=g) w wx);case first =>
  go_wp2;go_loopw [9] (λN wr=>∃(k:Nat) (dk:Array Int),N=.int .i64 ((k:Int)-1)/\k<=n+1/\dk.size=d.size/\Zj wr g off dk/\Xy (·=g) w wr/\IB I4 n a k dk=IB I4 n a (m+1) d) (λN _=>(C0 N+1).toNat);case atStart=>exact⟨m+1,d,by go_num,by omega,rfl,h,Xy.refl _ _,rfl⟩
  case round =>
   clear h;obtain⟨k,dk,rfl,W,D,q,A,H⟩:=hrel;cases k with
   | zero =>
    have e:IB I4 n a 0 dk=dk:=rfl;have o:=BX (A4 H q A e);clear H q A e;have S:¬(0:Int)<=(0:Int)-1:=by omega
    go_wp2;go_meet;rw[<- o.out.1,o.out.2.2.2];exact⟨o.out.2.1,D,o.out.qc⟩
   | succ k =>
    have C:((k+1:Nat):Int)-1=(k:Int):=by omega
    rw[C];have o:=BX H;clear H;have f:=ZU (cap:=cap) q (lo:=k) (hi:=n) (first:=a) (by omega) (by omega) (by omega);rw[D]at f;clear q C;go_wp2_with(go_at_call 228;refine f.mono ?_;rintro e K ⟨rfl,B,p⟩);go_roundw;case rel=>exact⟨k,IA I4 n a k dk,by go_num,by omega,by rw[Fm n a (n-k) k dk (BE _)];exact D,B,A.trans p (λ_ _ e=>e),by rw[<- Z.out.1];exact o.out⟩
    case measure=>simp[C0]
 case rest =>
  obtain⟨q,Y,A⟩:=hcut;generalize wc=w1 at *;obtain⟨O,M⟩:∃O,O=IB I4 n a (m+1) d:=⟨_,rfl⟩;rw[<- M]at q Y;have HD:=BX M;clear M h hq X;go_wp2;go_loopw [10] (λN wr=>∃(k:Nat) (dk:Array Int),N=.int .i64 ((k:Int)-1)/\k<=n/\dk.size=d.size/\Zj wr g off dk/\Xy (·=g) w wr/\IC I4 a k dk=IC I4 a n O) (λN _=>(C0 N+1).toNat);case atStart=>exact⟨n,O,by go_num,BE _,Y,q,A,rfl⟩
  case round =>
   clear q Y A;obtain⟨k,dk,rfl,W,D,q,A,H⟩:=hrel;cases k with
   | zero =>
    have e:IC I4 a 0 dk=dk:=rfl;have o:=BX (A4 H q A e);clear H q A e;have S:¬(0:Int)<=(0:Int)-1:=by omega
    go_wp2
    go_end0
    rw[<- HD.out,<- o.out.1,o.out.2.2.2];exact⟨rfl,o.out.2.1,o.out.qc⟩
   | succ k =>
    obtain⟨G,T⟩:∃G:Nat->Int,∀t,G t=dk[t]!:=⟨λt=>dk[t]!,λ_=>rfl⟩;have aB:∀t,t<d.size->wr.cell? ⟨g,off+t,AI⟩=AF (.int .u64 (G t)):=λt ht=>by rw[T];exact q.cell (by omega)
    have aC:∀t,t<d.size->wr.frozen? ⟨g,off+t,AI⟩=false:=λt _=>q.frozen t;have E:=Z.out.2 k dk;have I:=(q.keep ((Xy.refl No wr).drewN 1) id).swap (i:=a) (j:=a+k) (by omega) (by omega);have F:(I1 dk a (a+k)).size=d.size:=by rw[I2];exact D
    have f:=ZU (cap:=cap) I.1 (lo:=0) (hi:=k) (first:=a) (by omega) (by omega) (by omega);rw[F]at f;rw[<- T,<- T]at f I;have p:=(A.drewN 1).trans I.2 (λ_ _ e=>e);have o:=BX (A4 H E F p);have HS:=BX f;clear H T q A E I F p f;have C:((k+1:Nat):Int)-1=(k:Int):=by omega
    rw[C];have Q:∀K,Zj K g off (IA I4 k a 0 (I1 dk a (a+k)))->Xy (·=g) w K->∃(k':Nat) (L:Array Int),DA .i64 ((k:Int)-1)=.int .i64 ((k':Int)-1)/\k'<=n/\L.size=d.size/\Zj K g off L/\Xy (·=g) w K/\IC I4 a k' L=IC I4 a n O:=λK h1 h2 =>
     ⟨k,IA I4 k a 0 (I1 dk a (a+k)),rfl,by omega,by rw[Fm k a k 0 _ (by omega)];exact o.out.qc,h1,h2,by rw[<- o.out.1];exact o.out.2.1.symm⟩
    have P:=BX Q;clear Q C;by_cases V:k=0
    ·subst V;go_wp2;go_region;all_goals go_wp2_with(go_at_call 228;refine HS.out.mono ?_;rintro e K ⟨rfl,B,p⟩)
     go_roundw;case rel=>exact P.out _ B (o.out.2.2.2.trans p (λ_ _ e=>e))
     case measure=>simp[C0]
    ·have aD:a<a+k:=by omega
     go_wp2;go_region;all_goals go_wp2_with(go_at_call 228;refine HS.out.mono ?_;rintro e K ⟨rfl,B,p⟩)
     go_roundw;case rel=>exact P.out _ B (o.out.2.2.2.trans p (λ_ _ e=>e))
     case measure=>simp[C0]
def Fp (w:AC)(s:Nat)(n:Nat):Prop:=w.heap[s]?=AF (.cells #[.int .i64 n] 3 (0,0))
theorem Dd{w:AC}{g off cap a b s n:Nat}{d:Array Int}(h:Zj w g off d)(m:Fp w s n)(q:s≠g)(J:a<d.size)(K:b<d.size)(L:n<=1000)(_:d.size<=1099511627776) :
  DJ Tryz.prog 234 #[.slice (AF ⟨g,off,AI⟩) d.size cap,.int .i64 a,.int .i64 b,.pointer (AF ⟨s,0,AI⟩)] w λe z =>
   e=.returned (.tuple #[.int .i64 (ID I4 d a b n).1,.int .i64 (ID I4 d a b n).2.1])/\Fp z s (ID I4 d a b n).2.2/\Zj z g off d/\Xy (·=s) w z:=by
 obtain⟨G,k⟩:∃G:Nat->Int,∀t,G t=d[t]!:=⟨λt=>d[t]!,λ_=>rfl⟩;have E:∀t,t<d.size->w.cell? ⟨g,off+t,AI⟩=AF (.int .u64 (G t)):=λt H=>by rw[k];exact h.cell H
 have D:=Qq m 0;have I:=Qg m 0;simp at D;have A:I4 (G b) (G a)=true->ID I4 d a b n=(b,a,n+1):=λf=>by unfold ID;rw[<- k,<- k,f];rfl
 have B:I4 (G b) (G a)=false->ID I4 d a b n=(a,b,n):=λf=>by unfold ID;rw[<- k,<- k,f];rfl
 have j:=BX (A4 A B h m);clear A B h m k;go_enter Tryz.func234,Tryz.ntmps234;go_wp2;go_quiet (first|(go_at_call 223;refine I8 (Zw _ _ _)));go_wp2
 ·have f:I4 (G b) (G a)=true:=by assumption
  go_ret2;rw[j.out.1 f];have C:Xy (·=s) w ((w.drewN nq).setCell ⟨s,0,AI⟩ (.int .i64 ((n:Int)+1))):=Xy.setCell (F:=(·=s)) ((Xy.refl _ _).drewN nq) (p:=⟨s,0,AI⟩) (.inl rfl) _;have o:=Qz (w:=w.drewN nq) (i:=0) (u:=.int .i64 ((n:Int)+1)) j.out.2.2.2;exact⟨rfl,by simpa[Fp]using o,j.out.2.2.1.keep C (λe=>q e.symm),C⟩
 ·have f:I4 (G b) (G a)=false:=by assumption
  go_ret2;rw[j.out.2.1 f];exact⟨rfl,j.out.2.2.2,j.out.2.2.1.keep ((Xy.refl No _).drewN _) id,(Xy.refl _ _).drewN _⟩
theorem ZJ(f:a<d.size)(g:b<d.size):(ID I4 d a b n).1<d.size/\(ID I4 d a b n).2.1<d.size/\(ID I4 d a b n).2.2<=n+1:=by
 unfold ID
 split
 ·exact⟨g,f,BE _⟩
 ·exact⟨f,g,by simp⟩
theorem Dn{w:AC}{g off cap a b c s n:Nat}{d:Array Int}(h:Zj w g off d)(k:Fp w s n)(i:s≠g)(B:a<d.size)(C:b<d.size)(D:c<d.size)(P:n<=900)(j:d.size<=1099511627776) :
  DJ Tryz.prog 232 #[.slice (AF ⟨g,off,AI⟩) d.size cap,.int .i64 a,.int .i64 b,.int .i64 c,.pointer (AF ⟨s,0,AI⟩)] w λe f =>
   e=.returned (.int .i64 (IE I4 d a b c n).1)/\Fp f s (IE I4 d a b c n).2/\Zj f g off d/\Xy (·=s) w f:=by
 have z:=ZJ (n:=n) B C;have F:=Dd (cap:=cap) h k i B C (by omega) j;have E:IE I4 d a b c n=((ID I4 d (ID I4 d a b n).1 (ID I4 d (ID I4 d a b n).2.1 c (ID I4 d a b n).2.2).1 (ID I4 d (ID I4 d a b n).2.1 c (ID I4 d a b n).2.2).2.2).2.1,
  (ID I4 d (ID I4 d a b n).1 (ID I4 d (ID I4 d a b n).2.1 c (ID I4 d a b n).2.2).1 (ID I4 d (ID I4 d a b n).2.1 c (ID I4 d a b n).2.2).2.2).2.2):=rfl
 rw[E];generalize ID I4 d a b n=m at *;have O:=ZJ (n:=m.2.2) z.2.1 D;have G:=λ(f:AC) (h:Zj f g off d) (k:Fp f s m.2.2)=>Dd (cap:=cap) h k i z.2.1 D (by omega) j;generalize ID I4 d m.2.1 c m.2.2=A at *;have H:=λ(f:AC) (h:Zj f g off d) (k:Fp f s A.2.2)=>Dd (cap:=cap) h k i z.1 O.1 (by omega) j;generalize ID I4 d m.1 A.1 A.2.2=Q at *;clear h k E;go_enter Tryz.func232,Tryz.ntmps232;go_wp2_with fail;refine F.mono ?_;rintro e R⟨rfl,o,I,L⟩;go_wp2_with fail;refine(G _ I o).mono ?_;rintro e S⟨rfl,p,J,M⟩;go_wp2_with fail;refine(H _ J p).mono ?_;rintro e T⟨rfl,q,K,N⟩;clear F G H;go_wp2;go_ret;exact⟨rfl,q,K,(L.trans M (λ_ _ e=>e)).trans N (λ_ _ e=>e)⟩
theorem Dt{w:AC}{g off cap a s n:Nat}{d:Array Int}(h:Zj w g off d)(p:Fp w s n)(i:s≠g)(D:1<=a)(A:a+1<d.size)(B:n<=900)(j:d.size<=1099511627776) :
  DJ Tryz.prog 231 #[.slice (AF ⟨g,off,AI⟩) d.size cap,.int .i64 a,.pointer (AF ⟨s,0,AI⟩)] w λe k =>
   e=.returned (.int .i64 (IF I4 d a n).1)/\Fp k s (IF I4 d a n).2/\Zj k g off d/\Xy (·=s) w k:=by
 have q:=Dn (cap:=cap) (a:=a-1) (b:=a) (c:=a+1) h p i (by omega) (by omega) A B j;have m:((a-1:Nat):Int)=(a:Int)-1:=by omega
 have o:((a+1:Nat):Int)=(a:Int)+1:=by omega
 rw[m,o]at q;unfold IF;clear m o h p;go_enter Tryz.func231,Tryz.ntmps231;go_wp2_with(go_at_call 232;refine q.mono ?_;rintro e E ⟨rfl,f,z,C⟩);go_ret;exact⟨rfl,f,z,C⟩
theorem Fp.new(w:AC):Fp (w.alloc (.cells #[.int .i64 0] 3)) w.heap.size 0:=Qy w _
theorem Zj.lt(h:Zj w g off d):g<w.heap.size:=by obtain⟨cs,f,_⟩:=h;exact Qt f
theorem T9{g off cap a b:Nat}(h:Zj w g off d)(N:12<b-a)(hb:b<=d.size)(A:d.size<=1099511627776) :
  DJ Tryz.prog 220 #[.slice (AF ⟨g,off,AI⟩) d.size cap,.int .i64 a,.int .i64 b] w λe C =>
   e=.returned (.tuple #[.int .i64 (IG I4 d a b).1,.int .i64 (hintCode (IG I4 d a b).2)])/\Zj C g off d/\Xy No w C:=by
 obtain⟨l,W⟩:∃l:Nat,b-a=l:=⟨_,rfl⟩;obtain⟨q,O⟩:∃q:Nat,l/4=q:=⟨_,rfl⟩;have e0:(b:Int)-(a:Int)=(l:Int):=by omega
 have e1:(l:Int).tdiv 4=(q:Int):=by rw[<- O];rfl
 have aB:(8:Int)<=(l:Int):=by omega
 have aC:(l:Int)<=1099511627776:=by omega
 have aD:(q:Int)<=1099511627776:=by omega
 have aA:(a:Int)<=1099511627776:=by omega
 have S:Xy No w (w.alloc (.cells #[.int .i64 0] 3)):=(Xy.refl _ _).alloc _;have p:w.heap.size≠g:=by have:=h.lt;omega
 have V:=h.keep S id;have D:=Fp.new w;have k:∀r:Nat×Nat,IH I4 d a b=r->IG I4 d a b=(r.1,II r.2):=λr G=>by rw[choosePivot_eq,G]
 by_cases L:50<=l
 ·have M:(50:Int)<=(l:Int):=by omega
  have m1:=Dt (cap:=cap) (a:=a+q) (n:=0) V D p (by omega) (by omega) (by omega) A;have c1:=IJ I4 d (a+q) 0;have n1:=IK I4 d (a+q) 0;have G:IH I4 d a b=IE I4 d (IF I4 d (a+q) 0).1 (IF I4 d (a+q*2) (IF I4 d (a+q) 0).2).1
    (IF I4 d (a+q*3) (IF I4 d (a+q*2) (IF I4 d (a+q) 0).2).2).1 (IF I4 d (a+q*3) (IF I4 d (a+q*2) (IF I4 d (a+q) 0).2).2).2:=by
   unfold IH;rw[W,O,if_pos (by omega),if_pos L,DY]
  generalize IF I4 d (a+q) 0=I at *;have m2:=λ(C:AC) (h:Zj C g off d) (P:Fp C w.heap.size I.2)=>Dt (cap:=cap) (a:=a+q*2) (n:=I.2) h P p (by omega) (by omega) (by omega) A;have c2:=IJ I4 d (a+q*2) I.2;have n2:=IK I4 d (a+q*2) I.2;generalize IF I4 d (a+q*2) I.2=J at *;have m3:=λ(C:AC) (h:Zj C g off d) (P:Fp C w.heap.size J.2)=>Dt (cap:=cap) (a:=a+q*3) (n:=J.2) h P p (by omega) (by omega) (by omega) A;have c3:=IJ I4 d (a+q*3) J.2;have n3:=IK I4 d (a+q*3) J.2;generalize IF I4 d (a+q*3) J.2=U at *;have T:=λ(C:AC) (h:Zj C g off d) (P:Fp C w.heap.size U.2)=>Dn (cap:=cap) (a:=I.1) (b:=J.1) (c:=U.1) (n:=U.2) h P p (by omega) (by omega) (by omega) (by omega) A;have o:=k _ G;generalize IE I4 d I.1 J.1 U.1 U.2=j at *;have H:=BX (A6 m1 m2 m3 T o S);clear m1 m2 m3 T o S h V D k G c1 c2 c3 n1 n2 n3 W O N hb;go_enter Tryz.func220,Tryz.ntmps220;go_wp2_with fail;refine H.out.1.mono ?_;rintro e w1⟨rfl,Y,g1,k1⟩;go_wp2_with fail;refine(H.out.2.1 _ g1 Y).mono ?_;rintro e w2⟨rfl,Z,g2,k2⟩;go_wp2_with fail;refine(H.out.qc _ g2 Z).mono ?_;rintro e w3⟨rfl,b3,g3,k3⟩;go_wp2_with fail;refine(H.out.qd _ g3 b3).mono ?_;rintro e X⟨rfl,K,E,R⟩;have z:=Qq K 0;simp at z;have F:Xy No w X:=H.out.2.2.2.2.2.absorb (((k1.trans k2 (λ_ _ e=>e)).trans k3 (λ_ _ e=>e)).trans R (λ_ _ e=>e)) (λb e=>by have e:b=w.heap.size:=e;omega);clear Y Z b3 g1 g2 g3 k1 k2 k3 R K;by_cases B:j.2=0
  ·have f:(j.2:Int)=0:=by omega
   rw[f]at z;have m:=BX B;clear B f;go_wp2;go_ret2;rw[H.out.qe];simp only[];rw[m.out];exact⟨rfl,E,F⟩
  ·by_cases i:j.2=12
   ·have f:(j.2:Int)=12:=by omega
    rw[f]at z;have m:=BX i;clear B i f;go_wp2;go_ret2;rw[H.out.qe];simp only[];rw[m.out];exact⟨rfl,E,F⟩
   ·have f:((j.2:Int)==0)=false:=by simp;omega
    have Q:((j.2:Int)==12)=false:=by simp;omega
    have m:=BX (A2 B i);clear B i;go_wp2;go_ret2;rw[H.out.qe];have e:II j.2=.unknown:=by unfold II;rw[if_neg m.out.1,if_neg m.out.2]
    simp only[e];exact⟨rfl,E,F⟩
 ·have M:¬(50:Int)<=(l:Int):=by omega
  have T:=Dn (cap:=cap) (a:=a+q) (b:=a+q*2) (c:=a+q*3) (n:=0) V D p (by omega) (by omega) (by omega) (by omega) A;have G:IH I4 d a b=IE I4 d (a+q) (a+q*2) (a+q*3) 0:=by unfold IH;rw[W,O,if_pos (by omega),if_neg L,DY]
  have o:=k _ G;generalize IE I4 d (a+q) (a+q*2) (a+q*3) 0=j at *;have H:=BX (A3 T o S);clear T o S h V D k G W O N hb;go_enter Tryz.func220,Tryz.ntmps220;go_wp2_with fail;refine H.out.1.mono ?_;rintro e X⟨rfl,K,E,R⟩;have z:=Qq K 0;simp at z;have F:Xy No w X:=H.out.2.2.absorb R (λb e=>by have e:b=w.heap.size:=e;omega);clear R K;by_cases B:j.2=0
  ·have f:(j.2:Int)=0:=by omega
   rw[f]at z;have m:=BX B;clear B f;go_wp2;go_ret2;rw[H.out.2.1];simp only[];rw[m.out];exact⟨rfl,E,F⟩
  ·by_cases i:j.2=12
   ·have f:(j.2:Int)=12:=by omega
    rw[f]at z;have m:=BX i;clear B i f;go_wp2;go_ret2;rw[H.out.2.1];simp only[];rw[m.out];exact⟨rfl,E,F⟩
   ·have f:((j.2:Int)==0)=false:=by simp;omega
    have Q:((j.2:Int)==12)=false:=by simp;omega
    have m:=BX (A2 B i);clear B i;go_wp2;go_ret2;rw[H.out.2.1];have e:II j.2=.unknown:=by unfold II;rw[if_neg m.out.1,if_neg m.out.2]
    simp only[e];exact⟨rfl,E,F⟩
theorem Dl{d:Array Int}(h:i<=j)(f:p d[i]! = true):IL p d j i=IL p d j (i+1):=by
 conv=>lhs;rw[IL]
 simp[h,f]
theorem Ka{d:Array Int}(h:¬i<=j\/p d[i]! = false):IL p d j i=i:=by rw[IL];rcases h with h|h<;>simp[h]
theorem Mi{d:Array Int}(h:i<=j)(g:0<j)(f:p d[j]! = true):IM p d i j=IM p d i (j-1):=by
 obtain⟨k,rfl⟩:∃k,j=k+1:=⟨j-1,by omega⟩
 conv=>lhs;rw[IM]
 simp[h,f]
theorem Vb{d:Array Int}(h:¬i<=j\/p d[j]! = false):IM p d i j=j:=by
 cases j with
 | zero=>rfl
 | succ k =>
  rw[IM];rcases h with h|h<;>simp[h]
theorem T8{w:AC}{g off cap a b f:Nat}{d:Array Int}(h:Zj w g off d)(aQ:a<=f)(aR:f<b)(hb:b<=d.size)(aT:d.size<=1099511627776) :
  DJ Tryz.prog 224 #[.slice (AF ⟨g,off,AI⟩) d.size cap,.int .i64 a,.int .i64 b,.int .i64 f] w λe w' =>
   e=.returned (.int .i64 (IN I4 d a b f).1)/\Zj w' g off (IN I4 d a b f).2/\Xy (·=g) w w':=by
 have Y:(I1 d a f).size=d.size:=by rw[I2]
 unfold IN;obtain⟨U,P⟩:∃U,U=I1 d a f:=⟨_,rfl⟩;rw[<- P]at Y⊢;have HD:=BX P;clear P;have aS:(f:Int)<=1099511627776:=by omega
 have aO:(b:Int)<=1099511627776:=by omega
 have aN:(a:Int)<=1099511627776:=by omega
 go_enter Tryz.func224,Tryz.ntmps224;go_upto_region 1 with fail;go_cut [] (λE=>Zj E g off U/\Xy (·=g) w E);case first =>
  obtain⟨G,N⟩:∃G:Nat->Int,∀t,G t=d[t]!:=⟨λt=>d[t]!,λ_=>rfl⟩;have O:∀t,t<d.size->w.cell? ⟨g,off+t,AI⟩=AF (.int .u64 (G t)):=λt ht=>by rw[N];exact h.cell ht
  have aD:∀t,t<d.size->w.frozen? ⟨g,off+t,AI⟩=false:=λt _=>h.frozen t;have C:=(h.keep ((Xy.refl No w).drewN 1) id).swap (i:=a) (j:=f) (by omega) (by omega);rw[<- N,<- N,<- HD.out]at C;have p:=BX C;clear C h N;by_cases aC:a=f
  ·subst aC;go_region;all_goals go_wp2
   go_meet;exact⟨p.out.1,((Xy.refl _ _).drewN 1).trans p.out.2 (λ_ _ e=>e)⟩
  ·have aM:a<f:=by omega
   go_region;all_goals go_wp2
   go_meet;exact⟨p.out.1,((Xy.refl _ _).drewN 1).trans p.out.2 (λ_ _ e=>e)⟩
 case rest =>
  obtain⟨W,V⟩:=hcut;generalize wc=w1 at *;go_wp2;go_loopw [9,10] (λJ vj wr=>∃(i j:Nat) (o:Array Int),J=.int .i64 i/\vj=.int .i64 j/\a<i/\i<=j+1/\j<b/\o.size=d.size/\Zj wr g off o/\Xy (·=g) w wr/\IP I4 a i j o=IP I4 a (a+1) (b-1) U) (λJ vj _=>(C0 vj+1-C0 J).toNat);case atStart=>exact⟨a+1,b-1,U,by go_num,by congr 1;omega,by omega,by omega,by omega,Y,W,V,rfl⟩
  case round =>
   clear W V h;obtain⟨i,j,o,rfl,rfl,aL,aB,aP,aK,hR,hK,hI⟩:=hrel;obtain⟨G,N⟩:∃G:Nat->Int,∀t,G t=o[t]!:=⟨λt=>o[t]!,λ_=>rfl⟩;obtain⟨m,Q⟩:∃m,m=IL (λx=>!I4 o[a]! x) o j i:=⟨_,rfl⟩;obtain⟨q,R⟩:∃q,q=IM (λx=>I4 o[a]! x) o m j:=⟨_,rfl⟩;have H:=scanUp_spec (λx=>!I4 o[a]! x) o j _ i rfl;have I:=scanDown_spec (λx=>I4 o[a]! x) o m j;have hL:=partEqLoop_eq I4 a i j o;rw[<- Q]at H hL;rw[<- R]at I hL;have b1:i<=m:=H.1;have b2:m<=j+1:=H.2.1 aB;have b3:q<=j:=I.1;have b4:m<=q+1:=I.2.1 b2;have b5:¬q<m->m<q:=λhn=>by
    have f1:=H.2.2.2 (by omega);have f2:=I.2.2.2 (by omega) (by omega);rcases Nat.lt_or_ge m q with h|h
    ·exact h
    ·have e:m=q:=by omega
     simp only[e]at f1;simp only[f2]at f1;cases f1
   have n:=BX (A7 hI N hR hK hL Q R);clear hI N hR hK hL Q R H I;go_upto_block 2 with fail;go_cut [9] (λv E=>v=.int .i64 m/\Xy No wr E);case first =>
    go_wp2;go_loopw [9] (λJ T=>∃(k:Nat),J=.int .i64 k/\i<=k/\k<=j+1/\Xy No wr T/\IL (λx=>!I4 o[a]! x) o j k=m) (λJ _=>(((j:Int)+1)-C0 J).toNat);case atStart=>exact⟨i,rfl,BE _,aB,Xy.refl _ _,n.out.2.2.2.2.2.1.symm⟩
    case round =>
     obtain⟨k,rfl,aF,aJ,A,X⟩:=hrel;have O:∀t,t<d.size->wr.cell? ⟨g,off+t,AI⟩=AF (.int .u64 (G t)):=λt ht=>by rw[n.out.2.1];exact(n.out.2.2.1.keep A id).cell (by omega)
     have p:=BX (A2 X A);clear X A;by_cases z:k<=j
     ·have S:(k:Int)<=(j:Int):=by omega
      have aH:a<d.size:=by omega
      have aI:k<d.size:=by omega
      go_wp2;go_quiet (first|(go_at_call 223;refine I8 (Zw _ _ _)));go_wp2
      ·have B:(!I4 (G a) (G k))=true:=by assumption
       go_roundw;case rel=>exact⟨k+1,by go_num,by omega,by omega,p.out.2.drewN _,by rw[<- Dl z (by rw[<- n.out.2.1,<- n.out.2.1];exact B)];exact p.out.1⟩
       case measure=>simp[C0];omega
      ·have B:(!I4 (G a) (G k))=false:=by assumption
       go_meet;exact⟨by rw[<- p.out.1,Ka (Or.inr (by rw[<- n.out.2.1,<- n.out.2.1];exact B))],p.out.2.drewN _⟩
     ·have S:¬(k:Int)<=(j:Int):=by omega
      go_wp2;go_quiet (first|(go_at_call 223;refine I8 (Zw _ _ _)));go_wp2;go_meet;exact⟨by rw[<- p.out.1,Ka (Or.inl z)],p.out.2.drewN _⟩
   case rest =>
    obtain⟨rfl,A⟩:=hcut;generalize wc=w2 at *;go_upto_block 4 with fail;go_cut [10] (λv E=>v=.int .i64 q/\Xy No wr E);case first =>
     go_wp2;go_loopw [10] (λJ T=>∃(k:Nat),J=.int .i64 k/\k<=j/\m<=k+1/\Xy No wr T/\IM (λx=>I4 o[a]! x) o m k=q) (λJ _=>(C0 J).toNat);case atStart=>exact⟨j,rfl,BE _,b2,A,n.out.2.2.2.2.2.2.symm⟩
     case round =>
      clear A;obtain⟨k,rfl,aJ,aF,A,X⟩:=hrel;have O:∀t,t<d.size->wr.cell? ⟨g,off+t,AI⟩=AF (.int .u64 (G t)):=λt ht=>by rw[n.out.2.1];exact(n.out.2.2.1.keep A id).cell (by omega)
      have p:=BX (A2 X A);clear X A;by_cases z:m<=k
      ·have S:(m:Int)<=(k:Int):=by omega
       have aH:a<d.size:=by omega
       have aI:k<d.size:=by omega
       have aG:0<k:=by omega
       go_wp2;go_quiet (first|(go_at_call 223;refine I8 (Zw _ _ _)));go_wp2
       ·have B:I4 (G a) (G k)=true:=by assumption
        go_roundw;case rel=>exact⟨k-1,by congr 1;omega,by omega,by omega,p.out.2.drewN _,by rw[<- Mi z aG (by rw[<- n.out.2.1,<- n.out.2.1];exact B)];exact p.out.1⟩
        case measure=>simp[C0];omega
       ·have B:I4 (G a) (G k)=false:=by assumption
        go_meet;exact⟨by rw[<- p.out.1,Vb (Or.inr (by rw[<- n.out.2.1,<- n.out.2.1];exact B))],p.out.2.drewN _⟩
      ·have S:¬(m:Int)<=(k:Int):=by omega
       go_wp2;go_quiet (first|(go_at_call 223;refine I8 (Zw _ _ _)));go_wp2;go_meet;exact⟨by rw[<- p.out.1,Vb (Or.inl z)],p.out.2.drewN _⟩
    case rest =>
     clear A;obtain⟨rfl,A⟩:=hcut;generalize wc=w3 at *;have D:=n.out.2.2.1.keep A id;have K:=n.out.2.2.2.1.trans A (λ_ _ e=>e.elim);by_cases Z:q<m
     ·have aA:(q:Int)<(m:Int):=by omega
      have L:=BX (A2 D K);clear D K A;go_wp2;go_ret;rw[<- n.out.1,n.out.qe,if_pos Z];exact⟨rfl,L.out.1,L.out.2⟩
     ·have aA:¬(q:Int)<(m:Int):=by omega
      have aE:=b5 Z;have O:∀t,t<d.size->w3.cell? ⟨g,off+t,AI⟩=AF (.int .u64 (G t)):=λt ht=>by rw[n.out.2.1];exact D.cell (by omega)
      have aD:∀t,t<d.size->w3.frozen? ⟨g,off+t,AI⟩=false:=λt _=>D.frozen t;have C:=(D.keep ((Xy.refl No w3).drewN 1) id).swap (i:=m) (j:=q) (by omega) (by omega);rw[<- n.out.2.1,<- n.out.2.1]at C;have F:∀E,Zj E g off (I1 o m q)->Xy (·=g) w E->∃(i' j':Nat) (M:Array Int),DA .i64 ((m:Int)+1)=.int .i64 i'/\DA .i64 ((q:Int)-1)=.int .i64 j'/\a<i'/\i'<=j'+1/\j'<b/\M.size=d.size/\Zj E g off M/\Xy (·=g) w E/\IP I4 a i' j' M=IP I4 a (a+1) (b-1) U:=λE h1 h2 =>
       ⟨m+1,q-1,I1 o m q,by go_num,by congr 1;omega,by omega,by omega,by omega,by rw[I2];exact aK,h1,h2,by rw[<- n.out.1,n.out.qe,if_neg (by omega)]⟩
      have L:=BX (A3 C (K.drewN 1) F);clear C F D K A b5;go_wp2;go_region;all_goals go_wp2
      go_roundw;case rel=>exact L.out.2.2 _ L.out.1.1 (L.out.2.1.trans L.out.1.2 (λ_ _ e=>e))
      case measure=>simp[C0];omega
theorem YE(h:256<=n):IQ n=8+IQ (n/256):=by
 have p:∀k:Nat,2^(8+k)=256*2^k:=λk=>by rw[Nat.pow_add]
 have g:0<n/256:=by omega
 apply Nat.le_antisymm
 ·have:=lt_two_pow_bitsLen (n/256);rw[IR,p];omega
 ·have i:¬IQ n<8+IQ (n/256):=λf=>by
   obtain⟨k,o⟩:∃k,IQ (n/256)=k+1:=by
    cases m:IQ (n/256)with
    | zero=>have:=(IR (n/256) 0).1 (by omega);simp at this;omega
    | succ k=>exact⟨k,rfl⟩
   have d:IQ n<=8+k:=by omega
   rw[IR,p]at d;have j:IQ (n/256)<=k:=by rw[IR];omega
   omega
  omega
theorem RT:∀n:Nat,n<256->IS n=IQ n/\IQ n<=8:=by
 have h:∀n:Fin 256,IS (n.val:Int)=IQ n.val/\IQ n.val<=8:=by decide +kernel
 exact λn d=>h ⟨n,d⟩
theorem NR(y:Int)(d:0<=y)(f:y<256)(h:y.toNat<Lib.len8tab.size):((IT[y.toNat]'h).toNat:Int)=IQ y.toNat/\IQ y.toNat<=8:=by have:=RT y.toNat (by omega);refine⟨?_,this.2⟩;rw[<- this.1];unfold IS;have e:((y.toNat:Nat):Int).toNat=y.toNat:=EO _;rw[e,getElem?_pos IT y.toNat h];rfl
theorem Co(a:Int)(d:0<=a)(f:a<=1000):wrap64 a=a:=by unfold wrap64;omega
theorem TJ:({data:=((([0,1,2,2,3,3,3,3,4,4,4,4,4,4,4,4,5,5,5,5,5,5,5,5,5,5,5,5,5,5,5,5,6,6,6,6,6,6,6,6,6,6,6,6,6,6,6,6,6,6,6,6,6,6,6,6,6,6,6,6,6,6,6,6]:List UInt8).append [7,7,7,7,7,7,7,7,7,7,7,7,7,7,7,7,7,7,7,7,7,7,7,7,7,7,7,7,7,7,7,7,7,7,7,7,7,7,7,7,7,7,7,7,7,7,7,7,7,7,7,7,7,7,7,7,7,7,7,7,7,7,7,7]).append (([8,8,8,8,8,8,8,8,8,8,8,8,8,8,8,8,8,8,8,8,8,8,8,8,8,8,8,8,8,8,8,8,8,8,8,8,8,8,8,8,8,8,8,8,8,8,8,8,8,8,8,8,8,8,8,8,8,8,8,8,8,8,8,8]:List UInt8).append [8,8,8,8,8,8,8,8,8,8,8,8,8,8,8,8,8,8,8,8,8,8,8,8,8,8,8,8,8,8,8,8,8,8,8,8,8,8,8,8,8,8,8,8,8,8,8,8,8,8,8,8,8,8,8,8,8,8,8,8,8,8,8,8])).toArray}:ByteArray)=IT:=by decide +kernel
theorem KL(x:Int)(g:0<=x)(m:x<65536)(w:AC):DJ Tryz.prog 227 #[.int .u64 x] w λe o=>e=.returned (.int .i64 (IQ x.toNat))/\o=w:=by
 have p:=BX (A2 g m);go_enter Tryz.func227,Tryz.ntmps227;rw[TJ];have z:x<4294967296:=by omega
 by_cases h:x<256
 ·go_wp2;go_ret;refine⟨congrArg IU (congrArg (DA IV) ?_),rfl⟩;have f:=NR x g h (by rw[IW];omega);rw[f.1,Co (IQ x.toNat:Int) (by omega) (by omega),Co _ (by omega) (by omega)]
 ·have q:x/256<(Lib.len8tab.size:Int):=by rw[IW];omega
  have d:(x/256).toNat<Lib.len8tab.size:=by rw[IW];omega
  have j:0<=x/256:=by omega
  have k:x/256<256:=by omega
  go_wp2;go_ret;refine⟨congrArg IU (congrArg (DA IV) ?_),rfl⟩;have f:=NR (x/256) j k d;have i:=YE (n:=x.toNat) (by omega);rw[show x.toNat/256=(x/256).toNat by omega]at i;rw[f.1,Co (IQ (x/256).toNat:Int) (by omega) (by omega),Co _ (by omega) (by omega),i];omega
theorem An(x:Int)(f:0<=x)(g:x<65536)(w:AC):DJ Tryz.prog 212 #[.int .u64 x] w λe d=>e=.returned (.int .i64 (IQ x.toNat))/\d=w:=by go_enter Tryz.func212,Tryz.ntmps212;go_wp2_with(go_at_call 227;refine(KL x f g _).mono ?_;rintro e d ⟨rfl,rfl⟩);go_ret;exact⟨rfl,rfl⟩
theorem NC(k:Nat)(d:k<=62):IntKind.u64.wrap ((2:Int)^k)=((1 <<< k:Nat):Int):=by have h:(2:Nat)^k<=2^62:=Nat.pow_le_pow_right (by decide) d;rw[IntKind.wrap_u64,Nat.one_shiftLeft,show((2:Int)^k)=((2^k:Nat):Int)by push_cast;rfl];generalize (2:Nat)^k=p at h;omega
theorem KO(n:Nat)(i:n<65536)(w:AC):DJ Tryz.prog 229 #[.int .i64 n] w λe f=>e=.returned (.int .u64 ((1 <<< IQ n:Nat):Int))/\f=w:=by
 have d:=λw=>An (n:Int) (by omega) (by omega) w;simp only[EO]at d;have g:IQ n<=62:=by rw[IR];omega
 have j:=NC (IQ n) g;have h:(n:Int)<65536:=by omega
 go_enter Tryz.func229,Tryz.ntmps229;go_wp2_with(go_at_call 212;refine(d _).mono ?_;rintro e f ⟨rfl,rfl⟩);go_ret;exact⟨rfl,rfl⟩
end Go.Proofs.YtfdmbomlkpkegaaGreat
