/- Lemmas. -/
import Derived.OrdersHeld
import Derived.Tactics
import Derived.Laws.World
import Derived.Test.YtfdmbomlkpkegaaGreatProg
import Derived.WalkKit
import Derived.WalkLawsBesides
import Derived.WalkSpells
import Derived.Maps.RangeRun
import Derived.Shelf.SlMaps.Clone
import Derived.Deep.AppendLies
import Derived.Lib.AppendZeros
import Derived.Lib.Hide
import Derived.BigQuiet
import Derived.Maps.OwnSet
import Derived.Lib.SlBytesConst
import Derived.Deep.QuietTactic
set_option maxRecDepth 100000
set_option maxHeartbeats 8000000
set_option linter.all false
set_option autoImplicit true
set_option relaxedAutoImplicit true
open Array renaming getElem?_eq_getElem->B9,getElem?_eq_some_iff->AO,getElem?_toList->B6,replicate->B3
open Bool renaming and_eq_true->AG,not_eq_true'->AR,or_eq_true->AH
open Go renaming Act->AB,Exit->AA,Oper->A1,Program->A0,Value->AM,World->AC,execOp->B4,maxLen->BH,mem_ready->AK,ready_mono->AN,wpList->AX,wpOp_mono->AL,wp_region_any->BB,yielded->AW
open Go.Act renaming put->AQ
open Go.Builtin renaming append->BQ,zeroCells->BU
open Go.Callee renaming builtin->BP
open Go.Code renaming region->BA
open Go.Lib renaming hid->BX
open Go.Oper renaming wp->BR,wp_mono->B1
open Go.Region renaming Mode->AD,binds->AE,noSelect->AP,ready->AJ,wanted->AV
open Go.Result renaming andThen->BS
open Go.Value renaming cells->BV
open Go.World.ownsRow renaming lt->BL
open List renaming all_append->BD,all_cons->B8,all_eq_true->AS,append_assoc->B7,append_nil->B5,eq_nil_of_length_eq_zero->BJ,flatten_append->BN,getElem?_eq_getElem->BY,getElem?_eq_some_iff->BK,getElem?_take->BI,isEmpty_iff->AY,length_append->BO,length_cons->AT,mem_singleton->AZ,replicate->BT,take_length->BZ,take_succ_eq_append_getElem->BM
open Nat renaming add_assoc->AU,add_comm->BC,le_refl->BE,le_trans->BF,lt_of_lt_of_le->BG,zero_le->BW
open Option renaming none->AI,some->AF
namespace And
theorem qc{p0 p1 p2 p3:Prop} (h:p0/\p1/\p2/\p3):p2:=h.2.2.1
theorem qd{p0 p1 p2 p3 p4:Prop} (h:p0/\p1/\p2/\p3/\p4):p3:=h.2.2.2.1
theorem re{p0 p1 p2 p3 p4:Prop} (h:p0/\p1/\p2/\p3/\p4):p4:=h.2.2.2.2
theorem qe{p0 p1 p2 p3 p4 p5:Prop} (h:p0/\p1/\p2/\p3/\p4/\p5):p4:=h.2.2.2.2.1
theorem rf{p0 p1 p2 p3 p4 p5:Prop} (h:p0/\p1/\p2/\p3/\p4/\p5):p5:=h.2.2.2.2.2
theorem qf{p0 p1 p2 p3 p4 p5 p6:Prop} (h:p0/\p1/\p2/\p3/\p4/\p5/\p6):p5:=h.2.2.2.2.2.1
theorem rg{p0 p1 p2 p3 p4 p5 p6:Prop} (h:p0/\p1/\p2/\p3/\p4/\p5/\p6):p6:=h.2.2.2.2.2.2
theorem qg{p0 p1 p2 p3 p4 p5 p6 p7:Prop} (h:p0/\p1/\p2/\p3/\p4/\p5/\p6/\p7):p6:=h.2.2.2.2.2.2.1
theorem rh{p0 p1 p2 p3 p4 p5 p6 p7:Prop} (h:p0/\p1/\p2/\p3/\p4/\p5/\p6/\p7):p7:=h.2.2.2.2.2.2.2
theorem qh{p0 p1 p2 p3 p4 p5 p6 p7 p8:Prop} (h:p0/\p1/\p2/\p3/\p4/\p5/\p6/\p7/\p8):p7:=h.2.2.2.2.2.2.2.1
theorem ri{p0 p1 p2 p3 p4 p5 p6 p7 p8:Prop} (h:p0/\p1/\p2/\p3/\p4/\p5/\p6/\p7/\p8):p8:=h.2.2.2.2.2.2.2.2
theorem qi{p0 p1 p2 p3 p4 p5 p6 p7 p8 p9:Prop} (h:p0/\p1/\p2/\p3/\p4/\p5/\p6/\p7/\p8/\p9):p8:=h.2.2.2.2.2.2.2.2.1
theorem rj{p0 p1 p2 p3 p4 p5 p6 p7 p8 p9:Prop} (h:p0/\p1/\p2/\p3/\p4/\p5/\p6/\p7/\p8/\p9):p9:=h.2.2.2.2.2.2.2.2.2
theorem qj{p0 p1 p2 p3 p4 p5 p6 p7 p8 p9 p10:Prop} (h:p0/\p1/\p2/\p3/\p4/\p5/\p6/\p7/\p8/\p9/\p10):p9:=h.2.2.2.2.2.2.2.2.2.1
theorem rk{p0 p1 p2 p3 p4 p5 p6 p7 p8 p9 p10:Prop} (h:p0/\p1/\p2/\p3/\p4/\p5/\p6/\p7/\p8/\p9/\p10):p10:=h.2.2.2.2.2.2.2.2.2.2
theorem qk{p0 p1 p2 p3 p4 p5 p6 p7 p8 p9 p10 p11:Prop} (h:p0/\p1/\p2/\p3/\p4/\p5/\p6/\p7/\p8/\p9/\p10/\p11):p10:=h.2.2.2.2.2.2.2.2.2.2.1
theorem rl{p0 p1 p2 p3 p4 p5 p6 p7 p8 p9 p10 p11:Prop} (h:p0/\p1/\p2/\p3/\p4/\p5/\p6/\p7/\p8/\p9/\p10/\p11):p11:=h.2.2.2.2.2.2.2.2.2.2.2
theorem ql{p0 p1 p2 p3 p4 p5 p6 p7 p8 p9 p10 p11 p12:Prop} (h:p0/\p1/\p2/\p3/\p4/\p5/\p6/\p7/\p8/\p9/\p10/\p11/\p12):p11:=h.2.2.2.2.2.2.2.2.2.2.2.1
end And
namespace Go
theorem A2{d f : Prop}(g : d)(h : f) : d /\ f := ⟨g, h⟩
theorem A3{d f g : Prop}(h : d)(i : f)(j : g) : d /\ f /\ g := ⟨h, i, j⟩
theorem A4{d f g h : Prop}(i : d)(j : f)(k : g)(m : h) : d /\ f /\ g /\ h := ⟨i, j, k, m⟩
theorem A5{d f g h i : Prop}(j : d)(k : f)(m : g)(n : h)(o : i) : d /\ f /\ g /\ h /\ i := ⟨j, k, m, n, o⟩
theorem A6{d f g h i j : Prop}(k : d)(m : f)(n : g)(o : h)(p : i)(q : j) : d /\ f /\ g /\ h /\ i /\ j := ⟨k, m, n, o, p, q⟩
theorem A7{d f g h i j k : Prop}(m : d)(n : f)(o : g)(p : h)(q : i)(w : j)(z : k) : d /\ f /\ g /\ h /\ i /\ j /\ k := ⟨m, n, o, p, q, w, z⟩
theorem A8{d f g h i j k m : Prop}(n : d)(o : f)(p : g)(q : h)(w : i)(z : j)(A : k)(B : m) : d /\ f /\ g /\ h /\ i /\ j /\ k /\ m := ⟨n, o, p, q, w, z, A, B⟩
theorem A9{d f g h i j k m n : Prop}(o : d)(p : f)(q : g)(w : h)(z : i)(A : j)(B : k)(C : m)(D : n) : d /\ f /\ g /\ h /\ i /\ j /\ k /\ m /\ n := ⟨o, p, q, w, z, A, B, C, D⟩
theorem A10{d f g h i j k m n o : Prop}(p : d)(q : f)(w : g)(z : h)(A : i)(B : j)(C : k)(D : m)(E : n)(F : o) : d /\ f /\ g /\ h /\ i /\ j /\ k /\ m /\ n /\ o := ⟨p, q, w, z, A, B, C, D, E, F⟩
theorem A11{g h i j k m n o p q d : Prop}(w : g)(z : h)(A : i)(B : j)(C : k)(D : m)(E : n)(F : o)(G : p)(H : q)(f : d) : g /\ h /\ i /\ j /\ k /\ m /\ n /\ o /\ p /\ q /\ d := ⟨w, z, A, B, C, D, E, F, G, H, f⟩
theorem A12{i j k m n o p q w z d f : Prop}(A : i)(B : j)(C : k)(D : m)(E : n)(F : o)(G : p)(H : q)(I : w)(J : z)(g : d)(h : f) : i /\ j /\ k /\ m /\ n /\ o /\ p /\ q /\ w /\ z /\ d /\ f := ⟨A, B, C, D, E, F, G, H, I, J, g, h⟩
theorem A13{k m n o p q w z A B d f g : Prop}(C : k)(D : m)(E : n)(F : o)(G : p)(H : q)(I : w)(J : z)(K : A)(L : B)(h : d)(i : f)(j : g) : k /\ m /\ n /\ o /\ p /\ q /\ w /\ z /\ A /\ B /\ d /\ f /\ g := ⟨C, D, E, F, G, H, I, J, K, L, h, i, j⟩
theorem A14{n o p q w z A B C D d f g h : Prop}(E : n)(F : o)(G : p)(H : q)(I : w)(J : z)(K : A)(L : B)(M : C)(N : D)(i : d)(j : f)(k : g)(m : h) : n /\ o /\ p /\ q /\ w /\ z /\ A /\ B /\ C /\ D /\ d /\ f /\ g /\ h := ⟨E, F, G, H, I, J, K, L, M, N, i, j, k, m⟩
theorem A15{p q w z A B C D E F d f g h i : Prop}(G : p)(H : q)(I : w)(J : z)(K : A)(L : B)(M : C)(N : D)(O : E)(R : F)(j : d)(k : f)(m : g)(n : h)(o : i) : p /\ q /\ w /\ z /\ A /\ B /\ C /\ D /\ E /\ F /\ d /\ f /\ g /\ h /\ i := ⟨G, H, I, J, K, L, M, N, O, R, j, k, m, n, o⟩
theorem A16{w z A B C D E F G H d f g h i j : Prop}(I : w)(J : z)(K : A)(L : B)(M : C)(N : D)(O : E)(R : F)(U : G)(V : H)(k : d)(m : f)(n : g)(o : h)(p : i)(q : j) : w /\ z /\ A /\ B /\ C /\ D /\ E /\ F /\ G /\ H /\ d /\ f /\ g /\ h /\ i /\ j := ⟨I, J, K, L, M, N, O, R, U, V, k, m, n, o, p, q⟩
end Go
namespace Go.Dr
open Go
section
variable {P:A0}{ops:Array A1}{Q:AA->AB->AC->Prop}{md:AD}{S:AC->Prop}{T:Nat->Bool}
def Rd (md:AD)(ops:Array A1):Nat->Nat->Nat->Bool
 | 0,_,_=>false
 | f+1,j,i=>((ops[j]?).map (·.after.any λe=>AE md e&&(e.on==i || Rd md ops f e.on i))).getD false
def Ya (md:AD)(ops:Array A1)(d:Array Bool):Prop :=
 ∀j o,ops[j]?=AF o->d.getD j false=true->∀e∈o.after,AE md e=true->d.getD e.on false=true
theorem Fi{d:Array Bool}(h:d.getD i true=false):d.getD i false=false:=by
 rcases Nat.lt_or_ge i d.size with f|f
 ·simp[f]at h⊢;exact h
 ·simp[Array.getElem?_eq_none f]at h
theorem XT(q:Ya md ops d):∀f j i o,ops[j]?=AF o ->
  (∀e∈o.after,AE md e=true->d.getD e.on false=true)->Rd md ops f j i=true->d.getD i false=true:=by
 intro f
 induction f with
 | zero=>intro j i o _ _ h;simp[Rd]at h
 | succ f A =>
  intro j i o z m h;simp only[Rd,z,Option.map_some,Option.getD_some]at h;obtain⟨e,w,g⟩:=Array.any_eq_true'.1 h;simp only[AG,AH,beq_iff_eq]at g;have n:=m e w g.1;rcases g.2 with g|g
  ·rw[<- g];exact n
  ·cases k:ops[e.on]? with
   | none =>
    cases f with
    | zero=>simp[Rd]at g
    | succ f=>simp[Rd,k]at g
   | some p=>exact A e.on i p k (q e.on p k n) g
theorem Ya.set(q:Ya md ops d)(hi:i∈AJ md ops d) :
  Ya md ops (d.setIfInBounds i true):=by
 intro j o p n e m k;by_cases g:i=j
 ·subst g;obtain⟨_,w,h,f⟩:=AK.1 hi;rw[p]at h;cases h;exact getD_set_true (f e m k)
 ·rw[getD_set_ne false g]at n;exact getD_set_true (q j o p n e m k)
def Vk (P:A0)(md:AD)(ops:Array A1)(Q:AA->AB->AC->Prop)(S:AC->Prop)(T:Nat->Bool) :
  Nat->Array Bool->AB->AC->Prop
 | 0,d,a,w=>AJ md ops d=[]/\Q .normal a w
 | f+1,d,a,w =>
  (AJ md ops d=[]->Q .normal a w) /\
  ∀i∈AJ md ops d,wpOp P ops Q i (λh g=>(T i=false->S g)/\Vk P md ops Q S T f (d.setIfInBounds i true) h g) a w
theorem Vt:∀(d:Nat) (f:Array Bool) (a:AB) (w:AC),Vk P md ops Q S T d f a w->wpAny P md ops Q d f a w
 | 0,_,_,_,h=>h
 | d+1,_,_,_,h=>⟨h.1,λi hi=>AL (λg k j=>Vt d _ g k j.2) (h.2 i hi)⟩
theorem YX(hi:ops[i]?=AF F)(C:∀(j:Nat) (o:A1) cs b,ops[j]?=AF o->o.op≠.select cs b)(Z:∀c a w,Q (.panic c) (a.put F.dst v) w->Q (.panic c) a w)(aA:T i=false)(hT:∀j,j<ops.size->T j=true->Rd md ops ops.size j i=true) :
  ∀(f:Nat) (d:Array Bool) (a:AB) (w:AC),Ya md ops d ->
   (∀j D,ops[j]?=AF D->j≠i->d.getD j true=false->(∀e∈D.after,AE md e=true->e.on≠i)->F.apart ops D=true) ->
   i∈AJ md ops d->YieldsIf P ops S F v a->S w ->
   Vk P md ops Q S T f (d.setIfInBounds i true) (a.put F.dst v) w->Vk P md ops Q S T (f+1) d a w:=by
 intro f
 induction f with
 | zero =>
  intro d a w _ _ E R G H;refine⟨λh=>(by rw[h]at E;cases E),λj J=>?_⟩;by_cases g:j=i
  ·subst g;exact R.wpOp hi G ⟨λ_=>G,H⟩
  ·have:=AN J g;rw[H.1]at this;cases this
 | succ f ih =>
  intro d a w I m E R G H;refine⟨λh=>(by rw[h]at E;cases E),λj J=>?_⟩;by_cases g:j=i
  ·subst g;exact R.wpOp hi G ⟨λ_=>G,H⟩
  ·have Y:=H.2 j (AN J g);obtain⟨B,D,n,z⟩:=AK.1 J;have A:=Fi (AK.1 E).1;have L:∀e∈D.after,AE md e=true->e.on≠i:=λe he hb U=>by
    have N:=z e he hb;rw[U,A]at N;cases N
   have p:T j=false:=by
    cases p:T j with
    | false=>rfl
    | true =>
     have hn:=hT j (AO.1 n).1 p;have:=XT I _ j i D n z hn;rw[A]at this;cases this
   have N:=wpOp_putIf n (m j D n g B L) (λcs b=>C i F cs b hi) (λcs b=>C j D cs b n) Z R Y;have q:∀k ok,ops[k]?=AF ok->k≠i->(d.setIfInBounds j true).getD k true=false ->
     (∀e∈ok.after,AE md e=true->e.on≠i)->F.apart ops ok=true:=λk ok hk V M W=>by
    refine m k ok hk V ?_ W;by_cases K:j=k
    ·subst K;exact B
    ·rw[getD_set_ne true K]at M;exact M
   refine AL (λX w' O=>⟨λ_=>O.2.1 p,ih (d.setIfInBounds j true) X w' (I.set J) q (AN E (Ne.symm g)) O.1 (O.2.1 p) ?_⟩) N;rw[Array.setIfInBounds_comm _ _ g];exact O.2.2
def Zo (ops:Array A1):List Nat->List A1->Prop
 | [],[]=>True
 | i::r,o::l=>ops[i]?=AF o/\Zo ops r l
 | _,_=>False
theorem Zo.nil:Zo ops [] []:=trivial
theorem Zo.cons{i:Nat}{o:A1}{r:List Nat}{l:List A1}(h:ops[i]?=AF o)(t:Zo ops r l):Zo ops (i::r) (o::l):=⟨h,t⟩
theorem Zo.rec'{C:(t:List Nat)->(a:List A1)->Zo ops t a->Prop}(h0:C [] [] Zo.nil)(h1:∀i o r l (h:ops[i]?=AF o) (t:Zo ops r l),C r l t->C (i::r) (o::l) (Zo.cons h t)) :
  ∀{t:List Nat} {a:List A1} (h:Zo ops t a),C t a h:=by
 intro t
 induction t with
 | nil =>
  intro a h;cases a with
  | nil=>exact h0
  | cons=>exact h.elim
 | cons i r ih =>
  intro a h;cases a with
  | nil=>exact h.elim
  | cons o l=>exact h1 i o r l h.1 h.2 (ih h.2)
def Vw (P:A0)(ops:Array A1)(S:AC->Prop)(K:AB->Prop):List A1->AB->Prop
 | [],a=>K a
 | o::r,a=>∃v,o.dst.isSome=true/\YieldsIf P ops S o v a/\Vw P ops S K r (a.put o.dst v)
def Ym (md:AD)(ops:Array A1)(T:Nat->Bool):List Nat->Array Bool->Bool
 | [],_=>true
 | i::r,d=>Region.free md ops d i&&(AJ md ops d).contains i && !T i &&
   (List.range ops.size).all (λj=>!T j || Rd md ops ops.size j i)&&Ym md ops T r (d.setIfInBounds i true)
def Zm:List Nat->Array Bool->Array Bool
 | [],l=>l
 | i::r,l=>Zm r (l.setIfInBounds i true)
theorem Yw(N:AP ops=true)(D:∀c a d v w,Q (.panic c) (AQ a (AF d) v) w->Q (.panic c) a w)(F:S w) :
  ∀(E:List Nat) (p:List A1),Zo ops E p->∀(g:Nat) (f:Array Bool) (a:AB),Ya md ops f->Ym md ops T E f=true->Vw P ops S K p a ->
   (∀C,K C->Vk P md ops Q S T g (Zm E f) C w)->Vk P md ops Q S T (g+E.length) f a w:=by
 intro E p L
 induction L using Zo.rec' with
 | h0=>intro g f a _ _ h q;exact q a h
 | h1 i o r l hi _ R =>
  intro g f a k n h q;obtain⟨v,H,O,h⟩:=h;simp only[Ym,AG,AR,AS,List.mem_range,AH]at n;obtain⟨⟨⟨⟨I,M⟩,z⟩,G⟩,n⟩:=n;have m:i∈AJ md ops f:=by simpa using M
  obtain⟨d,B⟩:=Option.isSome_iff_exists.1 H;rw[AT,<- AU];refine YX hi (Region.noSelect_spec N) (λc a w=>by rw[B];exact D c a d v w) z (λj J A=>(G j J).resolve_left (by simp[A]))
   (g+r.length) f a w k (Region.free_spec hi I) m O F ?_
  exact R g _ _ (k.set m) n h q
def Js (md:AD)(ops:Array A1):List Nat->Array Bool->Bool
 | [],d=>(AJ md ops d).isEmpty
 | i::r,d=>AJ md ops d==[i]&&Js md ops r (d.setIfInBounds i true)
def Ug (P:A0)(ops:Array A1)(Q:AA->AB->AC->Prop)(S:AC->Prop)(K:AB->AC->Prop):List A1->AB->AC->Prop
 | [],a,w=>K a w
 | o::r,a,w=>if AV o (AW ops a.tmps)then o.wp P a w (λf d=>S d/\Ug P ops Q S K r f d) Q else S w/\Ug P ops Q S K r (a.put o.dst undef) w
theorem RS(f:Nat):∀(t:List Nat) (m:List A1),Zo ops t m->t.length=f->∀(d:Array Bool) (a:AB) (w:AC),(∀i∈t,T i=true)->Js md ops t d=true ->
  AX P ops Q m a w->Vk P md ops Q S T f d a w:=by
 intro t m z
 induction z using Zo.rec' generalizing f with
 | h0 =>
  rintro rfl d a w _ g h;simp only[Js,AY]at g;exact⟨g,h⟩
 | h1 i o r l hi _ A =>
  rintro rfl d a w n g h;simp only[Js,AG,beq_iff_eq]at g;refine⟨λh0=>(by rw[g.1]at h0;cases h0),λj k=>?_⟩;rw[g.1,AZ]at k;subst k;refine AL (λp B q=>⟨λk=>(by rw[n j (by simp)]at k;cases k),A r.length rfl _ p B (λi hi=>n i (by simp[hi])) g.2 q⟩) ?_;unfold wpOp;simp only[hi];exact h
theorem Px:∀(m:List Nat) (A:List A1),Zo ops m A->∀(d:Nat) (t:List Nat) (k:List A1),Zo ops t k->d=m.length+t.length->∀(g:Array Bool) (a:AB) (w:AC),
  (∀i∈t,T i=true)->Js md ops (m++t) g=true->Ug P ops Q S (AX P ops Q k) A a w->Vk P md ops Q S T d g a w:=by
 intro m A G
 induction G using Zo.rec' with
 | h0=>intro d t k z p g a w q n h;exact RS d t k z (by simpa using p.symm) g a w q n h
 | h1 i o r l hi _ E =>
  intro d t k z p g a w q n h;simp only[List.cons_append,Js,AG,beq_iff_eq]at n;obtain⟨d,rfl⟩:∃f,d=f+1:=⟨r.length+t.length,by simp at p;omega⟩;refine⟨λh0=>(by rw[n.1]at h0;cases h0),λj D=>?_⟩;rw[n.1,AZ]at D;subst D;unfold Ug at h;unfold wpOp;simp only[hi]
  split
  ·rename_i B;rw[if_pos B]at h;exact .inl (B1 (λF H C=>⟨λ_=>C.1,E d t k z (by simp at p;omega) _ F H q n.2 C.2⟩) h)
  ·rename_i B;rw[if_neg B]at h;exact⟨λ_=>h.1,E d t k z (by simp at p;omega) _ _ w q n.2 h.2⟩
def Wh (ops:Array A1)(E m t:List Nat):Bool :=
 AP ops&&Ym .any ops t.contains E (B3 ops.size false)&&Js .any ops (m++t) (Zm E (B3 ops.size false)) &&
  (E.length+(m.length+t.length)==ops.size)
def Yc (P:A0)(ops:Array A1)(S:AC->Prop)(K:List A1->AB->Prop):List Nat->List A1->AB->Prop
 | [],l,a=>K l a
 | i::r,l,a=>∃o v,ops.toList[i]?=AF o/\o.dst.isSome=true/\YieldsIf P ops S o v a/\Yc P ops S K r (l++[o]) (a.put o.dst v)
theorem Qj(h:K l a):Yc P ops S K [] l a:=h
theorem Qk(hi:ops.toList[i]?=AF o)(d:o.dst.isSome=true)(f:o.guard=AI)(g:∀w,S w->(B4 a.eval o).run P w=.ok (.value v) w)(h:Yc P ops S K r (l++[o]) (a.put o.dst v)):Yc P ops S K (i::r) l a :=
 ⟨o,v,hi,d,.inl ⟨by simp[AV,f],g⟩,h⟩
theorem Qe(hi:ops.toList[i]?=AF o)(d:o.dst.isSome=true)(f:AV o (AW ops a.tmps)=true)(g:∀w,S w->(B4 a.eval o).run P w=.ok (.value v) w)(h:Yc P ops S K r (l++[o]) (a.put o.dst v)):Yc P ops S K (i::r) l a :=
 ⟨o,v,hi,d,.inl ⟨f,g⟩,h⟩
theorem Sh(hi:ops.toList[i]?=AF o)(d:o.dst.isSome=true)(f:AV o (AW ops a.tmps)=false)(h:Yc P ops S K r (l++[o]) (a.put o.dst undef)):Yc P ops S K (i::r) l a :=
 ⟨o,undef,hi,d,.inr ⟨f,rfl⟩,h⟩
def Rb (P:A0)(ops:Array A1)(Q:AA->AB->AC->Prop):List Nat->List A1->AB->AC->Prop
 | [],l,a,w=>AX P ops Q l a w
 | i::r,l,a,w=>∃o,ops.toList[i]?=AF o/\Rb P ops Q r (l++[o]) a w
theorem Qm(h:AX P ops Q l a w):Rb P ops Q [] l a w:=h
theorem Qu(hi:ops.toList[i]?=AF o)(h:Rb P ops Q r (l++[o]) a w):Rb P ops Q (i::r) l a w:=⟨o,hi,h⟩
def Ru (P:A0)(ops:Array A1)(Q:AA->AB->AC->Prop)(S:AC->Prop)(K:AB->AC->Prop):List Nat->AB->AC->Prop
 | [],a,w=>K a w
 | i::r,a,w=>∃o,ops.toList[i]?=AF o/\if AV o (AW ops a.tmps)then o.wp P a w (λf d=>S d/\Ru P ops Q S K r f d) Q else S w/\Ru P ops Q S K r (a.put o.dst undef) w
theorem Qh(h:K a w):Ru P ops Q S K [] a w:=h
theorem Qx(hi:ops.toList[i]?=AF o)(g:o.guard=AI)(h:∀d:AB->AC->Prop,(∀a w,S w->Ru P ops Q S K r a w->d a w)->o.wp P a w d Q):Ru P ops Q S K (i::r) a w:=by unfold Ru;refine⟨o,hi,?_⟩;rw[if_pos (by simp[AV,g])];exact h _ (λa w f h=>⟨f,h⟩)
theorem Xb:∀(E:List Nat) (l:List A1) (a:AB),Yc P ops S K E l a->∃d,Zo ops E d/\Vw P ops S (K (l++d)) d a:=by
 intro E
 induction E with
 | nil=>intro l a h;exact⟨[],.nil,by rw[B5];exact h⟩
 | cons i r m =>
  intro l a h;obtain⟨o,v,hi,g,k,h⟩:=h;rw[B6]at hi;obtain⟨d,j,f⟩:=m _ _ h;refine⟨o::d,.cons hi j,v,g,k,?_⟩;rw[B7]at f;exact f
theorem Fr:∀(t:List Nat) (l:List A1) (a:AB) (w:AC),Rb P ops Q t l a w->∃d,Zo ops t d/\AX P ops Q (l++d) a w:=by
 intro t
 induction t with
 | nil=>intro l a w h;exact⟨[],.nil,by rw[B5];exact h⟩
 | cons i r j =>
  intro l a w h;obtain⟨o,hi,h⟩:=h;rw[B6]at hi;obtain⟨d,g,f⟩:=j _ _ _ h;exact⟨o::d,.cons hi g,by rw[B7]at f;exact f⟩
theorem Zo.uniq:∀{t:List Nat} {a b:List A1},Zo ops t a->Zo ops t b->a=b:=by
 intro t a b g
 induction g using Zo.rec' generalizing b with
 | h0 =>
  intro d;cases b with
  | nil=>rfl
  | cons=>exact d.elim
 | h1 i o r l h _ j =>
  intro d;cases b with
  | nil=>exact d.elim
  | cons n m =>
   obtain⟨f,k⟩:=d;rw[h]at f;cases f;rw[j k]
theorem Jp(ops:Array A1):∀(t:List Nat),(t.all λi=>decide (i<ops.size))=true->∃d,Zo ops t d:=by
 intro t
 induction t with
 | nil=>intro _;exact⟨[],.nil⟩
 | cons i r g =>
  intro h;simp only[B8,AG,decide_eq_true_eq]at h;obtain⟨d,f⟩:=g h.2;exact⟨_,.cons (B9 h.1) f⟩
theorem Yp:∀(m:List Nat) (d:List A1),Zo ops m d->∀(a:AB) (w:AC),Ru P ops Q S K m a w->Ug P ops Q S K d a w:=by
 intro m d k
 induction k using Zo.rec' with
 | h0=>intro a w h;exact h
 | h1 i o r l hi _ j =>
  intro a w h;obtain⟨o,g,h⟩:=h;rw[B6,hi]at g;cases g;unfold Ug
  split
  ·rename_i f;rw[if_pos f]at h;exact B1 (λa w h=>⟨h.1,j a w h.2⟩) h
  ·rename_i f;rw[if_neg f]at h;exact⟨h.1,j _ _ h.2⟩
theorem Lx(j:∀a w,K a w->g a w):∀(d:List A1) (a:AB) (w:AC),Ug P ops Q S K d a w->Ug P ops Q S g d a w:=by
 intro d
 induction d with
 | nil=>intro a w h;exact j _ _ h
 | cons o r i =>
  intro a w h;unfold Ug at h⊢
  split
  ·rename_i f;rw[if_pos f]at h;exact B1 (λa w h=>⟨h.1,i a w h.2⟩) h
  ·rename_i f;rw[if_neg f]at h;exact⟨h.1,i _ _ h.2⟩
theorem ZO(g:∀a,K a->f a):∀(d:List A1) (a:AB),Vw P ops S K d a->Vw P ops S f d a:=by
 intro d
 induction d with
 | nil=>intro a h;exact g _ h
 | cons o r k =>
  intro a h;obtain⟨v,i,j,h⟩:=h;exact⟨v,i,j,k _ h⟩
theorem MY{id:Nat}(S:AC->Prop)(E m t:List Nat)(O:P.follows .mixedOrders=true)(D:Wh ops E m t=true)(H:Zo ops E f)(I:Zo ops m g)(L:Zo ops t k)(J:∀c a d v w,Q (.panic c) (AQ a (AF d) v) w->Q (.panic c) a w)(K:S w.drew)(h:Vw P ops S (λn=>Ug P ops Q S (AX P ops Q k) g n w.drew) f a):(BA id ops true).wp P Q a w:=by
 simp only[Wh,AG,beq_iff_eq]at D;obtain⟨⟨⟨F,B⟩,C⟩,G⟩:=D;refine BB O (Vt (S:=S) (T:=t.contains) _ _ _ _ ?_);generalize N:B3 ops.size false=l at B C⊢;have q:Ya .any ops l:=by intro j o M z;have A:j<ops.size:=(AO.1 M).1;subst N;simp[A]at z
 rw[<- G,BC];refine Yw F J K E f H (m.length+t.length) _ a q B h ?_;intro n p;exact Px m g I _ t k L rfl _ n _ (λi hi=>by simpa using hi) C p
theorem Ql{id:Nat}{a:AB}{w:AC}(S:AC->Prop)(E m t:List Nat)(F:P.follows .mixedOrders=true)(f:(Wh ops E m t&&((m++t).all λi=>decide (i<ops.size)))=true)(B:∀c a d v w,Q (.panic c) (AQ a (AF d) v) w->Q (.panic c) a w)(C:S w.drew)(h:Yc P ops S (λ_ z=>Ru P ops Q S (Rb P ops Q t []) m z w.drew) E [] a):(BA id ops true).wp P Q a w:=by simp only[AG,BD]at f;obtain⟨f,j,k⟩:=f;obtain⟨G,A,D⟩:=Xb E [] a h;obtain⟨p,n⟩:=Jp ops m j;obtain⟨H,o⟩:=Jp ops t k;refine MY S E m t F f A n o B C (ZO (λa h=>?_) _ _ D);refine Lx (λa w h=>?_) _ _ _ (Yp m p n a _ h);obtain⟨q,g,h⟩:=Fr t [] a w h;rw[o.uniq g];exact h
end
end Go.Dr
namespace Go.Proofs.YtfdmbomlkpkegaaGreat
open Go Go.RowKit
abbrev Qs:=List UInt8
def u8v (x:UInt8):AM:=.int .u8 (x.toNat:Int)
def No:Nat->Prop:=λ_=>False
structure Xy (F:Nat->Prop)(w w':AC):Prop where
 os:w'.os=w.os
 tape:w'.tape=w.tape
 output:w'.output=w.output
 size:w.heap.size<=w'.heap.size
 block:∀b,b<w.heap.size->¬F b->w'.heap[b]?=w.heap[b]?
theorem Xy.refl(F:Nat->Prop)(w:AC):Xy F w w:=⟨rfl,rfl,rfl,BE _,λ_ _ _=>rfl⟩
theorem Xy.trans(h:Xy F a b)(k:Xy G b c)(g:∀x,x<a.heap.size->G x->F x):Xy F a c :=
 ⟨k.os.trans h.os,k.tape.trans h.tape,k.output.trans h.output,BF h.size k.size,
  λx d f=>(k.block x (BG d h.size) (λi=>f (g x d i))).trans (h.block x d f)⟩
theorem Xy.mono(h:Xy F a b)(hF:∀x,x<a.heap.size->F x->G x):Xy G a b :=
 ⟨h.os,h.tape,h.output,h.size,λx d g=>h.block x d (λf=>g (hF x d f))⟩
theorem Xy.no(h:Xy No a b):Xy F a b:=h.mono (λ_ _ h=>h.elim)
theorem Xy.then(h:Xy F a b)(k:Xy No b c):Xy F a c:=h.trans k (λ_ _ h=>h.elim)
theorem Xy.alloc(h:Xy F a w)(o:Obj):Xy F a (w.alloc o) :=
 h.then ⟨rfl,rfl,rfl,by simp,λk d _=>Below.heap_alloc _ _ _ (by omega)⟩
theorem Xy.drew(h:Xy F a w):Xy F a w.drew:=⟨h.os,h.tape,h.output,h.size,h.block⟩
theorem Xy.setCell(h:Xy F a w)(d:F p.block\/a.heap.size<=p.block)(u:AM):Xy F a (w.setCell p u) :=
 ⟨h.os,h.tape,h.output,by simpa using h.size,λk g f=>by
  rw[Below.heap_setCell _ _ _ _ (λe=>by subst e;rcases d with d|d;exact f d;omega)]
  exact h.block k g f⟩
theorem Xy.grown(h:Xy F a w)(d:w.grownBy j row)(m:∀k,row=AF k->F k\/a.heap.size<=k):Xy F a j :=
 ⟨d.os.trans h.os,d.tape.trans h.tape,d.output.trans h.output,BF h.size d.size,λk g i=>by
  rw[d.block k (BG g h.size) (λe=>by rcases m k e.symm with f|f;exact i f;omega)]
  exact h.block k g i⟩
theorem Xy.setObj(h:Xy F a w)(d:F r\/a.heap.size<=r)(o:Obj):Xy F a {w with heap:=w.heap.setIfInBounds r o} :=
 ⟨h.os,h.tape,h.output,by simpa using h.size,λk g f=>by
  have:r≠k:=λe=>by subst e;rcases d with d|d;exact f d;omega
  show(w.heap.setIfInBounds r o)[k]?=_
  rw[Array.getElem?_setIfInBounds_ne this]
  exact h.block k g f⟩
theorem Xy.heap(h:Xy F w f)(d:w.heap[b]?=AF o)(g:¬F b):f.heap[b]?=AF o :=
 (h.block b (AO.1 d).1 g).trans d
theorem Xy.cell(h:Xy F w f)(d:w.cell? p=AF v)(g:¬F p.block):f.cell? p=AF v :=
 (World.cell?_of_block (w:=w) (h.block p.block (World.block_lt_of_cell? w p d) g)).trans d
theorem Xy.below(h:Xy F w d)(hF:∀x,F x->B<=x)(g:B<=w.heap.size):Below B w d :=
 ⟨h.os,h.tape,h.output,h.size,λk i=>h.block k (by omega) (λf=>by have:=hF k f;omega)⟩
theorem Qt{w:AC}(h:w.heap[b]?=AF o):b<w.heap.size:=(AO.1 h).1
theorem Qq{w:AC}(h:w.heap[b]?=AF (.cells cs t fr))(i:Nat):w.cell? ⟨b,i,AI⟩=cs[i]?:=by simp[World.cell?,h]
theorem Qg{w:AC}(h:w.heap[b]?=AF (.cells cs t (0,0)))(i:Nat):w.frozen? ⟨b,i,AI⟩=false:=by simp[World.frozen?,h]
theorem Qy(w:AC)(o:Obj):(w.alloc o).heap[w.heap.size]?=AF o:=heap_alloc_new w o
theorem Qz{w:AC}(h:w.heap[b]?=AF (.cells cs t fr)) :
  (w.setCell ⟨b,i,AI⟩ u).heap[b]?=AF (.cells (cs.setIfInBounds i u) t fr):=by
 simp[World.setCell,Array.getElem?_modify,h]
def Uz (base:Nat)(w:AC)(F:Nat->Prop):Prop :=
 ∀b,F b->base<=b/\b<w.heap.size/\∀cs fr,w.heap[b]?≠AF (.cells cs 5 fr)
theorem Uz.no(base:Nat)(w:AC):Uz base w No:=λ_ h=>h.elim
structure Ban where
 Z:Nat->Prop
 top:Nat
 lt:∀b,Z b->b<top
abbrev Ib:=Inhabited Ban
abbrev Xl:Ib:=⟨⟨No,0,λ_ h=>h.elim⟩⟩
abbrev Rt (g:Nat):Ib:=⟨⟨(·=g),g+1,λb h=>by have:b=g:=h;omega⟩⟩
def ban [bn:Ib]:Ban:=default
def Up [bn:Ib](base:Nat)(w:AC)(b:Nat):Prop:=b<w.heap.size/\(b<base\/∃cs fr,w.heap[b]?=AF (.cells cs 5 fr))/\¬ban.Z b/\ban.top<=w.heap.size
theorem Up.not[bn:Ib](h:Up base w b)(hF:Uz base w F):¬F b:=by
 intro f;obtain⟨g,i,d⟩:=hF b f;rcases h.2.1 with h|⟨cs,fr,h⟩
 ·omega
 ·exact d _ _ h
theorem Up.keep[bn:Ib](h:Up base w b)(hF:Uz base w F)(k:Xy F w f):Up base f b:=by
 refine⟨BG h.1 k.size,?_,h.2.2.1,BF h.2.2.2 k.size⟩;have g:=h.not hF;rcases h.2.1 with d|⟨cs,fr,d⟩
 ·exact .inl d
 ·exact .inr ⟨cs,fr,k.heap d g⟩
def Qv [bn:Ib](base:Nat)(w:AC)(v:AM)(l:Qs):Prop :=
 ∃ao cap,v=.slice ao l.length cap/\l.length<=cap/\cap<=BH/\(ao=AI->cap=0) /\
  ∀i x,l[i]?=AF x->∃d,ao=AF d/\Up base w d.block/\w.cell? (d.add i)=AF (u8v x)
theorem Qv.form[bn:Ib](h:Qv base w v l):∃ao cap,v=.slice ao l.length cap:=by obtain⟨ao,cap,h,_⟩:=h;exact⟨ao,cap,h⟩
theorem Qv.nil[bn:Ib](base:Nat)(w:AC):Qv base w (.slice AI 0 0) []:=⟨AI,0,rfl,BE _,by decide,λ_=>rfl,λi x h=>by simp at h⟩
theorem Addr.block_add(d:Addr)(i:Nat):(d.add i).block=d.block:=by unfold Addr.add;split<;>rfl
theorem Qv.keep[bn:Ib](h:Qv base w v l)(hF:Uz base w F)(k:Xy F w f):Qv base f v l:=by obtain⟨ao,cap,j,m,n,o,p⟩:=h;refine⟨ao,cap,j,m,n,o,λi x z=>?_⟩;obtain⟨g,e,d,q⟩:=p i x z;exact⟨g,e,d.keep hF k,k.cell q (by rw[Addr.block_add];exact d.not hF)⟩
theorem Qv.no[bn:Ib](h:Qv base w v l)(k:Xy No w d):Qv base d v l:=h.keep (Uz.no _ _) k
theorem Qv.take[bn:Ib](h:Qv base w (.slice ao n cap) l)(k:Nat)(A:k<=l.length):Qv base w (.slice ao k cap) (l.take k):=by
 obtain⟨j,f,g,z,m,o,p⟩:=h;simp only[Value.slice.injEq]at g;obtain⟨rfl,rfl,rfl⟩:=g;have q:(l.take k).length=k:=by simp;omega
 refine⟨ao,cap,by rw[q],by omega,m,o,λi x d=>p i x ?_⟩;rw[BI]at d
 split at d
 ·exact d
 ·simp at d
theorem Qv.top[bn:Ib](h:Qv base w v l)(g:l≠[]):ban.top<=w.heap.size:=by
 obtain⟨ao,cap,j,k,m,n,d⟩:=h;cases l with
 | nil=>exact absurd rfl g
 | cons x l =>
  obtain⟨i,e,f,o⟩:=d 0 x rfl;exact f.2.2.2
def Kr (w:AC)(B:Nat)(v:AM)(l:Qs):Prop:=w.ownsRow B 5 1 v l.length (l.map u8v)
theorem NM(l:Qs):∀u∈l.map u8v,u.oneCell'=true:=by intro u d;obtain⟨_,_,rfl⟩:=List.mem_map.1 d;rfl
theorem Kr.bytes[bn:Ib](h:Kr w B v l)(k:l≠[]->ban.top<=B):Qv base w v l:=by
 obtain⟨_,h⟩:=h;rcases h with⟨rfl,A⟩|⟨g,cap,n,rfl,E,d,o,p,D,q⟩
 ·obtain rfl:=BJ A;exact Qv.nil _ _
 ·refine⟨_,cap,rfl,o,p,λh=>(by cases h),λi x f=>⟨_,rfl,⟨Qt d,.inr ⟨_,_,d⟩,λC=>?_,?_⟩,?_⟩⟩
  ·have j:=ban.lt _ C;have z:=k (λe=>by subst e;simp at f);have j:g<ban.top:=j;omega
  ·have z:=k (λe=>by subst e;simp at f);have:=Qt d;omega
  have hi:i<l.length:=(BK.1 f).1;have e:(⟨g,0,AI⟩:Addr).add i=⟨g,i,AI⟩:=by simp[Addr.add];omega
  rw[e,Qq d];have m:(l.map u8v)[i]?=AF (u8v x):=by simp[f]
  rw[<- q,BI,if_pos (by omega)]at m;simpa using m
theorem Kr.form(h:Kr w B v l):∃ao cap,v=.slice ao l.length cap:=by
 obtain⟨_,h⟩:=h;rcases h with⟨rfl,f⟩|⟨g,cap,d,rfl,_⟩
 ·exact⟨AI,0,by rw[f]⟩
 ·exact⟨_,_,rfl⟩
theorem Kr.nil(w:AC)(B:Nat):Kr w B (.slice AI 0 0) []:=World.ownsRow_nil _ _ _ _
theorem Kr.keep(h:Kr w B v l)(k:Xy F w f)(hF:∀b,v.ownBlock=AF b->¬F b):Kr f B v l:=by
 obtain⟨i,h⟩:=h;refine⟨i,?_⟩;rcases h with h|⟨g,cap,d,rfl,j,m,r⟩
 ·exact .inl h
 ·exact .inr ⟨g,cap,d,rfl,j,k.heap m (hF g rfl),r⟩
theorem Kr.lt(h:Kr w B v l):∀k,v.ownBlock=AF k->B<=k/\k<w.heap.size:=BL h
def Zb [bn:Ib](base:Nat)(w:AC)(v:AM)(d:List Qs):Prop :=
 ∃us:List AM,us.length=d.length/\(∀(i:Nat) u l,us[i]?=AF u->d[i]?=AF l->Qv base w u l) /\
  ∃ao cap,v=.slice ao d.length cap/\d.length<=cap/\cap<=BH/\(d=[]\/∃g o,ao=AF ⟨g,o,AI⟩/\∀(i:Nat) u,us[i]?=AF u->w.cell? ⟨g,o+i,AI⟩=AF u)
theorem Zb.of_block[bn:Ib](h:w.heap[g]?=AF (.cells cs t fr))(d:List Qs)(f:cs.size=d.length)(m:cs.size<=BH)(k:∀(i:Nat) u l,cs[i]?=AF u->d[i]?=AF l->Qv base w u l):Zb base w (.slice (AF ⟨g,0,AI⟩) d.length d.length) d:=by refine⟨cs.toList,by simpa using f,λi u l j f=>k i u l (by simpa using j) f,_,_,rfl,BE _,by omega,.inr ⟨g,0,rfl,λi u j=>?_⟩⟩;rw[Nat.zero_add,Qq h];simpa using j
def Bb (d:List Qs)(k:Nat):Qs:=(d.take k).flatten
def catLen (d:List Qs)(k:Nat):Nat:=(Bb d k).length
theorem QL(d:List Qs):Bb d 0=[]:=by simp[Bb]
theorem Ba(d:List Qs):Bb d d.length=d.flatten:=by simp[Bb]
theorem Wk(h:d[k]?=AF l):Bb d (k+1)=Bb d k++l:=by obtain⟨f,rfl⟩:=BK.1 h;unfold Bb;rw[BM f,BN,List.flatten_cons,List.flatten_nil,B5]
theorem Du(h:d[k]?=AF l):catLen d (k+1)=catLen d k+l.length:=by unfold catLen;rw[Wk h,BO]
theorem VI(d:List Qs):catLen d d.length=d.flatten.length:=by simp[catLen,Ba]
theorem Wu(d:List Qs)(k:Nat):catLen d k<=d.flatten.length:=by
 unfold catLen Bb
 conv=>rhs;rw[<- List.take_append_drop k d]
 rw[BN,BO];omega
theorem Rr:(Tryz.prog.info? 5).map (λi=>(i.zero,i.size,i.bytes))=AF (AF (.int .u8 0),1,1):=by kernel_rfl
theorem Zq[bn:Ib](F:o.guard=AI)(s x:Operand)(q:o.op=Op.call {callee:=BP BQ,args:=#[s,x],argTypes:=#[59,59]})(B:Nat)(d:Kr w B v l)(A:Qv base w u m)(N:a.eval s=v)(O:a.eval x=u)(M:l.length+m.length<=70368744177664)(Y:B<=w.heap.size)(L:∀D g,Kr g B D (l++m)->Xy (λb=>v.ownBlock=AF b) w g->AX Tryz.prog ops Q rest (a.put o.dst D) g) :
  AX Tryz.prog ops Q (o::rest) a w:=by
 refine wpList_plain F λK p=>?_;obtain⟨R,hi,H,I,J⟩:=info_parts Rr;obtain⟨ao,cap,rfl,hc,hm,hn,h⟩:=A;have i:∀g,w.grownBy g v.ownBlock->Xy (λb=>v.ownBlock=AF b) w g:=λg F=>(Xy.refl _ w).grown F (λk Z=>.inl Z);cases ao with
 | none =>
  obtain rfl:=hn rfl;have G:m=[]:=BJ (by omega);subst G;have f:=run_append_owned_none (P:=Tryz.prog) w B 59 o.type 5 R 1 Tryz.underlying59 hi v l.length (l.map u8v) d;unfold BR;simp[B4,q,resolve,invoke,builtin,N,O,f,BS];exact p _ _ (L v w (by simpa using d) (Xy.refl _ _))
 | some U =>
  obtain⟨D,g,f,W,X,_⟩:=run_append_own (P:=Tryz.prog) w B 59 o.type 5 R (.int .u8 0) 1 1 Tryz.underlying59 hi H I J rfl (by decide) v l.length (l.map u8v) d
   U m.length cap (m.map u8v) (by simp) (λj y C=>by
    rw[List.getElem?_map]at C;cases n:m[j]? with
    | none=>simp[n]at C
    | some z =>
     obtain⟨V,e,_,E⟩:=h j z n;cases e;simp[n]at C
     rw[E,C]) (NM m) (by unfold BH;omega) (by omega) Y
  unfold BR;simp[B4,q,resolve,invoke,builtin,N,O,f,BS];refine p _ _ (L D g ?_ (i g X));unfold Kr;rw[BO,List.map_append];exact W
theorem Fu(H:o.guard=AI)(s x:Operand)(p:o.op=Op.call {callee:=BP BQ,args:=#[s,x],argTypes:=#[59,3]})(B n:Nat)(F:0<n)(R:n<=70368744177664)(I:a.eval s=.slice AI 0 0)(J:a.eval x=.int .i64 (n:Int))(C:B<=w.heap.size)(G:∀g cap h,n<=cap->cap<=BH->Kr h B (.slice (AF ⟨g,0,AI⟩) 0 cap) []->Kr h B (.slice (AF ⟨g,0,AI⟩) n cap) (BT n 0)->Xy No w h->AX Tryz.prog ops Q rest (a.put o.dst (.slice (AF ⟨g,0,AI⟩) n cap)) h) :
  AX Tryz.prog ops Q (o::rest) a w:=by
 refine wpList_plain H λK j=>?_;obtain⟨M,hi,q,L,z⟩:=info_parts Rr;have d:=Lib.run_append_nil_zeros (P:=Tryz.prog) w 59 3 o.type 5 M (.int .u8 0) .i64 .i64 Tryz.underlying59 Tryz.underlying3 hi q n F (by omega) (by omega) (by rw[z];omega);have m:=grownCap_ge w n 0 5;have f:=grownCap_le_maxLen w n 0 5 (by unfold BH;omega);generalize grownCap w n 0 5=cap at d m f;have A:∀k,BU (Value.int .u8 0).cells k=(BT k (u8v 0)).toArray:=by
  intro k;apply Array.ext
  ·simp[BU,BV]
  ·intro i N O;simp[BU,BV,u8v,Nat.mod_one]
 rw[A,A]at d;have E:(BT n (u8v 0)).toArray++(BT (cap-n) (u8v 0)).toArray=(BT cap (u8v 0)).toArray:=by
  have:cap=n+(cap-n):=by omega
  rw[List.append_toArray,List.replicate_append_replicate,<- this]
 rw[E]at d;unfold BR;simp[B4,p,resolve,invoke,builtin,I,J,d,BS];have D:(w.drew.alloc (.cells (BT cap (u8v 0)).toArray 5)).heap[w.heap.size]?=AF (.cells (BT cap (u8v 0)).toArray 5 (0,0)):=heap_alloc_new w.drew _;refine j _ _ (G w.heap.size cap _ m f ⟨by simp,.inr ⟨_,cap,_,rfl,C,D,BW _,f,by simp,by simp⟩⟩
  ⟨by simp,.inr ⟨_,cap,_,by simp,C,D,by simpa using m,f,by simp,?_⟩⟩ ((Xy.refl _ _).drew.alloc _))
 simp[u8v];omega
@[go_sem] theorem eql_nil_bytes (w:AC) (a:Option Addr) (n c:Nat):(binOp .eql 59 (.slice a n c) (.slice AI 0 0)).run Tryz.prog w=.ok (.bool a.isNone) w :=
 Lib.run_eql_slice_nil w _ _ a n c 0 0 Tryz.underlying59
theorem Ju[bn:Ib](h:Qv base w v l)(B:l.length<=35184372088832) :
  Calls Tryz.prog 99 #[v] w λe n=>∃m,e=.returned m/\Kr n w.heap.size m l/\Xy No w n:=by
 have o:=h;obtain⟨ao,cap,rfl,A,C,q,d⟩:=h;cases ao with
 | none =>
  obtain rfl:=q rfl;obtain rfl:l=[]:=BJ (by omega);go_enter Tryz.func99,Tryz.ntmps99;go_wp2;go_ret;exact⟨_,rfl,Kr.nil _ _,Xy.refl _ _⟩
 | some z =>
  have p:Xy No w (w.alloc (.cells #[] 5)):=(Xy.refl _ _).alloc _;have g:Kr (w.alloc (.cells #[] 5)) w.heap.size (.slice (AF ⟨w.heap.size,0,AI⟩) 0 0) [] :=
   World.ownsRow_made w #[] 0 (BE _) (by decide) rfl
  have i:=o.no p;clear o d q;go_enter Tryz.func99,Tryz.ntmps99;go_wp2_with(at_builtin;refine Zq rfl _ _ rfl w.heap.size g i rfl rfl (by simp;omega) (by simp) ?_;intro m n f j);go_ret;refine⟨_,rfl,f,p.trans j ?_⟩;intro x D k;simp[Value.ownBlock]at k;omega
end Go.Proofs.YtfdmbomlkpkegaaGreat
namespace Go.Dr
open Go
section
variable {P:A0}{ops:Array A1}{Q:AA->AB->AC->Prop}{md:AD}{S:AC->Prop}{T:Nat->Bool}
def Jv (md:AD)(ops:Array A1):List Nat->Array Bool->Bool
 | [],_=>true
 | i::r,d=>AJ md ops d==[i]&&Jv md ops r (d.setIfInBounds i true)
theorem Gg:∀(m:List Nat) (p:List A1),Zo ops m p->∀(f:Nat) (d:Array Bool) (a:AB) (w:AC) (K:AB->AC->Prop),Ya md ops d->S w->Jv md ops m d=true ->
  Ug P ops Q S K p a w->(∀a w,S w->Ya md ops (Zm m d)->K a w->Vk P md ops Q S T f (Zm m d) a w)->Vk P md ops Q S T (f+m.length) d a w:=by
 intro m p F
 induction F using Zo.rec' with
 | h0=>intro f d a w K g A k h n;exact n a w A g h
 | h1 i o r l hi _ D =>
  intro f d a w K g A k h n;simp only[Jv,AG,beq_iff_eq]at k;rw[AT,<- AU];have C:i∈AJ md ops d:=by rw[k.1];simp
  refine⟨λh0=>(by rw[k.1]at h0;cases h0),λj B=>?_⟩;rw[k.1,AZ]at B;subst B;unfold Ug at h;unfold wpOp;simp only[hi]
  split
  ·rename_i z;rw[if_pos z]at h;exact .inl (B1 (λE G q=>⟨λ_=>q.1,D f _ E G K (g.set C) q.1 k.2 q.2 n⟩) h)
  ·rename_i z;rw[if_neg z]at h;exact⟨λ_=>h.1,D f _ _ w K (g.set C) h.1 k.2 h.2 n⟩
def Az (ops:Array A1)(E m d f:List Nat):Bool :=
 AP ops&&Ym .any ops (λ_=>false) E (B3 ops.size false)&&Jv .any ops m (Zm E (B3 ops.size false)) &&
  Ym .any ops (λ_=>false) d (Zm m (Zm E (B3 ops.size false)))&&Js .any ops f (Zm d (Zm m (Zm E (B3 ops.size false)))) &&
  (E.length+(m.length+(d.length+f.length))==ops.size)
theorem Yn:∀(E:List Nat) (d:Array Bool),Ya md ops d->Ym md ops T E d=true->Ya md ops (Zm E d):=by
 intro E
 induction E with
 | nil=>intro d h _;exact h
 | cons i r j =>
  intro d h f;simp only[Ym,AG,AR]at f;obtain⟨⟨⟨⟨_,g⟩,_⟩,_⟩,f⟩:=f;exact j _ (h.set (by simpa using g)) f
theorem ZC{id:Nat}{a:AB}{w:AC}(S:AC->Prop)(E m g f:List Nat)(hm:P.follows .mixedOrders=true)(p:(Az ops E m g f&&((m++f).all λi=>decide (i<ops.size)))=true)(Z:∀c a d v w,Q (.panic c) (AQ a (AF d) v) w->Q (.panic c) a w)(hS:S w.drew)(h:Yc P ops S (λ_ A=>Ru P ops Q S (λB w2=>Yc P ops S (λ_ C=>Ru P ops Q S (λa4 w4=>AX P ops Q [] a4 w4) f C w2) g [] B) m A w.drew) E [] a):(BA id ops true).wp P Q a w:=by
 simp only[AG,BD]at p;obtain⟨p,N,O⟩:=p;simp only[Az,AG,beq_iff_eq]at p;obtain⟨⟨⟨⟨⟨U,F⟩,V⟩,W⟩,X⟩,h6⟩:=p;obtain⟨Es,hE,he⟩:=Xb E [] a h;obtain⟨R,Y⟩:=Jp ops m N;obtain⟨k,n⟩:=Jp ops f O;refine BB hm (Vt (S:=S) (T:=λ_=>false) _ _ _ _ ?_);generalize hl:B3 ops.size false=l at F V W X⊢;have q:Ya .any ops l:=by intro j o hj L;have M:j<ops.size:=(AO.1 hj).1;subst hl;simp[M]at L
 rw[<- h6,BC];refine Yw U Z hS E Es hE (m.length+(g.length+f.length)) _ a q F he ?_;intro A I;rw[BC];refine Gg m R Y (g.length+f.length) _ A _ _ (Yn E l q F) hS V (Yp m R Y A _ I) ?_;intro B w2 H z hK;obtain⟨D,G,K⟩:=Xb g [] B hK;rw[BC];refine Yw U Z H g D G f.length _ B z W K ?_;intro C J;exact Px f k n _ [] [] .nil (by simp) _ C _ (λi hi=>by simp at hi) (by simpa using X) (Yp f k n C _ J)
end
end Go.Dr
namespace Go.Dr
open Go
section
variable {P:A0}{ops:Array A1}{Q:AA->AB->AC->Prop}{S:AC->Prop}
def Rh:List (List Nat×List Nat)->Nat
 | []=>0
 | (E,m)::r=>Rh r+m.length+E.length
def Vm (ops:Array A1):List (List Nat×List Nat)->Array Bool->Bool
 | [],d=>(AJ .any ops d).isEmpty
 | (E,m)::r,d=>Ym .any ops (λ_=>false) E d&&Jv .any ops m (Zm E d)&&(m.all λi=>decide (i<ops.size))&&Vm ops r (Zm m (Zm E d))
def Vp (P:A0)(ops:Array A1)(Q:AA->AB->AC->Prop)(S:AC->Prop):List (List Nat×List Nat)->AB->AC->Prop
 | [],a,w=>AX P ops Q [] a w
 | (E,m)::r,a,w=>Yc P ops S (λ_ d=>Ru P ops Q S (λf g=>Vp P ops Q S r f g) m d w) E [] a
theorem VY(M:AP ops=true)(K:∀c a d v w,Q (.panic c) (AQ a (AF d) v) w->Q (.panic c) a w) :
  ∀(k:List (List Nat×List Nat)) (f:Array Bool) (a:AB) (w:AC),Ya .any ops f->S w->Vm ops k f=true->Vp P ops Q S k a w->Vk P .any ops Q S (λ_=>false) (Rh k) f a w:=by
 intro k
 induction k with
 | nil =>
  intro f a w _ _ g h;simp only[Vm,AY]at g;exact⟨g,h⟩
 | cons e r N =>
  obtain⟨E,m⟩:=e;intro f a w i C g h;simp only[Vm,AG]at g;obtain⟨⟨⟨A,G⟩,p⟩,H⟩:=g;simp only[Vp]at h;obtain⟨D,I,L⟩:=Xb E [] a h;obtain⟨q,B⟩:=Jp ops m p;refine Yw M K C E D I (Rh r+m.length) _ a i A L ?_;intro z o;refine Gg m q B (Rh r) _ z _ _ (Yn E f i A) C G (Yp m q B z _ o) ?_;intro F O n j J;exact N _ F O j n H J
theorem Vr{id:Nat}(S:AC->Prop)(f:List (List Nat×List Nat))(D:P.follows .mixedOrders=true)(n:(AP ops&&Vm ops f (B3 ops.size false)&&(Rh f==ops.size))=true)(z:∀c a d v w,Q (.panic c) (AQ a (AF d) v) w->Q (.panic c) a w)(A:S w.drew)(h:Vp P ops Q S f a w.drew):(BA id ops true).wp P Q a w:=by
 simp only[AG,beq_iff_eq]at n;obtain⟨⟨p,m⟩,q⟩:=n;refine BB D (Vt (S:=S) (T:=λ_=>false) _ _ _ _ ?_);generalize C:B3 ops.size false=l at m⊢;have g:Ya .any ops l:=by intro j o B i;have k:j<ops.size:=(AO.1 B).1;subst C;simp[k]at i
 rw[<- q];exact VY p z f l a w.drew g A m h
end
end Go.Dr
namespace Go.Proofs.YtfdmbomlkpkegaaGreat
open Go Go.RowKit Go.Dr
theorem Xv[bn:Ib](h:Zb base w v f)(V:f.flatten.length<=35184372088832) :
  Calls Tryz.prog 97 #[v] w λe J=>∃I,e=.returned I/\Kr J w.heap.size I f.flatten/\Xy No w J:=by
 obtain⟨us,D,z,ao,cap,rfl,R,F,d⟩:=h;unfold BH at F;have W:(f.length:Int)<=9223372036854775807:=by omega
 have M:=BX D;clear D;go_enter Tryz.func97,Tryz.ntmps97;go_wp2;go_loopw [3,8] (λv i wr=>∃k:Nat,k<=f.length/\i=.int .i64 k/\Kr wr w.heap.size v (Bb f k)/\Xy No w wr) (λ_ i _=>f.length-(intOf i).toNat);case atStart=>exact⟨0,BW _,rfl,by rw[QL];exact Kr.nil _ _,Xy.refl _ _⟩
 case round =>
  obtain⟨k,O,rfl,m,j⟩:=hrel;by_cases p:k<f.length
  ·rcases d with rfl|⟨g,o,rfl,d⟩
   ·simp at p
   ·have B:k<us.length:=by have:=M.out;omega
    have U:=j.cell (d k us[k] (BY B)) id;have n:f[k]?=AF f[k]:=BY p;have N:=(z k _ _ (BY B) n).no j;have K:=Wk n;have C:=Wu f (k+1);rw[Du n]at C;unfold catLen at C;have A:(k:Int)<(f.length:Int):=by omega
    have L:=BX K;generalize us[k]=u at *;generalize f[k]=l at *;clear K z d n;have E:=j.size;go_wp2_with(at_builtin;refine Zq rfl _ _ rfl w.heap.size m N rfl rfl (by omega) E ?_;intro I J q G);go_roundw;case rel=>exact⟨k+1,by omega,by go_num,by rw[L.out];exact q,j.trans G (λx X H=>by have:=(m.lt x H).1;omega)⟩
    case measure=>simp[intOf];omega
  ·have A:¬(k:Int)<(f.length:Int):=by omega
   obtain rfl:k=f.length:=by omega
   clear A p O;go_wp2;go_ret;exact⟨_,rfl,by rw[<- Ba];exact m,j⟩
theorem TQ[bn:Ib](h:Qv base w v l)(most:Nat)(Y:most<=1000000) :
  Calls Tryz.prog 68 #[v,.int .i64 most] w λe z=>∃o,e=.returned o/\Kr z w.heap.size o (l.take most)/\Xy No w z:=by
 obtain⟨ao,cap,rfl⟩:=h.form;have k:l.length<=cap/\cap<=BH:=by obtain⟨_,_,R,A,B,_⟩:=h;simp at R;omega
 unfold BH at k;obtain⟨J,K⟩:=k;have O:(most:Int)<=1000000:=by omega
 have d:∀(n:Nat) (q:Qs),Qv base w (.slice ao n cap) q->q.length<=35184372088832->Hid (Calls Tryz.prog 97 #[.slice (AF ⟨w.heap.size,0,AI⟩) 1 1] (w.alloc (.cells #[.slice ao n cap] 59)) λe z=>∃o,e=.returned o/\Kr z (w.heap.size+1) o q/\Xy No w z):=by
  intro n q D F;have p:Xy No w (w.alloc (.cells #[.slice ao n cap] 59)):=(Xy.refl _ _).alloc _;have U:Zb base (w.alloc (.cells #[.slice ao n cap] 59)) (.slice (AF ⟨w.heap.size,0,AI⟩) 1 1) [q] :=
   Zb.of_block (Qy w _) [q] rfl (by simp[BH]) (λi u V A B=>by
    match i,A,B with
    | 0,A,B=>simp at A B;subst A B;exact D.no p)
  refine(Xv U (by simpa using F)).mono ?_;rintro e z⟨o,M,j,E⟩;exact⟨o,M,by simpa using j,p.then E⟩
 by_cases N:most<l.length
 ·have G:(most:Int)<(l.length:Int):=by omega
  have C:=d most (l.take most) (h.take most (by omega)) (by simp;omega);have L:(most:Int)<=(cap:Int):=by omega
  clear d h;go_enter Tryz.func68,Tryz.ntmps68;go_wp2_with(go_at_call 97;refine C.out.mono ?_;rintro e X ⟨W,rfl,j,p⟩);go_ret;exact⟨_,rfl,⟨j.1,by
   rcases j.2 with j|⟨g,f,m,I,D,H⟩
   ·exact .inl j
   ·exact .inr ⟨g,f,m,I,by omega,H⟩⟩,p⟩
 ·have G:¬(most:Int)<(l.length:Int):=by omega
  have e:l.take most=l:=List.take_of_length_le (by omega);rw[e];have C:=d l.length l h (by omega);clear d h e;go_enter Tryz.func68,Tryz.ntmps68;go_wp2_with(go_at_call 97;refine C.out.mono ?_;rintro e X ⟨W,rfl,j,p⟩);go_ret;exact⟨_,rfl,⟨j.1,by
   rcases j.2 with j|⟨g,f,m,I,D,H⟩
   ·exact .inl j
   ·exact .inr ⟨g,f,m,I,by omega,H⟩⟩,p⟩
theorem Xy.drewN(h:Xy F a w)(n:Nat):Xy F a (w.drewN n):=⟨h.os,h.tape,h.output,h.size,h.block⟩
theorem JL[bn:Ib](hu:Qv base w u l)(hv:Qv base w v m) :
  Calls Tryz.prog 82 #[u,v] w λe w'=>e=.returned (.bool (l==m))/\Xy No w w':=by
 obtain⟨ao,cap,rfl,J,B,_,g⟩:=hu;obtain⟨bo,O,rfl,F,C,_,d⟩:=hv;unfold BH at B;by_cases f:l.length=m.length
 ·have Z:(l.length:Int)<=9223372036854775807:=by omega
  have N:=BX f;rw[<- f];have hq:((l.length:Int) != (l.length:Int))=false:=by simp
  clear f B C J F;go_enter Tryz.func82,Tryz.ntmps82;go_wp2;go_loopw [13] (λi wr=>∃k:Nat,k<=l.length/\i=.int .i64 k/\l.take k=m.take k/\Xy No w wr) (λi _=>l.length-(intOf i).toNat);case atStart=>exact⟨0,BW _,rfl,by simp,Xy.refl _ _⟩
  case round =>
   obtain⟨k,Y,rfl,j,n⟩:=hrel;by_cases p:k<l.length
   ·have E:(k:Int)<(l.length:Int):=by omega
    obtain⟨ad,rfl,_,L⟩:=g k l[k] (BY p);have o:k<m.length:=by have:=N.out;omega
    obtain⟨bd,rfl,_,M⟩:=d k m[k] (BY o);have L:=n.cell L id;have M:=n.cell M id;have tl:l.take (k+1)=l.take k++[l[k]]:=BM p;have U:m.take (k+1)=m.take k++[m[k]]:=BM o;have G:l[k]?=AF l[k]:=BY p;have H:m[k]?=AF m[k]:=BY o;generalize l[k]=x at *;generalize m[k]=y at *;have hn:∀z:UInt8,0<=(z.toNat:Int)/\(z.toNat:Int)<=255:=λz=>⟨by omega,by have:=z.toNat_lt;omega⟩;have A:=BX (A7 j tl U G H g d);clear j tl U G H g d;unfold u8v at L M;by_cases q:x=y
    ·subst q;have K:((x.toNat:Int) != (x.toNat:Int))=false:=by simp
     go_wp2;go_quiet (fail);go_wp2;go_roundw;case rel=>exact⟨k+1,by omega,by go_num,by rw[A.out.2.1,A.out.2.2.1,A.out.1],n.drewN _⟩
     case measure=>simp[intOf];omega
    ·have K:((x.toNat:Int) != (y.toNat:Int))=true:=by simp only[bne_iff_ne,ne_eq];intro h;exact q (UInt8.toNat_inj.1 (by omega))
     have D:(l==m)=false:=by rw[beq_eq_false_iff_ne];intro e;have I:=A.out.2.2.2.1;rw[e,A.out.2.2.2.2.1]at I;exact q (by simpa using I.symm)
     have V:=BX D;clear D q;go_wp2;go_quiet (fail);go_wp2;go_ret;exact⟨by rw[V.out];rfl,n.drewN _⟩
   ·have E:¬(k:Int)<(l.length:Int):=by omega
    obtain rfl:k=l.length:=by omega
    have R:(l==m)=true:=by
     rw[beq_iff_eq];have I:l.take l.length=l:=BZ;have X:m.take l.length=m:=by rw[N.out];exact BZ
     rw[I,X]at j;exact j
    have W:=BX R;clear R j E p Y;go_wp2;go_ret;exact⟨by rw[W.out];rfl,n⟩
 ·have hq:((l.length:Int) != (m.length:Int))=true:=by simp;omega
  have D:(l==m)=false:=by rw[beq_eq_false_iff_ne];intro e;exact f (by rw[e])
  rw[D];clear D f;go_enter Tryz.func82,Tryz.ntmps82;go_wp2;go_ret;exact⟨rfl,Xy.refl _ _⟩
end Go.Proofs.YtfdmbomlkpkegaaGreat
namespace Go.Dr
open Go
section
variable {P:A0}{ops:Array A1}{Q:AA->AB->AC->Prop}{md:AD}{S:AC->Prop}{T:Nat->Bool}
def Rn (P:A0)(ops:Array A1)(Q:AA->AB->AC->Prop)(S:AC->Prop)(K:AB->AC->Prop)(j:Nat):List Nat->AB->AC->Prop
 | [],a,w=>Ru P ops Q S K [j] a w
 | i::r,a,w=>Ru P ops Q S K (j::i::r) a w/\Ru P ops Q S (λd f=>Rn P ops Q S K j r d f) [i] a w
def Gj (md:AD)(ops:Array A1)(j:Nat)(t:List Nat):List Nat->Array Bool->Bool
 | [],d=>AJ md ops d==[j]&&Js md ops t (d.setIfInBounds j true)
 | i::r,d=>(AJ md ops d).all (λx=>x==i || x==j) && !(AJ md ops d).isEmpty&&Js md ops (i::r++t) (d.setIfInBounds j true)&&Gj md ops j t r (d.setIfInBounds i true)
theorem V9(t:List Nat)(q:Zo ops t D)(M:∀i∈t,T i=true)(L:∀a w,K a w->AX P ops Q D a w)(j:Nat) :
  ∀(m:List Nat) (J:List A1),Zo ops m J->(p:∃o,ops[j]?=AF o)->∀(d:Array Bool) (a:AB) (w:AC),Gj md ops j t m d=true->Rn P ops Q S K j m a w ->
   Vk P md ops Q S T (m.length+1+t.length) d a w:=by
 intro m J W p;obtain⟨I,p⟩:=p;have step:∀(i:Nat) (O:A1),ops[i]?=AF O->∀(E:AB->AC->Prop) (a:AB) (w:AC),Ru P ops Q S E [i] a w ->
   wpOp P ops Q i (λg f=>S f/\E g f) a w:=by
  intro i O hi E a w h;obtain⟨o,V,h⟩:=h;have C:ops[i]?=AF o:=by rw[<- B6];exact V
  rw[hi]at C;cases C;unfold wpOp;simp only[hi]
  split
  ·rename_i H;rw[if_pos H]at h;exact .inl (B1 (λg f k=>⟨k.1,k.2⟩) h)
  ·rename_i H;rw[if_neg H]at h;exact⟨h.1,h.2⟩
 have n:∀(i:Nat) (r:List Nat) (a:AB) (w:AC),Ru P ops Q S K (i::r) a w->Ru P ops Q S (λg f=>Ru P ops Q S K r g f) [i] a w:=by intro i r a w h;exact h
 induction W using Zo.rec' with
 | h0 =>
  intro d a w A h;simp only[Gj,AG,beq_iff_eq]at A;have:=Px (T:=T) (S:=S) (Q:=Q) (P:=P) (md:=md) [j] [I] (Zo.cons p Zo.nil) (0+1+t.length) t D q (by simp) d a w M (by
   show Js md ops (j::t) d=true;simp only[Js,AG,beq_iff_eq]
   exact A) (Lx (λa w h=>L a w h) _ _ _ (Yp [j] [I] (Zo.cons p Zo.nil) a w h))
  exact this
 | h1 i o r l hi N Y =>
  intro d a w A h;simp only[Gj,AG,AR,AS,AH,beq_iff_eq]at A;obtain⟨⟨⟨z,B⟩,G⟩,F⟩:=A;obtain⟨R,U⟩:=h;rw[AT,show r.length+1+1+t.length=(r.length+1+t.length)+1 by omega];refine⟨λh0=>(by rw[h0]at B;simp at B),λx X=>?_⟩;rcases z x X with rfl|rfl
  ·exact AL (λg f k=>⟨λ_=>k.1,Y _ g f F k.2⟩) (step x o hi _ a w U)
  ·refine AL (λg f k=>⟨λ_=>k.1,?_⟩) (step x I p _ a w (n x (i::r) a w R));have:=Px (T:=T) (S:=S) (Q:=Q) (P:=P) (md:=md) (i::r) (o::l) (Zo.cons hi N) (r.length+1+t.length) t D q (by simp) _ g f M G (Lx (λa w h=>L a w h) _ _ _ (Yp (i::r) (o::l) (Zo.cons hi N) g f k.2));exact this
theorem Pa{id:Nat}{a:AB}{w:AC}(S:AC->Prop)(E m t:List Nat)(j:Nat)(W:P.follows .mixedOrders=true)(G:(AP ops&&Ym .any ops t.contains E (B3 ops.size false)&&Gj .any ops j t m (Zm E (B3 ops.size false))&&(E.length+(m.length+1+t.length)==ops.size) &&
   ((j::m++t).all λi=>decide (i<ops.size)))=true)(O:∀c a d v w,Q (.panic c) (AQ a (AF d) v) w->Q (.panic c) a w)(R:S w.drew)(h:Yc P ops S (λ_ f=>Rn P ops Q S (Rb P ops Q t []) j m f w.drew) E [] a):(BA id ops true).wp P Q a w:=by
 simp only[AG,beq_iff_eq,BD,B8,decide_eq_true_eq]at G;obtain⟨⟨⟨⟨K,C⟩,D⟩,L⟩,⟨p,A⟩,B⟩:=G;obtain⟨H,M,U⟩:=Xb E [] a h;obtain⟨I,N⟩:=Jp ops m A;obtain⟨X,F⟩:=Jp ops t B;refine BB W (Vt (S:=S) (T:=t.contains) _ _ _ _ ?_);generalize V:B3 ops.size false=l at C D⊢;have n:Ya .any ops l:=by intro j o p q;have z:j<ops.size:=(AO.1 p).1;subst V;simp[z]at q
 rw[<- L,BC];refine Yw K O R E H M (m.length+1+t.length) _ a n C U ?_;intro f k;refine V9 t F (λi hi=>by simpa using hi) (λa w h=>?_) j m I N ⟨_,B9 p⟩ _ f _ D k;obtain⟨J,g,h⟩:=Fr t [] a w h;rw[F.uniq g];exact h
end
end Go.Dr
namespace Go.Dr
open Go
section
variable {P:A0}{ops:Array A1}{Q:AA->AB->AC->Prop}
end
end Go.Dr
