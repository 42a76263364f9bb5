/- Lemmas. -/
import Derived.Test.YtfdmbomlkpkegaaGreatS0
set_option maxRecDepth 100000
set_option maxHeartbeats 8000000
set_option linter.all false
set_option autoImplicit true
set_option relaxedAutoImplicit true
open Array renaming getElem?_modify->CJ,getElem?_toList->B6,toList_push->CF
open Go renaming MapEntry->C2,Value->AM,World->AC,leftOf->CZ,maxLen->BH,run_underlying->C8
open Go.Builtin renaming delete_->CR
open Go.ChangeMaps renaming setBlock->D4
open Go.Instr renaming findNow->C3,lookup->C7,mapUpdate->CD,next->CY,range->CV,sameNow->C4
open Go.IntKind renaming wrap_u8->DI
open Go.Lib renaming hid->BX
open Go.MapKept renaming IsKey->C6,run_checkKey->CA,run_findKey->CB,run_getObj_map->C9,run_setObj_map->CE
open Go.Result renaming andThen->BS
open Go.RowKit renaming intOf->C0
open Go.Value renaming int->DA
open Go.Value.slice renaming injEq->DB
open List renaming append_assoc->B7,cons_append->DD,eq_nil_of_length_eq_zero->BJ,eraseIdx_sublist->CT,filter_eq_self->CW,filter_map->D2,find?_cons->C5,getElem?_eq_getElem->BY,getElem?_eq_some_iff->BK,getElem?_map->CK,getElem?_zip_eq_some->CM,getElem_of_mem->DG,length_append->BO,length_eraseIdx_of_lt->CS,length_map->D6,map_fst_zip->D0,map_snd_zip->CX,mem_append->CG,mem_cons->C1,mem_iff_getElem?->CL,mem_map->CP,mem_map_of_mem->CO,mem_of_mem_eraseIdx->CU,pairwise_append->CH,pairwise_cons->DE,pairwise_iff_getElem->DH,pairwise_map->CN
open List.Pairwise renaming cons->CC,nil->DC
open Nat renaming div_lt_iff_lt_mul->D8,le_refl->BE,lt_trichotomy->DF,ne_of_lt->D5,pow_succ->D9,zero_add->CI,zero_le->BW
open Option renaming none->AI,some->AF
open UInt8 renaming ofNat->D7
namespace Go.Proofs.YtfdmbomlkpkegaaGreat
section
open Go Go.RowKit
theorem RQ(n:Nat)(m:n<=70368744177664)(j:B<=w.heap.size) :
  Calls Tryz.prog 152 #[.slice AI 0 0,.int .i64 n] w λe f=>∃h,e=.returned h/\Kr f B h []/\Xy No w f:=by
 obtain⟨F,hi,p,q,z⟩:=info_parts Rr;by_cases i:n=0
 ·subst i;go_enter Tryz.func152,Tryz.ntmps152;go_wp2;go_ret;exact⟨_,rfl,Kr.nil _ _,Xy.refl _ _⟩
 ·have E:(0:Int)<(n:Int):=by omega
  have A:(n:Int)<=70368744177664:=by omega
  go_enter Tryz.func152,Tryz.ntmps152;go_wp2_with(at_builtin;refine Fu rfl _ _ rfl B n (by omega) m rfl rfl j ?_;intro g cap f C D d o k);go_ret;exact⟨_,rfl,d,k⟩
theorem Ev[bn:Ib](h:Zb base w v f)(hl:f.flatten.length<=35184372088832) :
  Calls Tryz.prog 101 #[v] w λe S=>∃R,e=.returned R/\Kr S w.heap.size R f.flatten/\Xy No w S:=by
 obtain⟨us,I,E,ao,cap,rfl,Y,N,d⟩:=h;unfold BH at N;have hn:(f.length:Int)<=9223372036854775807:=by omega
 have hz:f.length<=us.length:=by omega
 have Z:=BX I;clear I;go_enter Tryz.func101,Tryz.ntmps101;go_wp2
 go_loop [3,11] (λs i=>∃k:Nat,k<=f.length/\i=.int .i64 k/\s=.int .i64 (catLen f k)) (λ_ i=>f.length-(C0 i).toNat)
 case atStart=>exact⟨0,BW _,rfl,rfl⟩
 case round =>
  obtain⟨k,O,rfl,rfl⟩:=hrel;by_cases n:k<f.length
  ·rcases d with rfl|⟨g,o,rfl,d⟩
   ·simp at n
   ·have A:k<us.length:=by omega
    have U:=d k us[k] (BY A);have j:f[k]?=AF f[k]:=BY n;have L:=E k _ _ (BY A) j;obtain⟨W,T,V,_⟩:=L;have H:=Du j;have p:=Wu f (k+1);have M:(catLen f k:Int)+(f[k].length:Int)<=35184372088832:=by omega
    have X:(0:Int)<=(catLen f k:Int)+(f[k].length:Int):=by omega
    have J:=BX H;rw[V]at U;generalize f[k].length=m at *;clear H p j E d V;have q:(k:Int)<(f.length:Int):=by omega
    go_wp2
    go_round
    case rel=>exact⟨k+1,by omega,by go_num,by rw[J.out];go_num⟩
    case measure=>simp[C0];omega
  ·have q:¬(k:Int)<(f.length:Int):=by omega
   obtain rfl:k=f.length:=by omega
   have p:=VI f;have M:(catLen f f.length:Int)<=35184372088832:=by omega
   clear p q n O;go_wp2_with(go_at_call 152;refine(RQ (B:=w.heap.size) (catLen f f.length) (by omega) (BE _)).mono ?_;rintro e w1 ⟨v0,rfl,D,G⟩);go_loopw [6,27] (λv i wr=>∃k:Nat,k<=f.length/\i=.int .i64 k/\Kr wr w.heap.size v (Bb f k)/\Xy No w wr) (λ_ i _=>f.length-(C0 i).toNat);case atStart=>exact⟨0,BW _,rfl,by rw[QL];exact D,G⟩
   case round =>
    clear D G;obtain⟨k,O,rfl,C,z⟩:=hrel;by_cases n:k<f.length
    ·rcases d with rfl|⟨g,o,rfl,d⟩
     ·simp at n
     ·have A:k<us.length:=by omega
      have U:=z.cell (d k us[k] (BY A)) id;have j:f[k]?=AF f[k]:=BY n;have L:=(E k _ _ (BY A) j).no z;have H:=Wk j;have p:=Wu f (k+1);rw[Du j]at p;unfold catLen at p;have q:(k:Int)<(f.length:Int):=by omega
      have J:=BX H;generalize us[k]=u at *;generalize f[k]=l at *;clear H E d j;have K:=z.size;go_wp2_with(at_builtin;refine Zq rfl _ _ rfl w.heap.size C L rfl rfl (by omega) K ?_;intro R S F P);go_roundw;case rel=>exact⟨k+1,by omega,by go_num,by rw[J.out];exact F,z.trans P (λx hx Q=>by have:=(C.lt x Q).1;omega)⟩
      case measure=>simp[C0];omega
    ·have q:¬(k:Int)<(f.length:Int):=by omega
     obtain rfl:k=f.length:=by omega
     clear q n O;go_wp2;go_ret;exact⟨_,rfl,by rw[<- Ba];exact C,z⟩
abbrev Kk:=List (Int×Qs)
def Uu (m:Kk)(k:Int):Option Qs:=(m.find? (λe=>e.1==k)).map (·.2)
def Na:Kk->Int->Qs->Kk
 | [],k,l=>[(k,l)]
 | e::m,k,l=>if e.1==k then(k,l)::m else e::Na m k l
def Cx:Kk->Int->Kk
 | [],_=>[]
 | e::m,k=>if e.1==k then m else e::Cx m k
def msum:Kk->Nat
 | []=>0
 | e::m=>e.2.length+msum m
def Hg (m:Kk):Prop:=m.Pairwise (λa b=>a.1≠b.1)
theorem Mj{α β:Type}{f:α->β}:∀{l:List α},l.Pairwise (λa b=>f a≠f b)->∀a∈l,∀b∈l,f a=f b->a=b:=by
 intro l h
 induction h with
 | nil=>intro a i;cases i
 | cons h _ k =>
  intro a i b j e;rcases C1.1 i with rfl|d<;>rcases C1.1 j with rfl|g
  ·rfl
  ·exact absurd e (h b g)
  ·exact absurd e.symm (h a d)
  ·exact k a d b g e
def U3 [bn:Ib](base:Nat)(w:AC)(e:C2)(d:Int×Qs):Prop:=e.key=.int .u64 d.1/\Qv base w e.val d.2
structure YR [bn:Ib](base:Nat)(w:AC)(es:List C2)(clock:Nat)(m:Kk):Prop where
 len:es.length=m.length
 all:∀p∈es.zip m,U3 base w p.1 p.2
 born:es.Pairwise (λa b=>a.born<b.born)
 clock:∀e∈es,e.born<clock
 keys:Hg m
def Xm [bn:Ib](base:Nat)(w:AC)(r:Nat)(m:Kk):Prop:=∃es clock,w.heap[r]?=AF (.map es clock)/\YR base w es.toList clock m
theorem YR.keep[bn:Ib]{clock:Nat}(h:YR base w es clock m)(hF:Uz base w F)(k:Xy F w f):YR base f es clock m :=
 ⟨h.len,λp d=>⟨(h.all p d).1,(h.all p d).2.keep hF k⟩,h.born,h.clock,h.keys⟩
theorem Xm.keep[bn:Ib](h:Xm base w r m)(hF:Uz base w F)(k:Xy F w d)(i:¬F r):Xm base d r m:=by obtain⟨es,clock,f,g⟩:=h;exact⟨es,clock,k.heap f i,g.keep hF k⟩
theorem Xm.no[bn:Ib](h:Xm base w r m)(k:Xy No w d):Xm base d r m:=h.keep (Uz.no _ _) k id
theorem Xm.keys[bn:Ib](h:Xm base w r m):Hg m:=by obtain⟨_,_,_,d⟩:=h;exact d.keys
theorem Xm.lt[bn:Ib](h:Xm base w r m):r<w.heap.size:=by obtain⟨_,_,d,_⟩:=h;exact Qt d
theorem Xm.foot[bn:Ib]{base:Nat}{w:AC}{r:Nat}{m:Kk}(h:Xm base w r m)(f:base<=r):Uz base w (·=r):=by obtain⟨es,clock,d,_⟩:=h;rintro b rfl;exact⟨f,Qt d,λcs fr e=>by rw[d]at e;cases e⟩
theorem Cs[bn:Ib]{base:Nat}{w:AC}{k:Int}:∀(es:List C2) (m:Kk) (i:Nat),es.length=m.length->(∀p∈es.zip m,U3 base w p.1 p.2) ->
  (Uu m k=AI/\C3 (.int .u64) (.int .u64 k) es i=AF AI/\(∀e∈m,e.1≠k)) \/
  ∃j v l,Uu m k=AF l/\C3 (.int .u64) (.int .u64 k) es i=AF (AF (i+j,v))/\Qv base w v l/\j<es.length/\m[j]?=AF (k,l)/\(es[j]?).map (·.val)=AF v/\(es[j]?).map (·.key)=AF (.int .u64 k)/\(∀n e,n<j->m[n]?=AF e->e.1≠k):=by
 intro es
 induction es with
 | nil =>
  intro m i A _;cases m with
  | nil=>exact .inl ⟨rfl,rfl,λe M=>by cases M⟩
  | cons=>simp at A
 | cons e es O =>
  intro m i A f;cases m with
  | nil=>simp at A
  | cons z m =>
   have G:=f (e,z) (by simp);obtain⟨q,F⟩:=G;simp only at q F;by_cases d:z.1=k
   ·refine .inr ⟨0,e.val,z.2,by simp[Uu,d],?_,F,by simp,by simp[<- d],by simp,by simp[q,d],λn _ h=>by omega⟩;simp[C3,q,C4,d]
   ·have E:¬k=z.1:=λh=>d h.symm;have o:(k==z.1)=false:=by simpa using E
    rcases O m (i+1) (by simpa using A) (λp N=>f p (by simp[N]))with⟨B,C,D⟩|⟨j,v,l,B,C,D,H,I,J,K,L⟩
    ·refine .inl ⟨?_,?_,?_⟩
     ·simpa[Uu,C5,d]using B
     ·simpa[C3,q,C4,o]using C
     ·intro x g;rcases C1.1 g with rfl|g
      ·exact d
      ·exact D x g
    ·refine .inr ⟨j+1,v,l,?_,?_,D,by simpa using H,by simpa using I,by simpa using J,by simpa using K,?_⟩
     ·simpa[Uu,C5,d]using B
     ·simp only[C3,q,C4,if_true,o,C];congr 3;omega
     ·intro n x hi g;cases n with
      | zero=>simp at g;subst g;exact d
      | succ n=>exact L n x (by omega) (by simpa using g)
theorem Ge(k:Int):C6 (.int .u64) (.int .u64 k):=by simp[C6]
theorem Oh[bn:Ib](h:Xm base w r m)(k:Int):∃v,Qv base w v ((Uu m k).getD [])/\∀d:AC,d.heap[r]?=w.heap[r]? ->
  (C7 131 (.map (AF r)) (.int .u64 k) false).run Tryz.prog d=.ok v d /\
  (C7 131 (.map (AF r)) (.int .u64 k) true).run Tryz.prog d=.ok (.tuple #[v,.bool (Uu m k).isSome]) d:=by
 obtain⟨es,clock,n,o⟩:=h;rcases Cs (k:=k) es.toList m 0 o.len o.all with⟨f,i,_⟩|⟨j,v,l,f,i,p,_⟩
 ·refine⟨.slice AI 0 0,by rw[f];exact Qv.nil _ _,λd g=>?_⟩;rw[n]at g;refine⟨?_,?_⟩ <;>
   simp[C7,C8 Tryz.underlying131,C9 g,CA Tryz.underlying27 (Ge k),CB Tryz.underlying27 i,f,BS]
 ·refine⟨v,by rw[f];exact p,λd g=>?_⟩;rw[n]at g;refine⟨?_,?_⟩ <;>
   simp[C7,C8 Tryz.underlying131,C9 g,CA Tryz.underlying27 (Ge k),CB Tryz.underlying27 i,f,BS]
theorem Ed(h:∀e∈m,e.1≠k):Na m k l=m++[(k,l)]:=by
 induction m with
 | nil=>rfl
 | cons e m f=>simp[Na,h e (by simp),f (λx d=>h x (by simp[d]))]
theorem Ef:∀{m:Kk} {j:Nat},m[j]?=AF (k,o)->(∀d e,d<j->m[d]?=AF e->e.1≠k)->Na m k l=m.set j (k,l):=by
 intro m
 induction m with
 | nil=>intro j h;simp at h
 | cons e m n =>
  intro j h f;cases j with
  | zero=>simp at h;subst h;simp[Na]
  | succ j =>
   have g:=f 0 e (by omega) (by simp);simp[Na,g];exact n (by simpa using h) (λd x hi i=>f (d+1) x (by omega) (by simpa using i))
theorem RM(h:∀e∈m,e.1≠k):Cx m k=m:=by
 induction m with
 | nil=>rfl
 | cons e m f=>simp[Cx,h e (by simp),f (λx d=>h x (by simp[d]))]
theorem KB:∀{m:Kk} {j:Nat},m[j]?=AF (k,o)->(∀d e,d<j->m[d]?=AF e->e.1≠k)->Cx m k=m.eraseIdx j:=by
 intro m
 induction m with
 | nil=>intro j h;simp at h
 | cons e m n =>
  intro j h f;cases j with
  | zero=>simp at h;subst h;simp[Cx]
  | succ j =>
   have g:=f 0 e (by omega) (by simp);simp[Cx,g];exact n (by simpa using h) (λd x hi i=>f (d+1) x (by omega) (by simpa using i))
theorem TW(h:e∈Na m k l):e=(k,l)\/e∈m:=by
 induction m with
 | nil=>simp[Na]at h;exact .inl h
 | cons x m d =>
  simp only[Na]at h
  split at h
  ·rcases C1.1 h with h|h
   ·exact .inl h
   ·exact .inr (by simp[h])
  ·rcases C1.1 h with h|h
   ·exact .inr (by simp[h])
   ·rcases d h with h|h
    ·exact .inl h
    ·exact .inr (by simp[h])
theorem Hg.set(h:Hg m)(k:Int)(l:Qs):Hg (Na m k l):=by
 induction h with
 | nil=>simp[Na,Hg]
 | @cons x m g i j =>
  simp only[Na]
  split
  ·rename_i f;simp only[beq_iff_eq]at f;exact CC (λb d=>by simpa[f]using g b d) i
  ·rename_i f;simp only[beq_iff_eq]at f;refine CC (λb d=>?_) j;rcases TW d with rfl|d
   ·exact f
   ·exact g b d
theorem TP(h:e∈Cx m k):e∈m:=by
 induction m with
 | nil=>simp[Cx]at h
 | cons x m d =>
  simp only[Cx]at h
  split at h
  ·simp[h]
  ·rcases C1.1 h with h|h
   ·simp[h]
   ·simp[d h]
theorem Hg.del(h:Hg m)(k:Int):Hg (Cx m k):=by
 induction h with
 | nil=>simp[Cx,Hg]
 | @cons x m d f i =>
  simp only[Cx]
  split
  ·exact f
  ·exact CC (λb g=>d b (TP g)) i
theorem SQ[bn:Ib]{base:Nat}{w:AC}{r:Nat}{m:Kk}(h:Xm base w r m)(hr:base<=r)(k:Int){v:AM}{l:Qs}(V:Qv base w v l) :
  ∃Q,(CD 131 (.map (AF r)) (.int .u64 k) v).run Tryz.prog w=.ok () Q/\Xm base Q r (Na m k l)/\Xy (·=r) w Q:=by
 have E:=h.foot hr;obtain⟨es,clock,B,n⟩:=h;have O:=Qt B;have G:∀(o:Array C2) (d:Nat) (P:Kk),YR base w o.toList d P->Xm base {w with heap:=w.heap.setIfInBounds r (.map o d)} r P/\Xy (·=r) w {w with heap:=w.heap.setIfInBounds r (.map o d)}:=by intro o d P D;have U:Xy (·=r) w {w with heap:=w.heap.setIfInBounds r (.map o d)}:=Xy.setObj (F:=(·=r)) (Xy.refl _ w) (r:=r) (.inl rfl) _;exact⟨⟨o,d,by simp[O],D.keep E U⟩,U⟩
 rcases Cs (k:=k) es.toList m 0 n.len n.all with⟨X,K,S⟩|⟨j,v0,l0,X,K,_,Y,L,h6,Z,T⟩
 ·refine⟨_,?_,G (es.push {key:=.int .u64 k,val:=v,born:=clock}) (clock+1) _ ?_⟩
  ·simp[CD,C8 Tryz.underlying131,C9 B,CA Tryz.underlying27 (Ge k),CB Tryz.underlying27 K,CE _ B,BS]
  ·rw[Ed S];refine⟨by simpa using n.len,?_,?_,?_,?_⟩
   ·intro p A;rw[CF,List.zip_append n.len]at A;rcases CG.1 A with A|A
    ·exact n.all p A
    ·simp at A;subst A;exact⟨rfl,V⟩
   ·rw[CF];refine CH.2 ⟨n.born,List.pairwise_singleton _ _,λa ha b B=>?_⟩;simp at B;subst B;exact n.clock a ha
   ·intro e g;rw[CF]at g;rcases CG.1 g with g|g
    ·have:=n.clock e g;omega
    ·simp at g;subst g;simp
   ·have:=n.keys.set k l;rw[Ed S]at this;exact this
 ·have hj:j<es.size:=by simpa using Y
  simp only[CI]at K;have J:(es[j]?).map (·.key)=AF (.int .u64 k):=by simpa using Z
  refine⟨_,?_,G (es.modify j λe=>{e with key:=.int .u64 k,val:=v}) clock _ ?_⟩
  ·simp[CD,C8 Tryz.underlying131,C9 B,CA Tryz.underlying27 (Ge k),CB Tryz.underlying27 K,J,MapKept.run_keyThatStays (Ge k),CE _ B,BS]
  ·rw[Ef L T];have C:∀(i:Nat),((es.modify j λe=>{e with key:=.int .u64 k,val:=v})[i]?).map (λe:C2=>e.born)=(es[i]?).map (λe:C2=>e.born):=by
    intro i;rw[CJ]
    split
    ·cases es[i]?<;>rfl
    ·rfl
   have H:(es.modify j λe=>{e with key:=.int .u64 k,val:=v}).toList.map (λe:C2=>e.born)=es.toList.map (λe:C2=>e.born):=by apply List.ext_getElem?;intro i;rw[CK,CK,B6,B6];exact C i
   refine⟨by simpa using n.len,?_,?_,?_,?_⟩
   ·intro p A;obtain⟨i,hi⟩:=CL.1 A;rw[CM]at hi;obtain⟨q,z⟩:=hi;rw[B6,CJ]at q;rw[List.getElem?_set]at z;by_cases I:j=i
    ·subst I;have N:j<m.length:=(BK.1 L).1;simp[N]at z;simp[hj]at q;rw[<- q,<- z];exact⟨rfl,V⟩
    ·simp[I]at q z;refine n.all p (CL.2 ⟨i,?_⟩);rw[CM];exact⟨by simpa using q,z⟩
   ·have:=n.born;rw[<- CN (f:=λe:C2=>e.born) (R:=λa b=>a<b)]at this⊢;rw[H];exact this
   ·intro e g;have:e.born∈es.toList.map (λe:C2=>e.born):=by rw[<- H];exact CO g
    obtain⟨W,D,M⟩:=CP.1 this;rw[<- M];exact n.clock W D
   ·have:=n.keys.set k l;rw[Ef L T]at this;exact this
theorem N7[bn:Ib]{base:Nat}{w:AC}{r:Nat}{m:Kk}(h:Xm base w r m)(Q:base<=r)(k:Int) :
  ∃H,(∀G,(CR #[131,27] G #[.map (AF r),.int .u64 k]).run Tryz.prog w=.ok (.tuple #[]) H)/\Xm base H r (Cx m k)/\Xy (·=r) w H:=by
 have g:=h.foot Q;obtain⟨es,clock,o,f⟩:=h;have D:=Qt o;have n:∀(d:Array C2) (E:Kk),YR base w d.toList clock E->Xm base {w with heap:=w.heap.setIfInBounds r (.map d clock)} r E/\Xy (·=r) w {w with heap:=w.heap.setIfInBounds r (.map d clock)}:=by intro d E A;have K:Xy (·=r) w {w with heap:=w.heap.setIfInBounds r (.map d clock)}:=Xy.setObj (F:=(·=r)) (Xy.refl _ w) (r:=r) (.inl rfl) _;exact⟨⟨d,clock,by simp[D],A.keep g K⟩,K⟩
 rcases Cs (k:=k) es.toList m 0 f.len f.all with⟨M,z,N⟩|⟨j,V,U,M,z,_,I,J,S,T,O⟩
 ·refine⟨_,λG=>?_,n es _ ?_⟩
  ·simp[CR,C8 Tryz.underlying131,C9 o,CA Tryz.underlying27 (Ge k),CB Tryz.underlying27 z,CE _ o,BS]
  ·rw[RM N];exact f
 ·have P:j<es.size:=by simpa using I
  simp only[CI]at z;refine⟨_,λG=>?_,n (es.eraseIdxIfInBounds j) _ ?_⟩
  ·simp[CR,C8 Tryz.underlying131,C9 o,CA Tryz.underlying27 (Ge k),CB Tryz.underlying27 z,CE _ o,BS]
  ·have C:j<m.length:=(BK.1 J).1;have i:(es.eraseIdxIfInBounds j).toList=es.toList.eraseIdx j:=by simp[Array.eraseIdxIfInBounds,P]
   have q:∀{α β:Type} (a:List α) (b:List β) (j:Nat),(a.eraseIdx j).zip (b.eraseIdx j)=(a.zip b).eraseIdx j:=by
    intro α β a
    induction a with
    | nil=>intro b j;simp
    | cons x a R =>
     intro b j;cases b with
     | nil=>simp
     | cons y b =>
      cases j with
      | zero=>rfl
      | succ j=>simp[R]
   rw[KB J O,i];refine⟨by rw[CS I,CS C,f.len],?_,f.born.sublist (CT _ _),λe B=>f.clock e (CU B),f.keys.sublist (CT _ _)⟩;intro p L;rw[q]at L;exact f.all p (CU L)
structure Hq [bn:Ib](base:Nat)(w:AC)(it r:Nat)(m left:Kk):Prop where
 ex:∃es clock seen,w.heap[it]?=AF (.mapIter (AF r) clock seen clock)/\w.heap[r]?=AF (.map es clock)/\YR base w es.toList clock m /\
  left=((es.toList.zip m).filter (λp=>!seen.contains p.1.born)).map (·.2)
theorem XR{α β:Type}{p:α×β}{a:List α}{b:List β}(h:p∈a.zip b):p.1∈a:=(List.of_mem_zip (a:=p.1) (b:=p.2) h).1
theorem R9[bn:Ib](h:Xm base w r m):∃o,(CV 131 (.map (AF r))).run Tryz.prog w=.ok (.pointer (AF ⟨w.heap.size,0,AI⟩)) (w.alloc o) /\
  Hq base (w.alloc o) w.heap.size r m m:=by
 obtain⟨es,clock,d,f⟩:=h;have g:Xy No w (w.alloc (.mapIter (AF r) clock #[] clock)):=(Xy.refl _ w).alloc _;refine⟨.mapIter (AF r) clock #[] clock,?_,⟨es,clock,#[],Qy w _,g.heap d id,f.keep (Uz.no _ _) g,?_⟩⟩
 ·simp[CV,C8 Tryz.underlying131,C9 d,newObj,Sem.run,BS]
 ·have e:(es.toList.zip m).filter (λp=>!(#[]:Array Nat).contains p.1.born)=es.toList.zip m:=CW.2 (λp _=>by simp);rw[e];exact(CX (by rw[f.len];exact BE _)).symm
theorem NY[bn:Ib]{base:Nat}{w:AC}{d r:Nat}{m left:Kk}(h:Hq base w d r m left)(O:base<=d)(V:TypeId) :
  (left=[]/\(CY (.pointer (AF ⟨d,0,AI⟩)) false V).run Tryz.prog w=.ok (.tuple #[.bool false]) w) \/
  ∃L∈left,∃v I,Qv base w v L.2/\(CY (.pointer (AF ⟨d,0,AI⟩)) false V).run Tryz.prog w=.ok (.tuple #[.bool true,.int .u64 L.1,v]) I /\
   (Instr.entry (.pointer (AF ⟨d,0,AI⟩))).run Tryz.prog I=.ok (.tuple #[.int .u64 L.1,v]) I /\
   Hq base I d r m (left.filter (λe=>e.1 != L.1))/\Xy (·=d) w I:=by
 obtain⟨es,clock,seen,hi,K,j,R⟩:=h.ex;have z:Uz base w (·=d):=by rintro b rfl;exact⟨O,Qt hi,λcs fr e=>by rw[hi]at e;cases e⟩
 have G:r≠d:=by rintro rfl;rw[hi]at K;cases K
 have i:(CZ es seen).toList=((es.toList.zip m).filter (λp=>!seen.contains p.1.born)).map (·.1):=by
  have e:es.toList=(es.toList.zip m).map (·.1):=(D0 (by rw[j.len];exact BE _)).symm;have:(CZ es seen).toList=es.toList.filter (λe=>!seen.contains e.born):=by simp[CZ]
  rw[this]
  conv=>lhs;rw[e]
  rw[D2];rfl
 rcases run_next_at (P:=Tryz.prog) w V d r clock clock seen es clock hi K j.clock (BE _)with⟨Y,g⟩|⟨e,C,M,H,g⟩
 ·left;refine⟨?_,g⟩;have:(CZ es seen).toList=[]:=BJ (by simpa using Y);rw[i]at this;rw[R,List.map_eq_nil_iff.1 this];rfl
 ·right;rw[i]at C;obtain⟨p,W,rfl⟩:=CP.1 C;obtain⟨k,aA⟩:=List.mem_filter.1 W;obtain⟨E,U⟩:=j.all p k;have Q:Xy (·=d) w (D4 M d (.mapIter (AF r) clock (seen.push p.1.born) clock)):=by
   rcases H with rfl|rfl
   ·exact Xy.setObj (F:=(·=d)) (Xy.refl _ M) (r:=d) (.inl rfl) _
   ·exact Xy.setObj (F:=(·=d)) (Xy.drew (Xy.refl _ w)) (r:=d) (.inl rfl) _
  have N:d<M.heap.size:=by rcases H with rfl|rfl<;>exact Qt hi
  have D:(D4 M d (.mapIter (AF r) clock (seen.push p.1.born) clock)).heap[d]?=AF (.mapIter (AF r) clock (seen.push p.1.born) clock):=by simp[D4,N]
  have B:=Q.heap K G;have T:(es.toList.map (λe:C2=>e.born)).Nodup:=by rw[List.nodup_iff_pairwise_ne,CN];exact j.born.imp (λh=>D5 h)
  rw[E]at g;refine⟨p.2,by rw[R];exact CO W,p.1.val,_,U,g,?_,⟨es,clock,seen.push p.1.born,D,B,j.keep z Q,?_⟩,Q⟩
  ·rw[run_entry_at _ d r clock seen es clock p.1 D B (XR k) T,E]
  ·rw[R,D2];congr 1;rw[List.filter_filter];apply List.filter_congr;intro q X;have o:(es.toList.zip m).Pairwise (λa b=>a.1.born≠b.1.born):=by have:=j.born.imp (S:=λa b:C2=>a.born≠b.born) (λh=>D5 h);have e:es.toList=(es.toList.zip m).map (·.1):=(D0 (by rw[j.len];exact BE _)).symm;rw[e,CN]at this;exact this
   have A:(es.toList.zip m).Pairwise (λa b=>a.2.1≠b.2.1):=by have:=j.keys;unfold Hg at this;have e:m=(es.toList.zip m).map (·.2):=(CX (by rw[j.len];exact BE _)).symm;rw[e,CN]at this;exact this
   have n:q.1.born=p.1.born↔q.2.1=p.2.1:=by
    constructor
    ·intro h;rw[Mj (f:=λa:C2×(Int×Qs)=>a.1.born) o q X p k h]
    ·intro h;rw[Mj (f:=λa:C2×(Int×Qs)=>a.2.1) A q X p k h]
   by_cases J:q.1.born=p.1.born
   ·simp[J,n.1 J]
   ·have Z:¬q.2.1=p.2.1:=λh=>J (n.2 h);simp[J,Z]
def He (w:AC)(d:Nat):Nat:=match w.heap[d]? with
 | some (.mapIter (some r) _ seen _)=>(match w.heap[r]? with|some (.map es _)=>(CZ es seen).size|_=>0)
 | _=>0
theorem Hq.num[bn:Ib](h:Hq base w d r m left):He w d=left.length:=by
 obtain⟨es,clock,seen,hi,i,j,k⟩:=h.ex;have e:es.toList=(es.toList.zip m).map (·.1):=(D0 (by rw[j.len];exact BE _)).symm;have f:(CZ es seen).toList=es.toList.filter (λe=>!seen.contains e.born):=by simp[CZ]
 have g:(CZ es seen).size=left.length:=by
  rw[<- Array.length_toList,f,k,D6]
  conv=>lhs;rw[e]
  rw[D2,D6];rfl
 simp only[He,hi,i,g]
theorem El(h:Hg m)(d:f∈m):msum m=f.2.length+msum (m.filter (λe=>e.1 != f.1)):=by
 induction h with
 | nil=>cases d
 | @cons x m g k j =>
  rcases C1.1 d with rfl|d
  ·have e:m.filter (λe=>e.1 != f.1)=m:=CW.2 (λy i=>by simpa using(g y i).symm);simp[msum,e]
  ·have:=g f d;simp[msum,this,j d];omega
theorem Il(h:Hg m)(d:f∈m):(m.filter (λe=>e.1 != f.1)).length+1=m.length:=by
 induction h with
 | nil=>cases d
 | @cons x m g k j =>
  rcases C1.1 d with rfl|d
  ·have e:m.filter (λe=>e.1 != f.1)=m:=CW.2 (λy i=>by simpa using(g y i).symm);simp[e]
  ·have:=g f d;simp[this,j d]
theorem Hg.filter(h:Hg m)(p:Int×Qs->Bool):Hg (m.filter p):=h.sublist List.filter_sublist
def numB (n:Nat):List UInt8:=if n<128 then[D7 n]else D7 (n%128+128)::numB (n/128)
termination_by n
decreasing_by omega
theorem Yb(h:n<128):numB n=[D7 n]:=by rw[numB,if_pos h]
theorem Rv(h:128<=n):numB n=D7 (n%128+128)::numB (n/128):=by rw[numB,if_neg (by omega)]
theorem Pj:∀(k n:Nat),n<128^(k+1)->(numB n).length<=k+1
 | 0,n,h=>by rw[Yb (by simpa using h)];simp
 | k+1,n,h=>by
  by_cases d:n<128
  ·rw[Yb d];simp
  ·rw[Rv (by omega)];have f:n/128<128^(k+1):=by rw[D8 (by decide)];rw[D9]at h;exact h
   have:=Pj k (n/128) f;simp;omega
theorem Qp(h:n<18446744073709551616):(numB n).length<=10:=Pj 9 n (Nat.lt_of_lt_of_le h (by decide))
theorem Vq(w:AC)(m:Nat)(f:m<256):Qv (bn:=Xl) 0 (w.alloc (.cells #[.int .u8 m] 5)) (.slice (AF ⟨w.heap.size,0,AI⟩) 1 1) [D7 m]:=by
 have d:(((D7 m).toNat:Nat):Int)=(m:Int):=by simp;omega
 have h:Kr (w.alloc (.cells #[.int .u8 m] 5)) w.heap.size (.slice (AF ⟨w.heap.size,0,AI⟩) 1 1) [D7 m] :=
  ⟨rfl,.inr ⟨w.heap.size,1,_,rfl,BE _,Qy _ _,BE _,by decide,rfl,by
   show[DA .u8 (m:Int)]=[u8v (D7 m)];unfold u8v
   rw[d]⟩⟩
 exact h.bytes (bn:=Xl) (λ_=>BW _)
def Wq [bn:Ib](base:Nat)(w:AC)(B:Nat)(v:AM)(l:Qs):Prop:=(∃ao,v=.slice ao l.length l.length/\Qv base w v l)\/Kr w B v l
theorem Wq.form[bn:Ib](h:Wq base w B v l):∃ao cap,v=.slice ao l.length cap:=by
 rcases h with⟨ao,e,_⟩|h
 ·exact⟨_,_,e⟩
 ·exact h.form
theorem M4(m:Nat):bits .or .u8 ((m:Int)%256) 128=((m%128+128:Nat):Int):=by
 have h:∀k:Fin 256,bits .or .u8 (k.val:Int) 128=((k.val%128+128:Nat):Int):=by decide +kernel
 have d:=h ⟨m%256,Nat.mod_lt _ (by decide)⟩;simp only at d;have f:((m%256:Nat):Int)=(m:Int)%256:=by omega
 have g:m%256%128=m%128:=by omega
 rw[f,g]at d;exact d
theorem Wq.no[bn:Ib](h:Wq base w B v l)(k:Xy No w d):Wq base d B v l:=by
 rcases h with⟨ao,e,f⟩|h
 ·exact .inl ⟨ao,e,f.no k⟩
 ·exact .inr (h.keep k (λ_ _ e=>e))
theorem Mt[bn:Ib](Z:o.guard=AI)(s x:Operand)(F:o.op=Op.call {callee:=Callee.builtin Builtin.append,args:=#[s,x],argTypes:=#[59,59]})(B:Nat)(C:Wq base w B v l)(n:Qv (bn:=Xl) base' w u m)(hm:m≠[])(hs:a.eval s=v)(hx:a.eval x=u)(E:l.length+m.length<=70368744177664)(W:B<=w.heap.size)(X:∀J I,Kr I B J (l++m)->Xy (λb=>B<=b) w I->wpList Tryz.prog A Q rest (a.put o.dst J) I) :
  wpList Tryz.prog A Q (o::rest) a w:=by
 have d:Kr w B v l->wpList Tryz.prog A Q (o::rest) a w:=λd =>
  Zq (bn:=Xl) Z s x F B d n hs hx E W (λJ I h1 k=>X J I h1 (k.mono λb _ N=>(d.lt b N).1))
 rcases C with⟨ao,rfl,N⟩|h
 ·obtain⟨aB,V,Y,aC,aD,S,g⟩:=N;simp only[DB]at Y;obtain⟨rfl,_,rfl⟩:=Y;cases ao with
  | none =>
   have hl:=S rfl;have:l=[]:=BJ hl;subst this;exact d (Kr.nil _ _)
  | some ad =>
   refine wpList_plain Z λK M=>?_;obtain⟨i0,hi,T,H,U⟩:=info_parts Rr;obtain⟨bo,bc,rfl,hc,aE,hn,p⟩:=n;cases bo with
   | none =>
    have:=hn rfl;have R:m.length=0:=by omega
    exact(hm (BJ R)).elim
   | some bd =>
    have aA:0<m.length:=List.length_pos_iff.2 hm;have G:=run_append_grow (P:=Tryz.prog) w 59 o.type 5 i0 (.int .u8 0) Tryz.underlying59 hi T ad l.length l.length (l.map u8v) (by rw[H];simp) (λj y i=>by
      rw[CK]at i;cases f:l[j]? with
      | none=>simp[f]at i
      | some z =>
       obtain⟨L,e,_,q⟩:=g j z f;cases e;simp[f]at i
       rw[q,i])
     bd m.length bc (m.map u8v) (by rw[H];simp) (λj y i=>by
      rw[CK]at i;cases f:m[j]? with
      | none=>simp[f]at i
      | some z =>
       obtain⟨L,e,_,q⟩:=p j z f;cases e;simp[f]at i
       rw[q,i]) (by omega) (by omega) (growslice_fits (by omega) (by rw[U];omega))
    have O:=grownCap_ge w (l.length+m.length) l.length 5;have D:grownCap w (l.length+m.length) l.length 5<=BH:=grownCap_le_maxLen w (l.length+m.length) l.length 5 (by unfold BH;omega);unfold Oper.wp;simp[execOp,F,resolve,invoke,builtin,hs,hx,G,BS];refine M _ _ (X _ _ ?_ ((Xy.refl _ _).drew.alloc _));refine⟨by simp,.inr ⟨w.heap.size,_,_,by rw[BO],W,heap_alloc_new w.drew _,by rw[BO];exact O,D,?_,?_⟩⟩
    ·simp[size_zeroCells,Value.cells];omega
    ·simp;rw[<- B7,List.take_append_of_le_length (by simp),List.take_of_length_le (by simp)]
 ·exact d h
theorem Xk[bn:Ib](h:Qv base w v l)(n:Nat)(S:n<18446744073709551616)(Q:l.length<=1099511627776) :
  Calls Tryz.prog 59 #[v,.int .u64 n] w λe V=>∃G,e=.returned G/\Kr V w.heap.size G (l++numB n)/\Xy No w V:=by
 obtain⟨ao,cap,rfl⟩:=h.form;have E:l.length<=cap/\cap<=BH:=by obtain⟨_,_,hq,Y,Z,_⟩:=h;simp at hq;omega
 unfold BH at E;have P:Wq base w w.heap.size (.slice ao l.length l.length) l:=by obtain⟨X,N,O,Y,Z,h3,h4⟩:=h;simp only[DB]at O;obtain⟨rfl,_,rfl⟩:=O;refine .inl ⟨ao,rfl,ao,l.length,rfl,BE _,by unfold BH;omega,λe=>by have:=h3 e;omega,h4⟩
 have C:=BX (A3 P S Q);clear P h S Q;go_enter Tryz.func59,Tryz.ntmps59;go_wp2_with fail;go_loopw [0,1] (λv0 M wr=>∃(d:List UInt8) (m:Nat),M=.int .u64 m/\numB n=d++numB m/\m<=n/\Wq base wr w.heap.size v0 (l++d)/\Xy No w wr) (λ_ M _=>(C0 M).toNat);case atStart=>exact⟨[],n,rfl,rfl,BE _,by rw[List.append_nil];exact C.out.1,Xy.refl _ _⟩
 case round =>
  obtain⟨d,m,rfl,H,q,f,F⟩:=hrel;have R:(m:Int)<=18446744073709551615:=by have:=C.out.2.1;omega
  obtain⟨T,U,rfl⟩:=f.form;have p:d.length<=10:=by have:=Qp C.out.2.1;rw[H,BO]at this;omega
  have B:=BX (A5 H q f F p);have A:=λ(w:AC) o=>(Xy.refl No w).alloc o;by_cases D:m<128
  ·have I:¬(128:Int)<=(m:Int):=by omega
   have k:=Vq wr m (by omega);have g:Wq base (wr.alloc (.cells #[.int .u8 m] 5)) w.heap.size (.slice T (l++d).length U) (l++d):=f.no (A _ _);have j:(l++d).length+[D7 m].length<=70368744177664:=by have:=C.out.2.2;simp;omega
   have z:w.heap.size<=(wr.alloc (.cells #[.int .u8 m] 5)).heap.size:=(F.then (A _ _)).size;clear H q f F p;go_wp2_with(at_builtin;refine Mt rfl _ _ rfl w.heap.size g k (by simp) rfl rfl j z ?_;intro G w7 i L);go_ret;refine⟨G,rfl,?_,(B.out.2.2.2.1.then (A _ _)).trans L (λx hx e=>by omega)⟩;rw[B.out.1,Yb D,<- B7];exact i
  ·have I:(128:Int)<=(m:Int):=by omega
   obtain⟨r,K⟩:∃r,r=m%128+128:=⟨_,rfl⟩;have J:=M4 m;rw[<- K]at J;have k:=Vq wr r (by omega);have g:Wq base (wr.alloc (.cells #[.int .u8 r] 5)) w.heap.size (.slice T (l++d).length U) (l++d):=f.no (A _ _);have j:(l++d).length+[D7 r].length<=70368744177664:=by have:=C.out.2.2;simp;omega
   have z:w.heap.size<=(wr.alloc (.cells #[.int .u8 r] 5)).heap.size:=(F.then (A _ _)).size;have W:=BX K;clear H q f F p K;go_wp2_with(at_builtin;refine Mt rfl _ _ rfl w.heap.size g k (by simp) rfl rfl j z ?_;intro G w7 i L);go_roundw;case rel =>refine⟨d++[D7 r],m/128,by rw[show((m/128:Nat):Int)=(m:Int)/128 by omega],?_,by have:=B.out.2.1;omega,.inr (by rw[<- B7];exact i),(B.out.2.2.2.1.then (A _ _)).trans L (λx hx e=>by omega)⟩;rw[B.out.1,Rv (by omega),W.out,B7];rfl
   case measure =>simp only[C0];omega
end
section
abbrev Xc:=Nat×Nat
structure Uk (l:List Xc):Prop where
 run:∀r∈l,r.1<=r.2/\r.2<18446744073709551616
 gap:l.Pairwise (λa b=>a.2+1<b.1)
def Ux (l:List Xc)(n:Nat):Prop:=∃r∈l,r.1<=n/\n<=r.2
def Yr (l:List Xc)(n:Nat):Nat:=l.findIdx (λr=>decide (n<=r.2))
def Vu:List Xc->Nat->Nat->List Xc
 | [],f,t=>[(f,t)]
 | r::l,f,t=>if r.1-1<=t then Vu l (min f r.1) (max t r.2)else(f,t)::r::l
def Yq (l:List Xc)(f t:Nat):List Xc:=if t<f then l else l.take (Yr l (f-1))++Vu (l.drop (Yr l (f-1))) f t
def Kg (a b:Nat)(r:Xc):List Xc:=if r.2<a\/b<r.1 then[r]else(if r.1<a then[(r.1,a-1)]else[])++(if b<r.2 then[(b+1,r.2)]else[])
def Xj (l:List Xc)(a b:Nat):List Xc:=l.flatMap (Kg a b)
def Ua (l:List Xc)(n:Nat):List Xc:=if n=0 then l else Xj l 0 (n-1)
def Z8 (l:List Xc)(n:Nat):Option Nat:=match l[Yr l n]? with
 | none=>AF n
 | some r=>if n<r.1 then AF n else if r.2=18446744073709551615 then AI else AF (r.2+1)
theorem Uk.nil:Uk []:=⟨λr h=>by simp at h,DC⟩
theorem Ux.nil(n:Nat):¬Ux [] n:=λ⟨r,h,_⟩=>by simp at h
theorem Zf(r:Xc)(l:List Xc)(n:Nat):Ux (r::l) n ↔(r.1<=n/\n<=r.2)\/Ux l n:=by
 unfold Ux;constructor
 ·rintro⟨x,d,h⟩;rcases C1.1 d with rfl|d
  ·exact .inl h
  ·exact .inr ⟨x,d,h⟩
 ·rintro(h|⟨x,d,h⟩)
  ·exact⟨r,by simp,h⟩
  ·exact⟨x,by simp[d],h⟩
theorem Er(l m:List Xc)(n:Nat):Ux (l++m) n↔Ux l n\/Ux m n:=by
 induction l with
 | nil=>simp[Ux.nil]
 | cons r l d=>rw[DD,Zf,Zf,d,or_assoc]
theorem Uk.tail(h:Uk (r::l)):Uk l:=⟨λx d=>h.run x (by simp[d]),(DE.1 h.gap).2⟩
theorem Uk.head(h:Uk (r::l)):∀x∈l,r.2+1<x.1:=(DE.1 h.gap).1
theorem Uk.cons{r:Xc}{l:List Xc}(h:Uk l)(f:r.1<=r.2)(g:r.2<18446744073709551616)(i:∀x∈l,r.2+1<x.1):Uk (r::l) :=
 ⟨λx d=>by rcases C1.1 d with rfl|d;exact⟨f,g⟩;exact h.run x d,DE.2 ⟨i,h.gap⟩⟩
theorem Uk.above(h:Uk (r::l))(d:Ux l n):r.2+1<n:=by obtain⟨x,f,g,_⟩:=d;have:=h.head x f;omega
theorem Uk.ext:∀{l m:List Xc},Uk l->Uk m->(∀n,Ux l n↔Ux m n)->l=m
 | [],[],_,_,_=>rfl
 | [],r::m,_,f,h=>by
  have:=(h r.1).2 ((Zf _ _ _).2 (.inl ⟨BE _,(f.run r (by simp)).1⟩));exact(Ux.nil _ this).elim
 | r::l,[],d,_,h=>by
  have:=(h r.1).1 ((Zf _ _ _).2 (.inl ⟨BE _,(d.run r (by simp)).1⟩));exact(Ux.nil _ this).elim
 | r::l,s::m,d,f,h=>by
  have w:=(d.run r (by simp)).1;have z:=(f.run s (by simp)).1;have g:=(h r.1).1 ((Zf _ _ _).2 (.inl ⟨BE _,w⟩));have i:=(h s.1).2 ((Zf _ _ _).2 (.inl ⟨BE _,z⟩));have o:r.1=s.1:=by
   rcases(Zf _ _ _).1 g with g|g<;>rcases(Zf _ _ _).1 i with i|i
   ·omega
   ·have:=d.above i;omega
   ·have:=f.above g;omega
   ·have:=d.above i;have:=f.above g;omega
  have p:r.2=s.2:=by
   rcases DF r.2 s.2 with j|q|j
   ·have:=(h (r.2+1)).2 ((Zf _ _ _).2 (.inl ⟨by omega,by omega⟩));rcases(Zf _ _ _).1 this with t|t
    ·omega
    ·have:=d.above t;omega
   ·exact q
   ·have:=(h (s.2+1)).1 ((Zf _ _ _).2 (.inl ⟨by omega,by omega⟩));rcases(Zf _ _ _).1 this with t|t
    ·omega
    ·have:=f.above t;omega
  have e:r=s:=Prod.ext o p;subst e;rw[Uk.ext d.tail f.tail (λn=>?_)];have k:=h n;rw[Zf,Zf]at k;constructor
  ·intro t;rcases k.1 (.inr t)with u|u
   ·have:=d.above t;omega
   ·exact u
  ·intro t;rcases k.2 (.inr t)with u|u
   ·have:=f.above t;omega
   ·exact u
theorem Fb(r:Xc)(l:List Xc)(n:Nat):Yr (r::l) n=if n<=r.2 then 0 else Yr l n+1:=by unfold Yr;rw[List.findIdx_cons];by_cases h:n<=r.2<;>simp[h]
theorem Hd(l:List Xc)(n:Nat):Yr l n<=l.length:=List.findIdx_le_length
theorem Wx:∀{l:List Xc} {f t:Nat},Uk l->f<=t->t<18446744073709551616->(∀r∈l,f-1<=r.2) ->
  Uk (Vu l f t)/\(∀n,Ux (Vu l f t) n↔Ux l n\/(f<=n/\n<=t))/\(∀k,(∀r∈l,k<=r.1)->k<=f->∀x∈Vu l f t,k<=x.1)
 | [],f,t,_,g,m,_=>by
  refine⟨Uk.nil.cons g m (λx h=>by simp at h),λn=>?_,λk _ i x d=>?_⟩
  ·show Ux [(f,t)] n↔_;rw[Zf];simp[Ux.nil]
  ·have:x=(f,t):=by simpa[Vu]using d
   rw[this];exact i
 | r::l,f,t,h,g,m,q=>by
  have D:=h.run r (by simp);have w:=q r (by simp);unfold Vu;by_cases o:r.1-1<=t
  ·rw[if_pos o];obtain⟨A,B,C⟩:=Wx (l:=l) (f:=min f r.1) (t:=max t r.2) h.tail (by omega) (by omega) (λx d=>by have:=h.head x d;have:=h.run x (by simp[d]);omega);refine⟨A,λn=>?_,λk i j x d=>C k (λy z=>i y (by simp[z])) (by have:=i r (by simp);omega) x d⟩;rw[B,Zf];constructor
   ·rintro(a|a)
    ·exact .inl (.inr a)
    ·by_cases p:f<=n/\n<=t
     ·exact .inr p
     ·exact .inl (.inl (by omega))
   ·rintro((a|a)|a)
    ·exact .inr (by omega)
    ·exact .inl a
    ·exact .inr (by omega)
  ·rw[if_neg o];refine⟨h.cons g m (λx d=>?_),λn=>?_,λk i j x d=>?_⟩
   ·rcases C1.1 d with rfl|d
    ·show t+1<x.1;omega
    ·have:=h.head x d;show t+1<x.1;omega
   ·rw[Zf];constructor
    ·rintro(a|a)
     ·exact .inr a
     ·exact .inl a
    ·rintro(a|a)
     ·exact .inr a
     ·exact .inl a
   ·rcases C1.1 d with rfl|d
    ·exact j
    ·exact i x d
theorem VQ:∀{l:List Xc} {f t:Nat},Uk l->f<=t->t<18446744073709551616 ->
  Uk (l.take (Yr l (f-1))++Vu (l.drop (Yr l (f-1))) f t)/\(∀n,Ux (l.take (Yr l (f-1))++Vu (l.drop (Yr l (f-1))) f t) n↔Ux l n\/(f<=n/\n<=t)) /\
  (∀k,(∀r∈l,k<=r.1)->k<=f->∀x∈l.take (Yr l (f-1))++Vu (l.drop (Yr l (f-1))) f t,k<=x.1)
 | [],f,t,h,g,i=>by simpa[Yr]using Wx (l:=[]) h g i (λr h=>by simp at h)
 | r::l,f,t,h,g,i=>by
  rw[Fb]
  by_cases j:f-1<=r.2
  ·rw[if_pos j]
   refine Wx h g i (λx d=>?_)
   rcases C1.1 d with rfl|d
   ·exact j
   ·have:=h.head x d;have:=(h.run x (by simp[d])).1;omega
  ·rw[if_neg j]
   obtain⟨z,A,w⟩:=VQ h.tail g i
   have q:=h.run r (by simp)
   simp only[List.take_succ_cons,List.drop_succ_cons,DD]
   refine⟨z.cons q.1 q.2 (λx d=>?_),λn=>?_,λk p m x d=>?_⟩
   ·have:=w (r.2+2) (λy o=>by have:=h.head y o;omega) (by omega) x d
    omega
   ·rw[Zf,Zf,A,or_assoc]
   ·rcases C1.1 d with rfl|d
    ·exact p x (by simp)
    ·exact w k (λy o=>p y (by simp[o])) m x d
theorem Oc(h:Uk l)(j:t<18446744073709551616):Uk (Yq l f t)/\∀n,Ux (Yq l f t) n↔Ux l n\/(f<=n/\n<=t):=by
 unfold Yq;by_cases d:t<f
 ·rw[if_pos d];exact⟨h,λn=>⟨.inl,λa=>a.elim id (λ(b:f<=n/\n<=t)=>by omega)⟩⟩
 ·rw[if_neg d];obtain⟨g,i,_⟩:=VQ (f:=f) (t:=t) h (by omega) j;exact⟨g,i⟩
theorem Lk(f:r.1<=r.2)(d:x∈Kg a b r):x.1<=x.2/\r.1<=x.1/\x.2<=r.2:=by
 unfold Kg at d
 split at d
 ·have:x=r:=by simpa using d
  subst this;exact⟨f,BE _,BE _⟩
 ·rename_i g;rcases CG.1 d with d|d
  ·split at d
   ·have:x=(r.1,a-1):=by simpa using d
    subst this;simp only;omega
   ·simp at d
  ·split at d
   ·have:x=(b+1,r.2):=by simpa using d
    subst this;simp only;omega
   ·simp at d
theorem K3(n:Nat)(f:a<=b):Ux (Kg a b r) n ↔(r.1<=n/\n<=r.2)/\¬(a<=n/\n<=b):=by
 unfold Kg
 split
 ·rw[Zf];simp only[Ux.nil,or_false];omega
 ·rename_i j;rw[Er];have g:Ux (if r.1<a then[(r.1,a-1)]else[]) n↔r.1<a/\r.1<=n/\n<=a-1:=by
   by_cases d:r.1<a
   ·rw[if_pos d,Zf];simp only[Ux.nil,or_false];omega
   ·rw[if_neg d];exact⟨λh=>(Ux.nil _ h).elim,λh=>by omega⟩
  have i:Ux (if b<r.2 then[(b+1,r.2)]else[]) n↔b<r.2/\b+1<=n/\n<=r.2:=by
   by_cases d:b<r.2
   ·rw[if_pos d,Zf];simp only[Ux.nil,or_false];omega
   ·rw[if_neg d];exact⟨λh=>(Ux.nil _ h).elim,λh=>by omega⟩
  rw[g,i];omega
theorem K2(d:a<=b):(Kg a b r).Pairwise (λa b=>a.2+1<b.1):=by
 unfold Kg
 split
 ·simp
 ·split<;>split<;>simp
  omega
theorem By:∀{l:List Xc} {a b:Nat},Uk l->a<=b->Uk (Xj l a b)/\(∀n,Ux (Xj l a b) n↔Ux l n/\¬(a<=n/\n<=b))/\(∀k,(∀r∈l,k<=r.1)->∀x∈Xj l a b,k<=x.1)
 | [],a,b,_,_=>⟨Uk.nil,λn=>by simp[Xj,Ux.nil],λk _ x d=>by simp[Xj]at d⟩
 | r::l,a,b,h,f=>by
  obtain⟨m,B,o⟩:=By (l:=l) (a:=a) (b:=b) h.tail f;have g:=h.run r (by simp);have e:Xj (r::l) a b=Kg a b r++Xj l a b:=by simp[Xj]
  rw[e];refine⟨⟨λx d=>?_,CH.2 ⟨K2 f,m.gap,λx d y A=>?_⟩⟩,λn=>?_,λk j x d=>?_⟩
  ·rcases CG.1 d with d|d
   ·have:=Lk g.1 d;omega
   ·exact m.run x d
  ·have w:=Lk g.1 d;have C:=o (r.2+2) (λz i=>by have:=h.head z i;omega) y A;omega
  ·rw[Er,Zf,B,K3 n f];constructor
   ·rintro(⟨p,q⟩|⟨p,q⟩)
    ·exact⟨.inl p,q⟩
    ·exact⟨.inr p,q⟩
   ·rintro⟨p|p,q⟩
    ·exact .inl ⟨p,q⟩
    ·exact .inr ⟨p,q⟩
  ·rcases CG.1 d with d|d
   ·have w:=Lk g.1 d;have:=j r (by simp);omega
   ·exact o k (λz i=>j z (by simp[i])) x d
theorem TV(h:Uk l)(n:Nat):Uk (Ua l n)/\∀m,Ux (Ua l n) m↔Ux l m/\n<=m:=by
 unfold Ua;by_cases d:n=0
 ·rw[if_pos d];exact⟨h,λm=>⟨λa=>⟨a,by omega⟩,λa=>a.1⟩⟩
 ·rw[if_neg d];obtain⟨f,g,_⟩:=By (a:=0) (b:=n-1) h (by omega);refine⟨f,λm=>?_⟩;rw[g];constructor
  ·rintro⟨a,b⟩;exact⟨a,by omega⟩
  ·rintro⟨a,b⟩;exact⟨a,by omega⟩
theorem Hh:∀{l:List Xc} {n:Nat},Uk l->∀r,l[Yr l n]?=AF r->n<=r.2/\(∀m,n<=m->Ux l m->r.1<=m)
 | [],n,_,r,h=>by simp at h
 | s::l,n,h,r,d=>by
  rw[Fb]at d
  by_cases f:n<=s.2
  ·rw[if_pos f]at d
   simp at d
   subst d
   refine⟨f,λm i g=>?_⟩
   rcases(Zf _ _ _).1 g with a|a
   ·exact a.1
   ·have:=h.above a;have:=(h.run s (by simp)).1;omega
  ·rw[if_neg f]at d
   simp at d
   obtain⟨j,k⟩:=Hh h.tail r d
   refine⟨j,λm i g=>?_⟩
   rcases(Zf _ _ _).1 g with a|a
   ·omega
   ·exact k m i a
theorem Fa:∀{l:List Xc} {n:Nat},l[Yr l n]?=AI->∀m,n<=m->¬Ux l m
 | [],n,_,m,_,f=>Ux.nil _ f
 | s::l,n,d,m,h,f=>by
  rw[Fb]at d
  by_cases g:n<=s.2
  ·rw[if_pos g]at d
   simp at d
  ·rw[if_neg g]at d
   rcases(Zf _ _ _).1 f with a|a
   ·omega
   ·exact Fa (l:=l) (n:=n) (by simpa using d) m h a
theorem Ul(h:l[Yr l n]?=AF r):r∈l:=List.mem_of_getElem? h
theorem TR(h:Uk l)(n:Nat):Ux l n↔∃r,l[Yr l n]?=AF r/\r.1<=n:=by
 constructor
 ·intro d;cases e:l[Yr l n]? with
  | none=>exact(Fa e n (BE _) d).elim
  | some r=>exact⟨r,rfl,(Hh h r e).2 n (BE _) d⟩
 ·rintro⟨r,e,f⟩;exact⟨r,Ul e,f,(Hh h r e).1⟩
theorem Uk.top(h:Uk l)(g:r∈l)(p:n=r.2+1):¬Ux l n:=by
 rintro⟨s,k,m,o⟩;obtain⟨i,hi,rfl⟩:=DG g;obtain⟨j,f,rfl⟩:=DG k;rcases DF i j with d|d|d
 ·have:=DH.1 h.gap i j hi f d;omega
 ·subst d;omega
 ·have:=DH.1 h.gap j i f hi d;have:=h.run _ g;omega
theorem GV(h:Uk l)(d:Z8 l n=AF m):n<=m/\¬Ux l m/\∀k,n<=k->k<m->Ux l k:=by
 unfold Z8 at d
 split at d
 ·rename_i e;simp at d;subst d;exact⟨BE _,Fa e n (BE _),λk i f=>by omega⟩
 ·rename_i r e;obtain⟨i,f⟩:=Hh h r e
  split at d
  ·rename_i g;simp at d;subst d;exact⟨BE _,λj=>by have:=f n (BE _) j;omega,λk i f=>by omega⟩
  ·rename_i g
   split at d
   ·simp at d
   ·simp at d;subst d;exact⟨by omega,h.top (Ul e) rfl,λk p o=>⟨r,Ul e,by omega,by omega⟩⟩
theorem Q5(d:∀r∈l,r.2<18446744073709551615):∃m,Z8 l n=AF m:=by
 unfold Z8
 split
 ·exact⟨n,rfl⟩
 ·rename_i r e
  split
  ·exact⟨n,rfl⟩
  ·rw[if_neg (by have:=d r (Ul e);omega)];exact⟨_,rfl⟩
end
section
def Z9 (l:List Xc)(n:Nat):Bool:=match l[Yr l n]? with
 | none=>false
 | some r=>decide (r.1<=n)
theorem TH(h:Uk l)(n:Nat):Z9 l n=true↔Ux l n:=by
 rw[TR h];unfold Z9
 split
 ·rename_i e;simp[e]
 ·rename_i r e;simp[e]
structure Xn where
 low:Nat
 width:Nat
 set:List Xc
deriving DecidableEq
def Xn.Had (w:Xn)(n:Nat):Prop:=n<=w.low\/Ux w.set n
def Xn.had (w:Xn)(n:Nat):Bool:=decide (n<=w.low) || Z9 w.set n
def Xn.takes (w:Xn)(n:Nat):Bool:=!w.had n&&decide (n<=w.low+w.width)
def Xn.lowC (w:Xn):Nat:=match Z8 w.set (w.low+1)with
 | none=>w.low
 | some n=>n-1
def Xn.closed (w:Xn):Xn:=⟨w.lowC,w.width,Ua w.set (w.lowC+1)⟩
def Xn.put (w:Xn)(n:Nat):Xn:=if w.takes n=true then(⟨w.low,w.width,Yq w.set n n⟩:Xn).closed else w
def Xn.skip (w:Xn)(b:Nat):Xn:=if b<=w.low+1 then w else(⟨b-1,w.width,w.set⟩:Xn).closed
def Xn.new (width:Nat):Xn:=⟨0,width,[]⟩
structure Xn.Ok (w:Xn):Prop where
 set:Uk w.set
 low:w.low<4611686018427387904
 width:1<=w.width/\w.width<=1024
 above:∀n,Ux w.set n->w.low+1<n/\n<=w.low+w.width/\n<4611686018427387904
theorem Xn.Ok.new{width:Nat}(h:1<=width/\width<=1024):(Xn.new width).Ok:=⟨Uk.nil,(by show(0:Nat)<_;decide),h,λn d=>(Ux.nil _ d).elim⟩
theorem Xn.Ok.had{w:Xn}(h:w.Ok)(n:Nat):w.had n=true↔w.Had n:=by unfold Xn.had Xn.Had;rw[Bool.or_eq_true,decide_eq_true_eq,TH h.set]
theorem Xn.Ok.takes{w:Xn}(h:w.Ok)(n:Nat):w.takes n=true↔¬w.Had n/\n<=w.low+w.width:=by unfold Xn.takes;rw[Bool.and_eq_true,decide_eq_true_eq,<- h.had];cases w.had n<;>simp
theorem Uk.last(h:Uk l)(d:r∈l):Ux l r.2:=⟨r,d,(h.run r d).1,BE _⟩
theorem Uk.first(h:Uk l)(d:r∈l):Ux l r.1:=⟨r,d,BE _,(h.run r d).1⟩
theorem Gw{w:Xn}(h:Uk w.set)(p:∀r∈w.set,r.2<18446744073709551615) :
  Uk w.closed.set/\(∀n,w.closed.Had n↔w.Had n)/\(∀n,Ux w.closed.set n->w.closed.low+1<n/\Ux w.set n)/\w.low<=w.closed.low/\(w.closed.low=w.low\/Ux w.set w.closed.low):=by
 obtain⟨m,i⟩:=Q5 (n:=w.low+1) p;obtain⟨B,o,g⟩:=GV h i;have e:w.lowC=m-1:=by unfold Xn.lowC;rw[i]
 have j:m-1+1=m:=by omega
 obtain⟨k,f⟩:=TV h m;unfold Xn.closed Xn.Had;rw[e,j];simp only;refine⟨k,λn=>?_,λn A=>?_,by omega,?_⟩
 ·rw[f];constructor
  ·rintro(a|a)
   ·by_cases d:n<=w.low
    ·exact .inl d
    ·exact .inr (g n (by omega) (by omega))
   ·exact .inr a.1
  ·rintro(a|a)
   ·exact .inl (by omega)
   ·by_cases d:n<=m-1
    ·exact .inl d
    ·exact .inr ⟨a,by omega⟩
 ·obtain⟨a,b⟩:=(f n).1 A;refine⟨?_,a⟩;rcases Nat.lt_or_ge m n with z|q
  ·omega
  ·have:n=m:=by omega
   subst this;exact(o a).elim
 ·by_cases d:m-1=w.low
  ·exact .inl d
  ·exact .inr (g (m-1) (by omega) (by omega))
theorem Xn.Ok.skip{w:Xn}(h:w.Ok)(q:b<=4611686018427387904):(w.skip b).Ok/\(w.skip b).width=w.width/\w.low<=(w.skip b).low/\∀n,(w.skip b).Had n↔w.Had n\/n<b:=by
 unfold Xn.skip;by_cases i:b<=w.low+1
 ·rw[if_pos i];exact⟨h,rfl,BE _,λn=>⟨.inl,λa=>a.elim id (λ(c:n<b)=>.inl (by omega))⟩⟩
 ·rw[if_neg i];have p:=h.width;have z:=h.low;obtain⟨k,g,f,m,d⟩:=Gw (w:=⟨b-1,w.width,w.set⟩) h.set (λr o=>by have:=(h.above _ (h.set.last o)).2;omega);simp only at g f m d;refine⟨⟨k,?_,p,λn j=>⟨(f n j).1,?_⟩⟩,rfl,by omega,λn=>?_⟩
  ·rcases d with d|d
   ·rw[d];omega
   ·exact(h.above _ d).2.2
  ·have:=(h.above n (f n j).2).2;have e:(⟨b-1,w.width,w.set⟩:Xn).closed.width=w.width:=rfl;omega
  ·rw[g];unfold Xn.Had;simp only;constructor
   ·rintro(a|a)
    ·exact .inr (by omega)
    ·exact .inl (.inr a)
   ·rintro((a|a)|a)
    ·exact .inl (by omega)
    ·exact .inr a
    ·exact .inl (by omega)
theorem Xn.Ok.put{w:Xn}(h:w.Ok)(E:n<4611686018427387904):(w.put n).Ok/\(w.put n).width=w.width/\w.low<=(w.put n).low/\∀m,(w.put n).Had m↔w.Had m\/(w.takes n=true/\m=n):=by
 unfold Xn.put;by_cases i:w.takes n=true
 ·rw[if_pos i];obtain⟨t1,H⟩:=(h.takes n).1 i;have G:=h.width;have D:=h.low;have p:w.low<n:=Nat.lt_of_not_le (λC=>t1 (.inl C));obtain⟨s1,A⟩:=Oc (f:=n) (t:=n) h.set (by omega);have d:∀k,Ux (Yq w.set n n) k->w.low<k/\k<=w.low+w.width/\k<4611686018427387904:=λk j=>by
   rcases(A k).1 j with a|a
   ·have:=h.above k a;omega
   ·have:k=n:=by omega
    subst this;exact⟨p,H,E⟩
  obtain⟨B,q,o,z,g⟩:=Gw (w:=⟨w.low,w.width,Yq w.set n n⟩) s1 (λr F=>by have:=(d _ (s1.last F)).2;omega);simp only at q o z g;refine⟨⟨B,?_,G,λk j=>⟨(o k j).1,?_⟩⟩,rfl,z,λm=>?_⟩
  ·rcases g with g|g
   ·rw[g];exact D
   ·exact(d _ g).2.2
  ·have:=d k (o k j).2;have e:(⟨w.low,w.width,Yq w.set n n⟩:Xn).closed.width=w.width:=rfl;omega
  ·rw[q];unfold Xn.Had;simp only[A];constructor
   ·rintro(a|a|a)
    ·exact .inl (.inl a)
    ·exact .inl (.inr a)
    ·exact .inr ⟨i,by omega⟩
   ·rintro((a|a)|⟨_,a⟩)
    ·exact .inl a
    ·exact .inr (.inl a)
    ·exact .inr (.inr (by omega))
 ·rw[if_neg i];exact⟨h,rfl,BE _,λm=>⟨.inl,λa=>a.elim id (λc=>(i c.1).elim)⟩⟩
end
section
open Go Go.RowKit
theorem Vc(w:AC)(m:Nat)(f:m<256):Kr (w.alloc (.cells #[.int .u8 m] 5)) w.heap.size (.slice (AF ⟨w.heap.size,0,AI⟩) 1 1) [D7 m]:=by
 have d:(((D7 m).toNat:Nat):Int)=(m:Int):=by simp;omega
 exact⟨rfl,.inr ⟨w.heap.size,1,_,rfl,BE _,Qy _ _,BE _,by decide,rfl,by
   show[DA .u8 (m:Int)]=[u8v (D7 m)];unfold u8v
   rw[d]⟩⟩
theorem Jo:∀(k n:Nat),n<128^(k+1)->n<18446744073709551616->∀w:AC,Calls Tryz.prog 98 #[.int .u64 n] w λe K=>∃v,e=.returned v/\Kr K w.heap.size v (numB n)/\Xy No w K:=by
 intro k
 induction k with
 | zero =>
  intro n f m w;have f:n<128:=by simpa using f
  have F:(n:Int)<128:=by omega
  have g:=Vc w n (by omega);have i:=(Xy.refl No w).alloc (.cells #[.int .u8 n] 5);have G:IntKind.u8.wrap (n:Int)=(n:Int):=by rw[DI];omega
  rw[Yb f];have d:=BX (A2 g i);clear f g i;go_enter Tryz.func98,Tryz.ntmps98;go_wp2_with fail;go_ret;exact⟨_,rfl,d.out.1,d.out.2⟩
 | succ k D =>
  intro n f m w;by_cases h:n<128
  ·have F:(n:Int)<128:=by omega
   have g:=Vc w n (by omega);have i:=(Xy.refl No w).alloc (.cells #[.int .u8 n] 5);have G:IntKind.u8.wrap (n:Int)=(n:Int):=by rw[DI];omega
   rw[Yb h];have d:=BX (A2 g i);clear f g i h D;go_enter Tryz.func98,Tryz.ntmps98;go_wp2_with fail;go_ret;exact⟨_,rfl,d.out.1,d.out.2⟩
  ·have F:¬(n:Int)<128:=by omega
   have B:n/128<128^(k+1):=by rw[D8 (by decide)];rw[D9]at f;exact f
   have o:=D (n/128) B (by omega);rw[Rv (by omega)];have p:=Pj k (n/128) B;have g:=Vc w (n%128+128) (by omega);have E:((n%128+128:Nat):Int)=(n:Int)%128+128:=by omega
   rw[E]at g;have i:=(Xy.refl No w).alloc (.cells #[.int .u8 ((n:Int)%128+128)] 5);have M:IntKind.u64.wrap ((n:Int)/128)=(n:Int)/128:=by rw[IntKind.wrap_u64];omega
   have H:(numB (n/128)).length<=100:=Nat.le_trans (Qp (by omega)) (by decide);have j:=o (w.alloc (.cells #[.int .u8 ((n:Int)%128+128)] 5));have d:=BX (A3 g i H);clear f g i h o E B p H m D;go_enter Tryz.func98,Tryz.ntmps98;go_wp2_with fail;refine j.mono ?_;rintro e P⟨N,rfl,z,I⟩;have q:=d.out.1.keep I (λ_ _ e=>e);have J:=d.out.2.1.then I;have C:=z.bytes (bn:=Xl) (base:=0) (λ_=>BW _);go_wp2_with(at_builtin;refine Zq (bn:=Xl) rfl _ _ rfl w.heap.size q C rfl rfl (by have:=d.out.2.2;simp;omega) J.size ?_;intro O Q A L);go_ret;exact⟨_,rfl,A,J.trans L (λc G e=>by have:=(q.lt c e).1;omega)⟩
end
end Go.Proofs.YtfdmbomlkpkegaaGreat
