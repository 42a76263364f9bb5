/- Lemmas. -/
import Derived.Test.YtfdmbomlkpkegaaGreatS36
set_option maxRecDepth 100000
set_option maxHeartbeats 8000000
set_option linter.all false
set_option autoImplicit true
set_option relaxedAutoImplicit true
open Go renaming Calls->DJ,Value->AM,World->AC,undef->LW,wpList->AX,yielded->AW
open Go.Act renaming put->AQ
open Go.Instr renaming findNow->C3,lookup->C7
open Go.IntKind renaming wrap_u64->F0
open Go.Lib renaming hid->BX
open Go.MapKept renaming run_checkKey->CA,run_findKey->CB,run_getObj_map->C9
open Go.Region renaming wanted->AV
open Go.Result renaming andThen->BS
open Go.RowKit renaming intOf->C0
open Go.Value renaming slice->DN
open List renaming countP_le_length->WE,eq_nil_of_length_eq_zero->BJ,getElem?_eq_getElem->BY,getElem?_eq_some_iff->BK,length_append->BO,mem_append->CG,mem_of_getElem?->FB,mem_singleton->AZ,take_length->BZ,take_succ_eq_append_getElem->BM
open Nat renaming le_refl->BE,le_trans->BF,zero_le->BW
open Option renaming none->AI,some->AF
namespace Go.Proofs.YtfdmbomlkpkegaaGreat
open Go Go.RowKit Go.Dr Go.Shelf
theorem Ar{r f g:Nat}(k:Nat)(d:w.heap[r]?=AF (.map #[Sd 1 f 0,Sd 3 g 1] 2)):(C7 195 (.map (AF r)) (.int .u8 k) true).run Tryz.prog w=.ok (if k=1 then .tuple #[.func (.func f) #[] #[],.bool true]else if k=3 then .tuple #[.func (.func g) #[] #[],.bool true]else .tuple #[.nilFunc,.bool false]) w:=by
 by_cases h:k=1
 ·subst h;exact En d
 ·rw[if_neg h];by_cases i:k=3
  ·subst i;simp[C7,run_underlying Tryz.underlying195,C9 d,CA Tryz.underlying5 (Ng 3),CB Tryz.underlying5 (show C3 (.int .u8) (.int .u8 3) [Sd 1 f 0,Sd 3 g 1] 0=AF (AF (1,.func (.func g) #[] #[]))from rfl),BS]
  ·rw[if_neg i];have z:C3 (.int .u8) (.int .u8 k) [Sd 1 f 0,Sd 3 g 1] 0=AF AI:=by
    have A:¬(k:Int)=1:=by omega
    have B:¬(k:Int)=3:=by omega
    have m:((k:Int)==1)=false:=by simp;omega
    have n:((k:Int)==3)=false:=by simp;omega
    simp only[C3,Instr.sameNow,Sd,m,n,if_true]
   simp[C7,run_underlying Tryz.underlying195,C9 d,CA Tryz.underlying5 (Ng k),CB Tryz.underlying5 z,BS]
theorem Pr{R g:Nat}(f:Vy)(L E:Option Addr)(K rc k D:Nat)(Q:(f.kind=1/\g=85)\/(f.kind=3/\g=86))(i:∀X,Xy No w X->DJ Tryz.prog 46 #[.agg (f.cells (.slice L K rc) (.slice E k D))] X λz w'=>z=.returned (.bool true)/\Xy No X w'){Post:AC->Prop}(d:∀X,Xy No w X->DJ Tryz.prog g #[.pointer (AF ⟨R,0,AI⟩),.agg (f.cells (.slice L K rc) (.slice E k D))] X λz w'=>z=.returned (.bool J)/\Post w') :
  DJ Tryz.prog 31 #[.pointer (AF ⟨R,0,AI⟩),.agg (f.cells (.slice L K rc) (.slice E k D))] w λz w'=>z=.returned (.bool J)/\Post w':=by
 have eg:∀args w,(callFunc g args).run Tryz.prog w=.ok (.enter g args) w:=by
  rcases Q with⟨_,rfl⟩|⟨_,rfl⟩
  ·exact enters_of Tryz.func85 (by kernel_rfl) rfl
  ·exact enters_of Tryz.func86 (by kernel_rfl) rfl
 have aD:=@run_makeMap Tryz.prog;obtain⟨W,A⟩:∃W,W=w.alloc (.cells (f.cells (.slice L K rc) (.slice E k D)) 69):=⟨_,rfl⟩;have U:Xy No w W:=by rw[A];exact(Xy.refl _ _).alloc _
 have P:W.heap[w.heap.size]?=AF (.cells (f.cells (.slice L K rc) (.slice E k D)) 69 (0,0)):=by rw[A];exact Qy _ _
 obtain⟨Z,c1,c2,c3,c4,c5,c6,c7,c8⟩:=Si f P;have i:=i W U;have M:=BX (A4 U P d Q);clear P U d Q;unfold Vy.cells at A i⊢;go_enter Tryz.func31,Tryz.ntmps31;go_upto_region 1 with fail;rw[<- A];clear A;go_upto_region 3 with(go_at_call 46;refine i.mono ?_;rintro z O ⟨rfl,T⟩);obtain⟨W2,aB,B,H⟩:=Wn O 85;obtain⟨N,aC,C,I⟩:=Wm (g:=86) B;have m:=Ar f.kind C;have n:Xy No O N:=H.absorb I (λb e=>by have e:b=O.heap.size:=e;omega);obtain⟨Z,c1,c2,c3,c4,c5,c6,c7,c8⟩:=Si f ((T.then n).heap M.out.2.1 id);have G:=(M.out.1.then T).then n;have aA:(C7 195 (.map (AF O.heap.size)) (.int .u8 f.kind) true).run Tryz.prog N=.ok (.tuple #[.func (.func g) #[] #[],.bool true]) N:=by rw[m];rcases M.out.2.2.2 with⟨h,rfl⟩|⟨h,rfl⟩<;>simp[h]
 have d:=M.out.qc N G;unfold Vy.cells at d;clear m B C H I n G T i;go_wp2_with(with_reducible refine d.mono ?_;rintro z w4 ⟨rfl,V⟩;have Y:=BX V;clear V);go_ret;exact⟨by simp,Y.out⟩
theorem X1(R:Nat)(f:Vy)(H E:Option Addr)(G rc h D:Nat)(hr:r=true->f.kind≠1/\f.kind≠3)(d:∀X,Xy No w X->DJ Tryz.prog 46 #[.agg (f.cells (.slice H G rc) (.slice E h D))] X λz w'=>z=.returned (.bool r)/\Xy No X w') :
  DJ Tryz.prog 31 #[.pointer (AF ⟨R,0,AI⟩),.agg (f.cells (.slice H G rc) (.slice E h D))] w λz w'=>z=.returned (.bool false)/\Xy No w w':=by
 have aC:=@run_makeMap Tryz.prog;obtain⟨W,k⟩:∃W,W=w.alloc (.cells (f.cells (.slice H G rc) (.slice E h D)) 69):=⟨_,rfl⟩;have M:Xy No w W:=by rw[k];exact(Xy.refl _ _).alloc _
 have K:W.heap[w.heap.size]?=AF (.cells (f.cells (.slice H G rc) (.slice E h D)) 69 (0,0)):=by rw[k];exact Qy _ _
 obtain⟨P,Q,T,U,V,Y,Z,c7,c8⟩:=Si f K;have d:=d W M;have J:=BX (A2 M K);clear K M;unfold Vy.cells at k d⊢;go_enter Tryz.func31,Tryz.ntmps31;go_upto_region 1 with fail;rw[<- k];clear k;cases r with
 | false =>
  go_wp2_with(go_at_call 46;refine d.mono ?_;rintro z I ⟨rfl,A⟩);go_ret;exact⟨rfl,J.out.1.then A⟩
 | true =>
  obtain⟨h1,h3⟩:=hr rfl;go_upto_region 3 with(go_at_call 46;refine d.mono ?_;rintro z I ⟨rfl,A⟩);obtain⟨W2,aA,m,B⟩:=Wn I 85;obtain⟨O,aB,n,C⟩:=Wm (g:=86) m;have L:=Ar f.kind n;rw[if_neg h1,if_neg h3]at L;have i:Xy No I O:=B.absorb C (λb e=>by have e:b=I.heap.size:=e;omega);obtain⟨P,Q,T,U,V,Y,Z,c7,c8⟩:=Si f ((A.then i).heap J.out.2 id);have N:=BX ((J.out.1.then A).then i);clear m n B C i A d;go_wp2_with fail;go_ret;exact⟨rfl,N.out⟩
section
variable [bn:Ib]{base:Nat}{w w':AC}{R q p width j:Nat}{size:Int}{o o':List Nat}{S S':S16}{F:Nat->Prop}
theorem Og(H:Ui base w q p width size S F)(D:Su base w R q o)(ok:Ue width j S)(U:j+2<=450)(f:Vy)(P:Sa w v f.runs)(K:f.runs.length<=1048576)(J:∀r∈f.runs,r.1<18446744073709551616)(g:Xr base w B0 iv f.items)(I:f.items.length<=8)(A:∀x∈f.items,x.s.body.length<=40)(C:Ny width j size S o f n S' o')(i:base<=w.heap.size)(N:ban.top<=w.heap.size) :
  DJ Tryz.prog 31 #[.pointer (AF ⟨R,0,AI⟩),.agg (f.cells v iv)] w λz w'=>z=.returned (.bool n)/\So base w R q p width size S' o' F w':=by
 have m:=λ(r:Bool) (D:r=true↔GM f) (X:AC) (k:Xy No w X)=>Eg f (P.no k) K J (g.no k) (by omega) (λx V=>by have:=A x V;omega) D;obtain⟨Z,rc,rfl,_,_⟩:=P.form;obtain⟨Y,W,rfl,_,_⟩:=g.form;rcases C with⟨d,T,rfl,rfl,rfl⟩|⟨a,B,O,⟨d,C,rfl⟩|⟨d,C,rfl⟩⟩
 ·obtain⟨r,E⟩:∃r:Bool,r=true↔GM f:=by
   by_cases h:GM f
   ·exact⟨true,by simp[h]⟩
   ·exact⟨false,by simp[h]⟩
  refine(X1 R f _ _ _ _ _ _ (r:=r) (λh=>?_) (m r E)).mono (λz Q ⟨e,k⟩=>⟨e,F,H.no k,D.no k,k.no,λb i=>.inl i⟩);obtain⟨L,M⟩:=E.1 h;exact⟨λG=>d ⟨G,L,by
   rcases M with⟨_,h⟩|⟨h,_⟩|⟨h,_⟩
   ·exact h
   ·omega
   ·omega⟩,λG=>T ⟨G,L,by
   rcases M with⟨h,_⟩|⟨_,h⟩|⟨h,_⟩
   ·omega
   ·exact h
   ·omega⟩⟩
 ·refine Pr (Post:=So base w R q p width size S' (if n then o.set a 2 else o) F) f _ _ _ _ _ _ (.inl ⟨d.1,rfl⟩) (λX k=>m true (by simp;exact⟨d.2.1,.inl ⟨d.1,d.2.2⟩⟩) X k) (λX k=>?_);exact(Ph (H.no k) (D.no k) ok U f _ _ a B O C (BF i k.size) (BF N k.size)).mono (λz Q ⟨e,h⟩=>⟨e,So.then k.no (λb i=>.inl i) h⟩)
 ·refine Pr (Post:=So base w R q p width size S' _ F) f _ _ _ _ _ _ (.inr ⟨d.1,rfl⟩) (λX k=>m true (by simp;exact⟨d.2.1,.inr (.inl ⟨d.1,d.2.2⟩)⟩) X k) (λX k=>?_);exact(XI (H.no k) (D.no k) ok (by omega) f _ _ _ _ _ a B O (g.no k) I A C (BF i k.size) (BF N k.size)).mono (λz Q ⟨e,h⟩=>⟨e,So.then k.no (λb i=>.inl i) h⟩)
end
def Gq (w:AC)(B:Nat)(v:AM)(l:List Xc):Prop:=w.ownsRow B 204 2 v l.length (Yd l)
theorem Gq.nil(w:AC)(B:Nat):Gq w B (.slice AI 0 0) []:=World.ownsRow_nil _ _ _ _
theorem Gq.form(h:Gq w B v l):∃ao cap,v=.slice ao l.length cap/\l.length<=cap/\cap<=maxLen:=Kj h
theorem Gq.keep(h:Gq w B v l)(k:Xy F w w')(hF:∀b,v.ownBlock=AF b->¬F b):Gq w' B v l:=Yu h k hF
theorem Gq.no(h:Gq w B v l)(k:Xy No w w'):Gq w' B v l:=h.keep k (λ_ _ e=>e)
theorem Gq.kind(h:Gq w B v l):∀b,v.ownBlock=AF b->B<=b/\∃d,w.heap[b]?=AF (.cells d 204 (0,0)):=Qa h
theorem Gq.mono(h:Gq w B v l)(i:B'<=B):Gq w B' v l :=
 ⟨h.1,h.2.imp id (λ⟨g,cap,d,e,f,r⟩=>⟨g,cap,d,e,BF i f,r⟩)⟩
theorem Gq.row(h:Gq w B (.slice ao n cap) l)(D:l≠[]):∃g,ao=AF ⟨g,0,AI⟩/\∀(i:Nat) r,l[i]?=AF r->w.cell? ⟨g,i*2,AI⟩=AF (.int .u64 r.1)/\w.cell? ⟨g,i*2+1,AI⟩=AF (.int .u64 r.2):=by
 rcases h.2 with⟨e,A⟩|⟨g,k,z,e,J,m,G,H,I,C⟩
 ·exact absurd (BJ A) D
 ·simp only[Value.slice.injEq]at e;refine⟨g,e.1,λi r hi=>?_⟩;have E:=(BK.1 hi).1;obtain⟨d,f⟩:=Mw hi;rw[<- C,List.getElem?_take]at d f;rw[if_pos (by omega)]at d f;rw[Qq m,Qq m];exact⟨by simpa using d,by simpa using f⟩
theorem MC:(Tryz.prog.info? 204).map (λi=>(i.zero,i.size,i.bytes))=AF (AF (.agg #[.int .u64 0,.int .u64 0]),2,16):=by kernel_rfl
theorem Mx(M:o.guard=AI)(s x:Operand)(O:o.op=.call {callee:=.builtin .append,args:=#[s,x],argTypes:=#[103,103]})(h:Gq w B v l)(P:a.eval s=v)(I:w.heap[D]?=AF (.cells #[.int .u64 y.1,.int .u64 y.2] 204 (0,0)))(T:a.eval x=.slice (AF ⟨D,0,AI⟩) 1 1)(V:l.length<=1099511627776)(i:B<=w.heap.size)(J:∀H G w',Gq w' B (.slice H (l.length+1) G) (l++[y])->Xy (λb=>v.ownBlock=AF b) w w'->AX Tryz.prog f Q rest (a.put o.dst (.slice H (l.length+1) G)) w'):AX Tryz.prog f Q (o::rest) a w:=by
 obtain⟨U,n,z,A,C⟩:=info_parts MC;refine wpList_plain M λK k=>?_;refine wp_append_lies w s x 103 O B 204 U _ 2 16 Tryz.underlying103 n z A C rfl (by decide) v l.length _ P h
  ⟨D,0,AI⟩ 1 1 (Ta y) T (by simp[Ta]) (World.news_of_block I) (λq E=>by
   simp[Ta]at E
   rcases E with rfl|rfl<;>rfl) (by omega) (by unfold maxLen;omega) (by omega) i w.heap.size rfl ?_
 intro g cap w' d m L N;refine k _ _ (J _ _ _ ?_ (Jr m));unfold Gq;rw[Nm,BO];simpa[Yd]using d
theorem Ea(N:Gq w B u l)(O:Gq w B' v m)(hl:l.length<=1099511627776)(hm:m.length<=1099511627776) :
  DJ Tryz.prog 135 #[u,v] w λz w'=>z=.returned (.bool (decide (l=m)))/\Xy No w w':=by
 obtain⟨uo,uc,rfl,_,_⟩:=N.form;obtain⟨vo,vc,rfl,_,_⟩:=O.form;by_cases A:l.length=m.length;rotate_left
 ·have i0:¬(l.length:Int)=(m.length:Int):=by omega
  have e0:decide (l=m)=false:=decide_eq_false (λe=>A (by rw[e]));rw[e0];clear N O;go_enter Tryz.func135,Tryz.ntmps135;go_wp2_with fail;go_ret;exact⟨rfl,Xy.refl _ _⟩
 have aB:(l.length:Int)<=1099511627776:=by omega
 have i0:(l.length:Int)=(m.length:Int):=by omega
 obtain⟨T,D⟩:∃T,T=decide (l=m):=⟨_,rfl⟩;rw[<- D];have n:=BX (A4 N O A D);clear N O A D hl hm;go_enter Tryz.func135,Tryz.ntmps135;go_upto_block 0 with fail;go_wp2_with fail;go_loopw [13] (λE wr=>∃k,E=.int .i64 (k:Nat)/\k<=l.length/\l.take k=m.take k/\Xy No w wr) (λE _=>l.length-(C0 E).toNat);case atStart=>exact⟨0,rfl,BW _,rfl,Xy.refl _ _⟩
 case round =>
  obtain⟨k,rfl,hk,d,G⟩:=hrel;by_cases f:k<l.length
  ·have C:l≠[]:=by intro e;rw[e]at f;simp at f
   have K:m≠[]:=by intro e;have:=n.out.qc;rw[e]at this;exact C (BJ this)
   obtain⟨gu,V,L⟩:=(n.out.1.no G).row C;obtain⟨gv,W,M⟩:=(n.out.2.1.no G).row K;subst V W;have P:l[k]?=AF l[k]:=BY f;have J:k<m.length:=by have:=n.out.qc;omega
   have Q:m[k]?=AF m[k]:=BY J;have tl:l.take (k+1)=l.take k++[l[k]]:=BM f;have Y:m.take (k+1)=m.take k++[m[k]]:=BM J;generalize l[k]=x at P tl;generalize m[k]=y at Q Y;obtain⟨a0,a1⟩:=L k x P;obtain⟨b0,b1⟩:=M k y Q;have X:(k:Int)<(l.length:Int):=by omega
   have aA:(k:Int)<(m.length:Int):=by omega
   have g:=BX (A7 G d f tl Y P Q);clear L M C K P Q tl Y G d hk;have kd:Xy No wr wr.drew:=(Xy.refl _ _).drew;have Z:=BX (g.out.1.then kd);go_upto_region 6 with fail;refine Vr (λw'=>Xy No wr w') [([0,1,2,3,4,5,6,7,8],[])] (by kernel_rfl) (by kernel_rfl) (λ_ _ _ _ _ h=>h) kd ?_;iterate 8(refine Qk (v:=?_) rfl rfl rfl ?_ ?_;rotate_left;focus(
    intro w' H;have g0:=H.cell a0 id;have g1:=H.cell a1 id;have g2:=H.cell b0 id;have g3:=H.cell b1 id;go_simp
    try with_reducible rfl))
   refine Qk (v:=.bool (!(decide (x.1=y.1)&&decide (x.2=y.2)))) rfl rfl rfl (λw' H=>?_) ?_
   ·go_simp;have i1:((x.1:Int)=(y.1:Int))=(x.1=y.1):=propext (by omega);have i2:((x.2:Int)=(y.2:Int))=(x.2=y.2):=propext (by omega);by_cases e1:x.1=y.1<;>by_cases e2:x.2=y.2<;>simp[i1,i2,e1,e2]
   refine Qj (Qh ?_);unfold Vp;by_cases i:x=y
   ·have U:(!(decide (x.1=y.1)&&decide (x.2=y.2)))=false:=by simp[i]
    rw[U];show AX _ _ _ [] _ _;go_simp;go_wp2_with fail;go_roundw;case rel=>exact⟨k+1,by go_num,g.out.qc,by rw[g.out.qd,g.out.qe,g.out.2.1,i],Z.out⟩
    case measure=>have:=g.out.qc;simp[C0];omega
   ·have U:(!(decide (x.1=y.1)&&decide (x.2=y.2)))=true:=by simp;exact Decidable.not_and_iff_not_or_not.1 (λ⟨a,b⟩=>i (Prod.ext a b))
    rw[U];obtain rfl:T=false:=n.out.2.2.2.trans (decide_eq_false (λe=>i (by
     have h1:=g.out.qf;have h2:=g.out.rg;rw[e,h2]at h1
     exact(Option.some.inj h1).symm)))
    show AX _ _ _ [] _ _;go_simp;go_wp2_with fail;go_ret;exact⟨rfl,Z.out⟩
  ·have I:k=l.length:=by omega
   have X:¬(k:Int)<(l.length:Int):=by omega
   obtain rfl:T=true:=n.out.2.2.2.trans (decide_eq_true (by
    have h:=d;rw[I,BZ,n.out.qc,BZ]at h
    exact h))
   have g:=BX G;clear G d hk f I;go_wp2_with fail;go_ret;exact⟨rfl,g.out⟩
def YT (l:List Xc)(k n:Nat)(b:Int):Prop :=
 (b=-1/\∀x∈l.take k,¬(x.1<=x.2/\n<=x.2))\/∃(j:Nat) (x:Xc),b=j/\j<k/\l[j]?=AF x/\x.1<=x.2/\n<=x.2/\∀y∈l.take k,y.1<=y.2->n<=y.2->x.1<=y.1
theorem Ni{l:List Xc}(f:l[k]?=AF x)(h:y∈l.take (k+1)):y∈l.take k\/y=x:=by obtain⟨d,e⟩:=BK.1 f;rw[BM d,CG,AZ,e]at h;exact h
theorem YT.skip(h:YT l k n b)(m:l[k]?=AF x)(f:¬(x.1<=x.2/\n<=x.2)\/∃(j:Nat) (y:Xc),b=j/\l[j]?=AF y/\y.1<=x.1):YT l (k+1) n b:=by
 rcases h with⟨rfl,h⟩|⟨j,y,rfl,G,i,B,C,D⟩
 ·refine .inl ⟨rfl,λz d=>?_⟩;rcases Ni m d with d|rfl
  ·exact h z d
  ·rcases f with f|⟨j,y,e,_⟩
   ·exact f
   ·omega
 ·refine .inr ⟨j,y,rfl,by omega,i,B,C,λz d a c=>?_⟩;rcases Ni m d with d|rfl
  ·exact D z d a c
  ·rcases f with f|⟨E,H,e,g,A⟩
   ·exact absurd ⟨a,c⟩ f
   ·obtain rfl:E=j:=by omega
    rw[i]at g;cases g;exact A
theorem YT.now(h:YT l k n b)(i:l[k]?=AF x)(B:x.1<=x.2)(C:n<=x.2)(g:b=-1\/∃(j:Nat) (y:Xc),b=j/\l[j]?=AF y/\x.1<y.1):YT l (k+1) n k:=by
 refine .inr ⟨k,x,rfl,by omega,i,B,C,λz d a c=>?_⟩;rcases Ni i d with d|rfl
 ·rcases h with⟨rfl,h⟩|⟨j,y,rfl,G,m,H,I,A⟩
  ·exact absurd ⟨a,c⟩ (h z d)
  ·rcases g with g|⟨D,J,e,f,E⟩
   ·omega
   ·obtain rfl:D=j:=by omega
    rw[m]at f;cases f;have:=A z d a c;omega
 ·exact BE _
theorem XW{B n:Nat}(h:Gq w B v l)(hl:l.length<=1099511627776) :
  DJ Tryz.prog 186 #[v,.int .u64 n] w λz w'=>∃b:Int,z=.returned (.int .i64 b)/\YT l l.length n b/\Xy No w w':=by
 obtain⟨vo,vc,rfl,_,_⟩:=h.form;have aC:(l.length:Int)<=1099511627776:=by omega
 have HH:=BX h;clear h hl;go_enter Tryz.func186,Tryz.ntmps186;go_upto_block 0 with fail;go_wp2_with fail;go_loopw [5,10] (λv5 J wr=>∃(k:Nat) (b:Int),J=.int .i64 k/\k<=l.length/\v5=.int .i64 b/\YT l k n b/\Xy No w wr) (λ_ J _=>l.length-(C0 J).toNat);case atStart=>exact⟨0,-1,rfl,BW _,rfl,.inl ⟨rfl,λx O=>by simp at O⟩,Xy.refl _ _⟩
 case round =>
  obtain⟨k,b,rfl,hk,rfl,i,P⟩:=hrel;by_cases D:k<l.length
  ·have N:l≠[]:=by intro e;rw[e]at D;simp at D
   obtain⟨g,hg,hr⟩:=(HH.out.no P).row N;subst hg;have O:l[k]?=AF l[k]:=BY D;generalize l[k]=x at O;obtain⟨a0,a1⟩:=hr k x O;have HC:=BX hr;clear hr;have Z:(k:Int)<(l.length:Int):=by omega
   go_upto_region 5 with fail;obtain⟨m,H⟩:∃m,m=wr.alloc (.cells #[.int .u64 x.1,.int .u64 x.2] 204):=⟨_,rfl⟩;have Y:m.heap[wr.heap.size]?=AF (.cells #[.int .u64 x.1,.int .u64 x.2] 204 (0,0)):=by rw[H];exact Qy _ _
   have kA:Xy No wr m:=by rw[H];exact(Xy.refl _ _).alloc _
   rw[<- H];clear H;have d0:m.cell? ⟨wr.heap.size,0,AI⟩=AF (.int .u64 x.1):=(Qq Y 0).trans rfl;have C:m.cell? ⟨wr.heap.size,1,AI⟩=AF (.int .u64 x.2):=(Qq Y 1).trans rfl;have kd:Xy No m m.drew:=(Xy.refl _ _).drew;have f:=BX (A5 i D O ((P.then kA).then kd) trivial);have I:=i;clear i hk a0 a1 N P Y;have HK:=BX kA;clear kA;by_cases Q:x.1<=x.2
   ·have U:(x.1:Int)<=(x.2:Int):=by omega
    by_cases X:n<=x.2
    ·have V:(n:Int)<=(x.2:Int):=by omega
     rcases I with⟨rfl,_⟩|⟨j,y,rfl,hj,T,_⟩
     ·clear Q X;have A:=BX (A2 U V);refine Vr (λw'=>Xy No m w') [([0,1,2,3,4,5,6,7,8,9,10,11,12,13,14,15,16,17,18,19,20,21,22,23,24],[])] (by kernel_rfl) (by kernel_rfl) (λ_ _ _ _ _ h=>h) kd ?_;iterate 6(refine Qk (v:=?_) rfl rfl rfl ?_ ?_;rotate_left;focus(
       intro w' d;have E:=d.cell d0 id;have G:=d.cell C id;go_simp
       try with_reducible rfl))
      iterate 4(refine Qe (v:=?_) rfl rfl (by first|kernel_rfl|simp[AV,AW,AQ,LW]) ?_ ?_;rotate_left;focus(
       intro w' d;have E:=d.cell d0 id;have G:=d.cell C id;go_simp
       try with_reducible rfl))
      iterate 2(refine Qk (v:=?_) rfl rfl rfl ?_ ?_;rotate_left;focus(
       intro w' d;go_simp
       try with_reducible rfl))
      iterate 3(refine Qe (v:=?_) rfl rfl (by first|kernel_rfl|simp[AV,AW,AQ,LW]) ?_ ?_;rotate_left;focus(
       intro w' d;go_simp
       try with_reducible rfl))
      iterate 8(refine Sh rfl rfl (by first|kernel_rfl|simp[AV,AW,AQ,LW]) ?_)
      iterate 1(refine Qe (v:=?_) rfl rfl (by first|kernel_rfl|simp[AV,AW,AQ,LW]) ?_ ?_;rotate_left;focus(
       intro w' d;go_simp
       try with_reducible rfl))
      iterate 1(refine Qk (v:=?_) rfl rfl rfl ?_ ?_;rotate_left;focus(
       intro w' d;go_simp
       try with_reducible rfl))
      refine Qj (Qh ?_);unfold Vp;show AX _ _ _ [] _ _;go_simp;go_wp2_with fail;go_roundw;case rel=>exact⟨k+1,k,by go_num,f.out.2.1,rfl,f.out.1.now f.out.qc (by have:=A.out;omega) (by have:=A.out;omega) (.inl rfl),f.out.qd⟩
      case measure=>have:=f.out.2.1;simp[C0];omega
     ·have aB:(j:Int)<(l.length:Int):=by have:=(BK.1 T).1;omega
      have aA:¬(j:Int)<0:=by omega
      have K:=HK.out.cell (HC.out j y T).1 id;have A:=BX (A3 U V T);clear Q X hj T;by_cases h3:x.1<y.1
      ·have i3:(x.1:Int)<(y.1:Int):=by omega
       clear h3;have W:=BX i3;refine Vr (λw'=>Xy No m w') [([0,1,2,3,4,5,6,7,8,9,10,11,12,13,14,15,16,17,18,19,20,21,22,23,24],[])] (by kernel_rfl) (by kernel_rfl) (λ_ _ _ _ _ h=>h) kd ?_;iterate 6(refine Qk (v:=?_) rfl rfl rfl ?_ ?_;rotate_left;focus(
        intro w' d;have E:=d.cell d0 id;have G:=d.cell C id;have L:=d.cell K id;go_simp
        try with_reducible rfl))
       iterate 4(refine Qe (v:=?_) rfl rfl (by first|kernel_rfl|simp[AV,AW,AQ,LW]) ?_ ?_;rotate_left;focus(
        intro w' d;have E:=d.cell d0 id;have G:=d.cell C id;have L:=d.cell K id;go_simp
        try with_reducible rfl))
       iterate 2(refine Qk (v:=?_) rfl rfl rfl ?_ ?_;rotate_left;focus(
        intro w' d;go_simp
        try with_reducible rfl))
       iterate 12(refine Qe (v:=?_) rfl rfl (by first|kernel_rfl|simp[AV,AW,AQ,LW]) ?_ ?_;rotate_left;focus(
        intro w' d;have E:=d.cell d0 id;have G:=d.cell C id;have L:=d.cell K id;go_simp
        try with_reducible rfl))
       iterate 1(refine Qk (v:=?_) rfl rfl rfl ?_ ?_;rotate_left;focus(
        intro w' d;go_simp
        try with_reducible rfl))
       refine Qj (Qh ?_);unfold Vp;show AX _ _ _ [] _ _;go_simp;go_wp2_with fail;go_roundw;case rel=>exact⟨k+1,k,by go_num,f.out.2.1,rfl,f.out.1.now f.out.qc (by have:=A.out.1;omega) (by have:=A.out.2.1;omega) (.inr ⟨j,y,rfl,A.out.2.2,by have:=W.out;omega⟩),f.out.qd⟩
       case measure=>have:=f.out.2.1;simp[C0];omega
      ·have i3:¬(x.1:Int)<(y.1:Int):=by omega
       clear h3;have W:=BX i3;refine Vr (λw'=>Xy No m w') [([0,1,2,3,4,5,6,7,8,9,10,11,12,13,14,15,16,17,18,19,20,21,22,23,24],[])] (by kernel_rfl) (by kernel_rfl) (λ_ _ _ _ _ h=>h) kd ?_;iterate 6(refine Qk (v:=?_) rfl rfl rfl ?_ ?_;rotate_left;focus(
        intro w' d;have E:=d.cell d0 id;have G:=d.cell C id;have L:=d.cell K id;go_simp
        try with_reducible rfl))
       iterate 4(refine Qe (v:=?_) rfl rfl (by first|kernel_rfl|simp[AV,AW,AQ,LW]) ?_ ?_;rotate_left;focus(
        intro w' d;have E:=d.cell d0 id;have G:=d.cell C id;have L:=d.cell K id;go_simp
        try with_reducible rfl))
       iterate 2(refine Qk (v:=?_) rfl rfl rfl ?_ ?_;rotate_left;focus(
        intro w' d;go_simp
        try with_reducible rfl))
       iterate 12(refine Qe (v:=?_) rfl rfl (by first|kernel_rfl|simp[AV,AW,AQ,LW]) ?_ ?_;rotate_left;focus(
        intro w' d;have E:=d.cell d0 id;have G:=d.cell C id;have L:=d.cell K id;go_simp
        try with_reducible rfl))
       iterate 1(refine Qk (v:=?_) rfl rfl rfl ?_ ?_;rotate_left;focus(
        intro w' d;go_simp
        try with_reducible rfl))
       refine Qj (Qh ?_);unfold Vp;show AX _ _ _ [] _ _;go_simp;go_wp2_with fail;go_roundw;case rel=>exact⟨k+1,_,by go_num,f.out.2.1,rfl,f.out.1.skip f.out.qc (.inr ⟨j,y,rfl,A.out.2.2,by have:=W.out;omega⟩),f.out.qd⟩
       case measure=>have:=f.out.2.1;simp[C0];omega
    ·have V:¬(n:Int)<=(x.2:Int):=by omega
     have A:=BX V;clear Q X I;refine Vr (λw'=>Xy No m w') [([0,1,2,3,4,5,6,7,8,9,10,11,12,13,14,15,16,17,18,19,20,21,22,23,24],[])] (by kernel_rfl) (by kernel_rfl) (λ_ _ _ _ _ h=>h) kd ?_;iterate 6(refine Qk (v:=?_) rfl rfl rfl ?_ ?_;rotate_left;focus(
      intro w' d;have E:=d.cell d0 id;have G:=d.cell C id;go_simp
      try with_reducible rfl))
     iterate 4(refine Qe (v:=?_) rfl rfl (by first|kernel_rfl|simp[AV,AW,AQ,LW]) ?_ ?_;rotate_left;focus(
      intro w' d;have E:=d.cell d0 id;have G:=d.cell C id;go_simp
      try with_reducible rfl))
     iterate 2(refine Qk (v:=?_) rfl rfl rfl ?_ ?_;rotate_left;focus(
      intro w' d;go_simp
      try with_reducible rfl))
     iterate 12(refine Sh rfl rfl (by first|kernel_rfl|simp[AV,AW,AQ,LW]) ?_)
     iterate 1(refine Qk (v:=?_) rfl rfl rfl ?_ ?_;rotate_left;focus(
      intro w' d;go_simp
      try with_reducible rfl))
     refine Qj (Qh ?_);unfold Vp;show AX _ _ _ [] _ _;go_simp;go_wp2_with fail;go_roundw;case rel=>exact⟨k+1,_,by go_num,f.out.2.1,rfl,f.out.1.skip f.out.qc (.inl (λh=>by have:=A.out;omega)),f.out.qd⟩
     case measure=>have:=f.out.2.1;simp[C0];omega
   ·have U:¬(x.1:Int)<=(x.2:Int):=by omega
    have A:=BX U;clear Q I;refine Vr (λw'=>Xy No m w') [([0,1,2,3,4,5,6,7,8,9,10,11,12,13,14,15,16,17,18,19,20,21,22,23,24],[])] (by kernel_rfl) (by kernel_rfl) (λ_ _ _ _ _ h=>h) kd ?_;iterate 6(refine Qk (v:=?_) rfl rfl rfl ?_ ?_;rotate_left;focus(
     intro w' d;have E:=d.cell d0 id;have G:=d.cell C id;go_simp
     try with_reducible rfl))
    iterate 4(refine Sh rfl rfl (by first|kernel_rfl|simp[AV,AW,AQ,LW]) ?_)
    iterate 2(refine Qk (v:=?_) rfl rfl rfl ?_ ?_;rotate_left;focus(
     intro w' d;go_simp
     try with_reducible rfl))
    iterate 12(refine Sh rfl rfl (by first|kernel_rfl|simp[AV,AW,AQ,LW]) ?_)
    iterate 1(refine Qk (v:=?_) rfl rfl rfl ?_ ?_;rotate_left;focus(
     intro w' d;go_simp
     try with_reducible rfl))
    refine Qj (Qh ?_);unfold Vp;show AX _ _ _ [] _ _;go_simp;go_wp2_with fail;go_roundw;case rel=>exact⟨k+1,_,by go_num,f.out.2.1,rfl,f.out.1.skip f.out.qc (.inl (λh=>by have:=A.out;omega)),f.out.qd⟩
    case measure=>have:=f.out.2.1;simp[C0];omega
  ·have M:k=l.length:=by omega
   have Z:¬(k:Int)<(l.length:Int):=by omega
   rw[M]at i;have f:=BX (A2 i P);clear P i hk D M;go_wp2_with fail;go_ret;exact⟨b,rfl,f.out.1,f.out.2⟩
def Ext (T:Nat)(x:Xc):Prop:=x.1<=x.2/\T<x.2/\x.1<=T+1
structure Ti (l:List Xc)(f t T:Nat):Prop where
 le:t<=T
 mem:∃r∈l,r.2=T
 has:∀n,f<=n->n<=T->Ux l n
theorem Ti.step(h:Ti l f t T)(g:x∈l)(d:Ext T x):Ti l f t x.2 :=
 ⟨by have:=h.le;have:=d.2.1;omega,⟨x,g,rfl⟩,λn i k=>by
  by_cases m:n<=T
  ·exact h.has n i m
  ·exact⟨x,g,by have:=d.2.2;omega,k⟩⟩
structure PlI (l m:List Xc)(a:Nat):Prop where
 set:Uk m
 has:∀n,n<a->(Ux m n↔Ux l n)
 top:∀x∈m,x.2<a
 gap:m≠[]->¬Ux l a
 few:m.length<=l.countP (λr=>decide (r.2<a))
theorem PlI.start(l:List Xc):PlI l [] 0:=⟨Uk.nil,λn h=>absurd h (Nat.not_lt_zero _),λx d=>by simp at d,λh=>absurd rfl h,BW _⟩
theorem PlI.done(h:PlI l m a)(i:∀x∈l,¬(x.1<=x.2/\a<=x.2))(n:Nat):Ux m n↔Ux l n:=by
 by_cases k:n<a
 ·exact h.has n k
 ·constructor
  ·rintro⟨x,d,f,g⟩;have:=h.top x d;omega
  ·rintro⟨x,d,f,g⟩;exact absurd ⟨by omega,by omega⟩ (i x d)
theorem Ek(h:∀x,p x=true->q x=true):∀{l:List Xc} {y:Xc},y∈l->q y=true->p y=false->l.countP p+1<=l.countP q
 | [],y,d,_,_=>by simp at d
 | x::l,y,d,f,g=>by
  have i:l.countP p<=l.countP q:=List.countP_mono_left (λx _=>h x)
  simp only[List.countP_cons]
  rcases List.mem_cons.1 d with rfl|d
  ·rw[f,g]
   simp
   omega
  ·have n:=Ek h d f g
   have:=h x
   cases k:p x<;>cases m:q x<;>simp_all<;>omega
theorem PlI.next(h:PlI l m a)(M:x∈l)(N:x.1<=x.2)(H:a<=x.2)(i:∀y∈l,y.1<=y.2->a<=y.2->x.1<=y.1)(D:Ti l (max x.1 a) x.2 T)(J:∀y∈l,¬Ext T y)(I:T<18446744073709551616):PlI l (m++[(max x.1 a,T)]) (T+1):=by
 have L:=D.le;have C:∀y∈m,y.2+1<max x.1 a:=λy f=>by
  have d:=h.top y f;have A:=h.gap (λe=>by rw[e]at f;simp at f);have O:¬x.1<=a:=λe=>A ⟨x,M,e,H⟩;omega
 have B:∀n,Ux (m++[(max x.1 a,T)]) n↔Ux m n\/(max x.1 a<=n/\n<=T):=λn=>by
  unfold Ux;simp only[CG,AZ];constructor
  ·rintro⟨r,g|rfl,d⟩
   ·exact .inl ⟨r,g,d⟩
   ·exact .inr d
  ·rintro(⟨r,g,d⟩|d)
   ·exact⟨r,.inl g,d⟩
   ·exact⟨_,.inr rfl,d⟩
 refine⟨⟨λr g=>?_,?_⟩,λn P=>?_,λy f=>?_,λ_ K=>?_,?_⟩
 ·rcases CG.1 g with g|g
  ·exact h.set.run r g
  ·rw[AZ.1 g];exact⟨by show max x.1 a<=T;omega,I⟩
 ·rw[List.pairwise_append];exact⟨h.set.gap,List.pairwise_singleton _ _,λy f z G=>by rw[AZ.1 G];exact C y f⟩
 ·rw[B];by_cases E:n<a
  ·rw[<- h.has n E];constructor
   ·rintro(d|d)
    ·exact d
    ·omega
   ·exact .inl
  ·constructor
   ·rintro(⟨r,g,d,A⟩|d)
    ·have:=h.top r g;omega
    ·exact D.has n d.1 d.2
   ·rintro⟨y,f,d,A⟩;have:=i y f (by omega) (by omega);exact .inr ⟨by omega,by omega⟩
 ·rcases CG.1 f with f|f
  ·have:=h.top y f;omega
  ·rw[AZ.1 f];exact Nat.lt_succ_self _
 ·obtain⟨y,f,d,A⟩:=K;exact J y f ⟨by omega,by omega,d⟩
 ·obtain⟨r,g,k⟩:=D.mem;have d:=Ek (p:=λr=>decide (r.2<a)) (q:=λr=>decide (r.2<T+1)) (λz G=>by simp at G⊢;omega) g (by simp[k]) (by simp[k];omega);have:=h.few;rw[BO,List.length_singleton];omega
def Nh (d:AC)(D f:Nat)(T:Nat)(w:AC):Prop:=w.heap[D]?=AF (.cells #[.int .u64 f,.int .u64 T] 204 (0,0))/\Xy (·=D) d w
def TX (D:Nat)(w:AC):Nat:=match w.cell? ⟨D,1,AI⟩with|some v=>(C0 v).toNat|none=>0
def V7 (v:AM):Nat:=match v with|.bool true=>1|_=>0
theorem Nh.end'(h:Nh d D f T w):TX D w=T:=by unfold TX;rw[Qq h.1];rfl
theorem Pk(h:Gq w B v l)(hl:l.length<=1048576)(hb:∀r∈l,r.2<18446744073709551616) :
  DJ Tryz.prog 134 #[v] w λz w'=>∃v' m,z=.returned v'/\Gq w' w.heap.size v' m/\Uk m/\(∀n,Ux m n↔Ux l n)/\m.length<=l.length/\Xy No w w':=by
 obtain⟨vo,vc,rfl,_,_⟩:=h.form;have ak:(l.length:Int)<=1048576:=by omega
 have aY:∀b,(DN vo l.length vc).ownBlock=AF b->b<w.heap.size:=λb hb=>by
  obtain⟨_,aM,hz⟩:=h.kind b hb;exact Qt hz
 have HH:=BX (A4 h hl hb aY);clear h hl hb aY;go_enter Tryz.func134,Tryz.ntmps134;go_upto_block 0 with fail;go_wp2_with fail;go_loopw [3,4] (λv3 v4 wr=>∃m a,v4=.int .u64 (a:Nat)/\Gq wr w.heap.size v3 m/\PlI l m a/\Xy No w wr) (λ_ v4 _=>18446744073709551616-(C0 v4).toNat);case atStart=>exact⟨[],0,rfl,Gq.nil _ _,PlI.start l,Xy.refl _ _⟩
 case round =>
  obtain⟨m,a,rfl,hm,hp,kr⟩:=hrel;obtain⟨mo,mc,rfl,_,_⟩:=hm.form;have aS:=XW (n:=a) (HH.out.1.no kr) (by have:=HH.out.2.1;omega);go_upto_region 4 with(go_at_call 186;refine aS.mono ?_;rintro e C ⟨b,rfl,aT,k1⟩);have ad:=kr.then k1;have H:=BX (A3 (hm.no k1) hp ad);clear hm hp kr k1 aS ad;rcases aT with⟨rfl,aH⟩|⟨j,x,rfl,hj,hx,M,N,Q⟩
  ·rw[BZ]at aH;have HN:=BX aH;clear aH;go_wp2_with fail;go_ret;exact⟨_,m,rfl,H.out.1,H.out.2.1.set,H.out.2.1.done HN.out,BF H.out.2.1.few WE,H.out.2.2⟩
  ·rw[BZ]at Q;have ai:¬(j:Int)<0:=by omega
   have aj:(j:Int)<(l.length:Int):=by omega
   have V:l≠[]:=by intro e;rw[e]at hj;simp at hj
   obtain⟨g,G,hr⟩:=(HH.out.1.no H.out.2.2).row V;subst G;obtain⟨a0,a1⟩:=hr j x hx;obtain⟨f,hf⟩:∃f,f=max x.1 a:=⟨_,rfl⟩;have U:max (x.1:Int) (a:Int)=(f:Int):=by omega
   have HX:=BX (A6 hx M N Q hj hf);clear hr hx M N Q V hj hf;go_upto_region 6 with fail;have kd:Xy No C C.drew:=(Xy.refl _ _).drew;have kA:=kd.alloc (.cells #[.int .u64 0,.int .u64 0] 204);refine Ql (λw'=>Xy No C w') [0,1,2,3,4,5,6,7,8,9,10,11,12] [13] [14] (by kernel_rfl) (by kernel_rfl) (λ_ _ _ _ _ h=>h) kd ?_;iterate 13(refine Qk (v:=?_) rfl rfl rfl ?_ ?_;rotate_left;focus(
    intro w' hS;have f0:=hS.cell a0 id;have f1:=hS.cell a1 id;go_simp
    try with_reducible rfl))
   refine Qj (Qx rfl rfl (λK hK=>?_));go_simp;refine hK _ _ kA ?_;clear hK K;refine Qh (Qu rfl (Qm ?_));go_upto_region 7 with fail;obtain⟨W6,aB⟩:∃W6,W6=(C.alloc (.cells #[.int .u64 f,.int .u64 x.2] 204)).drew:=⟨_,rfl⟩;have hD:W6.heap[C.heap.size]?=AF (.cells #[.int .u64 f,.int .u64 x.2] 204 (0,0)):=by rw[aB];exact Qy C _
   have k6:Xy No C W6:=by rw[aB];exact((Xy.refl _ _).alloc _).drew
   rw[<- aB];have aQ:Ti l f x.2 x.2:=⟨BE _,⟨x,FB HX.out.1,rfl⟩,λn al ah=>⟨x,FB HX.out.1,by have:=HX.out.rf;omega,ah⟩⟩;have HG:=BX (A3 hD k6 aQ);clear aB hD k6 aQ kd kA a0 a1 U;go_upto_block 2 with fail;go_cut [7] (λv7 L=>∃T,Nh W6 C.heap.size f T L/\Ti l f x.2 T/\(∀y∈l,¬Ext T y));case first =>
    go_wp2_with fail;go_loopw [7] (λv7 L=>∃I T,v7=.bool I/\Nh W6 C.heap.size f T L/\Ti l f x.2 T/\(I=false->∀y∈l,¬Ext T y)) (λv7 L=>2*(18446744073709551616-TX C.heap.size L)+V7 v7);case atStart=>exact⟨true,x.2,rfl,⟨HG.out.1,Xy.refl _ _⟩,HG.out.2.2,λe=>by cases e⟩
    case round =>
     obtain⟨I,T,rfl,E,G,hc⟩:=hrel
     rename AC=>L
     cases I with
     | false =>
      have HC:=BX (A3 E G (hc rfl));clear E G hc;go_wp2_with fail;go_meet;exact⟨T,HC.out⟩
     | true =>
      have HC:=BX (A2 E G);clear E G hc;go_upto_block 4 with fail;go_wp2_with fail;go_loopw [7,32] (λv7 aL wy=>∃k I A,aL=.int .i64 (k:Nat)/\k<=l.length/\v7=.bool I/\Nh W6 C.heap.size f A wy/\Ti l f x.2 A/\((I=false/\A=T/\∀y∈l.take k,¬Ext T y)\/(I=true/\T<A))) (λ_ aL _=>l.length-(C0 aL).toNat);case atStart=>exact⟨0,false,T,rfl,BW _,rfl,HC.out.1,HC.out.2,.inl ⟨rfl,rfl,λy hy=>by simp at hy⟩⟩
      case round =>
       obtain⟨k,I,A,rfl,hk,rfl,E,G,D⟩:=hrel
       rename AC=>wy
       by_cases O:k<l.length
       ·have V:l≠[]:=by intro e;rw[e]at O;simp at O
        have Z:=H.out.2.2.then HG.out.2.1;have aX:∀b,(DN (AF ⟨g,0,AI⟩) l.length vc).ownBlock=AF b->¬b=C.heap.size:=λb hb e=>by
         have M:=HH.out.2.2.2 b hb;have N:=H.out.2.2.size;omega
        obtain⟨g',aF,hr⟩:=((HH.out.1.no Z).keep E.2 aX).row V;have af:g'=g:=by simp at aF;exact aF.symm
        subst af;have hy:l[k]?=AF l[k]:=BY O;generalize l[k]=y at hy;obtain⟨a0,a1⟩:=hr k y hy;have ag:(k:Int)<(l.length:Int):=by omega
        have ac:=HH.out.qc y (FB hy);have d:=BX (A6 hy O G D E ac);clear hr hy O G D aF aX Z V hk ac;go_upto_region 13 with fail;obtain⟨WB,aC⟩:∃WB,WB=wy.alloc (.cells #[.int .u64 y.1,.int .u64 y.2] 204):=⟨_,rfl⟩;have hB:WB.heap[wy.heap.size]?=AF (.cells #[.int .u64 y.1,.int .u64 y.2] 204 (0,0)):=by rw[aC];exact Qy _ _
        have kB:Xy No wy WB:=by rw[aC];exact(Xy.refl _ _).alloc _
        rw[<- aC];clear aC;have b0:WB.cell? ⟨wy.heap.size,0,AI⟩=AF (.int .u64 y.1):=(Qq hB 0).trans rfl;have b1:WB.cell? ⟨wy.heap.size,1,AI⟩=AF (.int .u64 y.2):=(Qq hB 1).trans rfl;have P:=kB.heap E.1 id;have d1:WB.cell? ⟨C.heap.size,1,AI⟩=AF (.int .u64 A):=(Qq P 1).trans rfl;have ae:=E.2.then kB;have ab:Nh W6 C.heap.size f A WB:=⟨P,ae⟩;have f1:=Qg P 1;have HW:=BX (A2 ab P);clear E hB kB P ae ab a0 a1;have X:¬Ext A y->(I=false/\A=T/\∀y∈l.take (k+1),¬Ext T y)\/(I=true/\T<A):=λhn=>by
         rcases d.out.qd with⟨q1,q2,q3⟩|q
         ·refine .inl ⟨q1,q2,λz hz=>?_⟩;rcases Ni d.out.1 hz with hz|rfl
          ·exact q3 z hz
          ·rw[<- q2];exact hn
         ·exact .inr q
        have Y:Ext A y->Ti l f x.2 y.2/\T<y.2:=λhe=>⟨d.out.2.2.1.step (FB d.out.1) he,by
         have:=he.2.1
         rcases d.out.qd with⟨_,q2,_⟩|⟨_,q⟩<;>omega⟩
        have aE:Nh W6 C.heap.size f y.2 (WB.setCell ⟨C.heap.size,1,AI⟩ (.int .u64 y.2)):=⟨Qz (i:=1) (u:=.int .u64 y.2) HW.out.2,HW.out.1.2.setCell (p:=⟨C.heap.size,1,AI⟩) (.inl rfl) _⟩;have HS:=BX (A3 X Y aE);clear X Y aE;by_cases M:y.1<=y.2
        ·have i1:(y.1:Int)<=(y.2:Int):=by omega
         by_cases N:A<y.2
         ·have i2:(A:Int)<(y.2:Int):=by omega
          by_cases h3:y.1<=A
          ·have i3:(y.1:Int)<=(A:Int):=by omega
           have J:=BX (show Ext A y from⟨M,N,by omega⟩);clear M N h3;go_wp2_with fail;go_roundw;case rel=>exact⟨k+1,true,y.2,by go_num,d.out.2.1,rfl,HS.out.2.2,(HS.out.2.1 J.out).1,.inr ⟨rfl,(HS.out.2.1 J.out).2⟩⟩
           case measure=>have:=d.out.2.1;simp[C0];omega
          ·have i3:¬(y.1:Int)<=(A:Int):=by omega
           have aK:IntKind.u64.wrap ((y.1:Int)-1)=((y.1-1:Nat):Int):=by have:=d.out.rf;rw[F0];omega
           by_cases h4:y.1-1=A
           ·rw[h4]at aK;have J:=BX (show Ext A y from⟨M,N,by omega⟩);clear M N h3 h4;go_wp2_with fail;go_roundw;case rel=>exact⟨k+1,true,y.2,by go_num,d.out.2.1,rfl,HS.out.2.2,(HS.out.2.1 J.out).1,.inr ⟨rfl,(HS.out.2.1 J.out).2⟩⟩
            case measure=>have:=d.out.2.1;simp[C0];omega
           ·have J:=BX (show ¬Ext A y from λe=>by have:=e.2.2;omega);have i4:¬((y.1-1:Nat):Int)=(A:Int):=by omega
            generalize y.1-1=yz at aK i4;clear M N h3 h4;go_wp2_with fail;go_roundw;case rel=>exact⟨k+1,I,A,by go_num,d.out.2.1,rfl,HW.out.1,d.out.qc,HS.out.1 J.out⟩
            case measure=>have:=d.out.2.1;simp[C0];omega
         ·have i2:¬(A:Int)<(y.2:Int):=by omega
          have J:=BX (show ¬Ext A y from λe=>N e.2.1);clear M N;go_wp2_with fail;go_roundw;case rel=>exact⟨k+1,I,A,by go_num,d.out.2.1,rfl,HW.out.1,d.out.qc,HS.out.1 J.out⟩
          case measure=>have:=d.out.2.1;simp[C0];omega
        ·have i1:¬(y.1:Int)<=(y.2:Int):=by omega
         have J:=BX (show ¬Ext A y from λe=>M e.1);clear M;go_wp2_with fail;go_roundw;case rel=>exact⟨k+1,I,A,by go_num,d.out.2.1,rfl,HW.out.1,d.out.qc,HS.out.1 J.out⟩
         case measure=>have:=d.out.2.1;simp[C0];omega
       ·have aR:k=l.length:=by omega
        have ag:¬(k:Int)<(l.length:Int):=by omega
        rw[aR,BZ]at D;have aO:A<18446744073709551616:=by obtain⟨r,hr,e⟩:=G.mem;have:=HH.out.qc r hr;omega
        have d:=BX (A4 E G D aO);clear E G D hk O aR aO;go_wp2_with fail;go_roundw;case rel=>exact⟨I,A,rfl,d.out.1,d.out.2.1,λe=>by
         rcases d.out.qc with⟨_,h,h3⟩|⟨h,_⟩
         ·rw[h];exact h3
         ·rw[e]at h;cases h⟩
        case measure =>
         have e1:=d.out.1.end';have e2:=HC.out.1.end';have e3:=d.out.2.2.2;rw[e1,e2];rcases d.out.qc with⟨h0,h,h3⟩|⟨h0,h⟩
         ·rw[h0,h];simp[V7]
         ·rw[h0];simp[V7];omega
   case rest =>
    obtain⟨T,E,G,hc⟩:=hcut
    rename AC=>L
    have Z:=H.out.2.2.then HG.out.2.1;have kx:Xy No w L:=Z.absorb E.2 (λb e=>by have e:b=C.heap.size:=e;have:=H.out.2.2.size;omega);have U:=(H.out.1.no HG.out.2.1).keep E.2 (λb hb e=>by
     obtain⟨_,aM,hz⟩:=H.out.1.kind b hb;have:=Qt hz;have e:b=C.heap.size:=e
     omega)
    have hT:T<18446744073709551616:=by obtain⟨r,hr,e⟩:=G.mem;have:=HH.out.qc r hr;omega
    have aI:=H.out.2.1.next (FB HX.out.1) HX.out.2.1 HX.out.qc HX.out.qd (by rw[<- HX.out.rf];exact G) hc hT;rw[<- HX.out.rf]at aI;have d0:L.cell? ⟨C.heap.size,0,AI⟩=AF (.int .u64 f):=(Qq E.1 0).trans rfl;have d1:L.cell? ⟨C.heap.size,1,AI⟩=AF (.int .u64 T):=(Qq E.1 1).trans rfl;have aP:a<T+1:=by have:=G.le;have:=HX.out.qc;omega
    have aV:m.length<=1099511627776:=by have:=H.out.2.1.few;have N:=WE (p:=λr=>decide (r.2<a)) (l:=l);have:=HH.out.2.1;omega
    have aD:=((Xy.refl No L).alloc (.cells #[.int .u64 f,.int .u64 T] 204)).drew;have aU:=U.no aD;have aN:(L.alloc (.cells #[.int .u64 f,.int .u64 T] 204)).drew.heap[L.heap.size]?=_:=Qy L (.cells #[.int .u64 f,.int .u64 T] 204);have aZ:=aD.heap E.1 id;have d:=BX (A10 aU aN aV aZ kx aI hT aP U aD);clear E G hc kx U hT aI aP aV aD aU aN aZ Z;go_upto_region 17 with(at_builtin;refine Mx rfl _ _ rfl d.out.1 rfl (y:=(f,T)) d.out.2.1 rfl d.out.qc (BF d.out.2.2.2.2.1.size d.out.2.2.2.2.2.2.2.2.2.size) ?_;intro an am w' W aG);have kh:Xy No w w':=(d.out.2.2.2.2.1.alloc _).absorb aG (λb hb=>(d.out.1.kind b hb).1);have aW:¬(DN mo m.length mc).ownBlock=AF C.heap.size:=λe=>by
     obtain⟨_,aM,hz⟩:=H.out.1.kind _ e;have:=Qt hz;omega
    have aJ:=aG.heap d.out.qd aW;have d0:w'.cell? ⟨C.heap.size,0,AI⟩=AF (.int .u64 f):=(Qq aJ 0).trans rfl;have d1:w'.cell? ⟨C.heap.size,1,AI⟩=AF (.int .u64 T):=(Qq aJ 1).trans rfl;have HO:=BX (A2 W kh);clear W aG kh aW aJ;by_cases aA:T=18446744073709551615
    ·have iT:(T:Int)=18446744073709551615:=by omega
     have J:=BX aA;clear aA;go_wp2_with fail;go_ret;exact⟨_,rfl,m++[(f,T)],by simpa using HO.out.1,d.out.2.2.2.2.2.1.set,d.out.2.2.2.2.2.1.done (λy hy hh=>by have:=HH.out.qc y hy;have:=J.out;omega),BF d.out.2.2.2.2.2.1.few WE,HO.out.2⟩
    ·have iT:¬(T:Int)=18446744073709551615:=by omega
     have aK:IntKind.u64.wrap ((T:Int)+1)=((T+1:Nat):Int):=by have:=d.out.qg;rw[F0];omega
     have J:=BX aA;clear aA;go_wp2_with fail;go_roundw;case rel=>exact⟨m++[(f,T)],T+1,rfl,by simpa using HO.out.1,d.out.qf,HO.out.2⟩
     case measure=>have M:=d.out.qh;have N:=d.out.qg;simp[C0];omega
end Go.Proofs.YtfdmbomlkpkegaaGreat
