/- Lemmas. -/
import Derived.Test.YtfdmbomlkpkegaaGreatS34
import Derived.Laws.EntriesVeiled
set_option maxRecDepth 100000
set_option maxHeartbeats 8000000
set_option linter.all false
set_option autoImplicit true
set_option relaxedAutoImplicit true
open Go renaming Addr->EK,Calls->DJ,Value->AM,World->AC,bodyPost_ret->FC,run_underlying->C8,undef->LW,wpList->AX,yielded->AW
open Go.Act renaming put->AQ
open Go.Builtin renaming append->BQ
open Go.Callee renaming builtin->BP
open Go.Instr renaming findNow->C3,lookup->C7,mapUpdate->CD
open Go.IntKind renaming wrap_i64->PO
open Go.Lib renaming hid->BX
open Go.MapKept renaming IsKey->C6,run_checkKey->CA,run_findKey->CB,run_getObj_map->C9,run_setObj_map->CE
open Go.Region renaming wanted->AV
open Go.Result renaming andThen->BS
open Go.RowKit renaming intOf->C0
open Go.Value.slice renaming injEq->DB
open List renaming all_eq_false->OX,all_eq_true->AS,getElem?_eq_getElem->BY,mem_of_getElem?->FB,mem_range->Pl,range->Pi
open Nat renaming le_of_lt_succ->W8,le_refl->BE,le_trans->BF,lt_or_eq_of_le->W0,not_lt_zero->Ts,zero_le->BW
open Option renaming none->AI,some->AF
open Option.some renaming injEq->PZ
namespace Go.Proofs.YtfdmbomlkpkegaaGreat
open Go Go.RowKit Go.Dr Go.Shelf
def Sn (a:Int)(e b:Nat):Array AM:=#[.int .u8 1,.int .i64 a,.int .u64 e,.int .u64 0,.int .u64 b,.int .u64 0,.int .u64 0,.slice AI 0 0,.slice AI 0 0]
theorem V3(w:AC)(a:Int)(e b:Nat)(d:(1:Int)<=(b:Int)):DJ Tryz.prog 141 #[.agg (Sn a e b)] w λz w'=>z=.returned (.bool true)/\Xy No w w':=by unfold Sn;go_enter Tryz.func141,Tryz.ntmps141;go_wp2_with fail;go_ret;exact⟨rfl,(Xy.refl _ _).alloc _⟩
def Tx (s:ByteArray)(d f g:Nat):Array AM:=#[.string s,.func (.func d) #[] #[],.func (.func f) #[] #[],.func (.func g) #[] #[]]
theorem Do(s:ByteArray)(d f g:Nat):(Tryz.prog.info? 210).map (·.size)=AF (Tx s d f g).size:=by show _=AF 4;kernel_rfl
theorem Ax(w:AC):DJ Tryz.prog 94 #[.int .u8 1] w λz w'=>∃s d f,z=.returned (.tuple #[.agg (Tx s 141 d f),.bool true])/\Xy No w w':=by go_enter Tryz.func94,Tryz.ntmps94;go_wp2_with fail;refine FC (v:=.tuple #[.agg (Tx ⟨#[104,101,108,108,111]⟩ 141 142 143),.bool true]) (Jl rfl _ _ w.heap.size 210 (Tx ⟨#[104,101,108,108,111]⟩ 141 142 143) (0,0) _ _ rfl rfl (Qy _ _) Tryz.underlying210 rfl (Do _ _ _ _)) rfl ⟨_,_,_,rfl,(Xy.refl _ _).alloc _⟩
theorem Z4(w:AC)(a:Int)(e b:Nat)(O:0<=a)(V:a<16)(Y:(1:Int)<=(e:Int))(P:(1:Int)<=(b:Int)):DJ Tryz.prog 46 #[.agg (Sn a e b)] w λz w'=>z=.returned (.bool true)/\Xy No w w':=by
 have f:=λ(X:AC)=>V3 X a e b P;unfold Sn at f⊢;obtain⟨W,k⟩:∃W,W=w.alloc (.cells #[.int .u8 1,.int .i64 a,.int .u64 e,.int .u64 0,.int .u64 b,.int .u64 0,.int .u64 0,.slice AI 0 0,.slice AI 0 0] 69):=⟨_,rfl⟩;have L:Xy No w W:=by rw[k];exact(Xy.refl _ _).alloc _
 have J:W.heap[w.heap.size]?=AF (.cells #[.int .u8 1,.int .i64 a,.int .u64 e,.int .u64 0,.int .u64 b,.int .u64 0,.int .u64 0,.slice AI 0 0,.slice AI 0 0] 69 (0,0)):=by rw[k];exact Qy _ _
 have c:=λi=>Qq J i;have n:=c 0;have A:=c 1;have B:=c 2;have C:=c 3;have D:=c 4;have E:=c 5;have G:=c 6;have H:=c 7;have I:=c 8;simp at n A B C D E G H I;have N:=BX L;clear c J L;go_enter Tryz.func46,Tryz.ntmps46;go_upto_region 1 with fail;rw[<- k];clear k;go_upto_region 2 with(go_at_call 94;refine(Ax _).mono ?_;rintro z m ⟨s,g,h,rfl,K⟩;unfold Tx);have d:=K.alloc (.cells #[.string s,.func (.func 141) #[] #[],.func (.func g) #[] #[],.func (.func h) #[] #[]] 210);have hF:=Qy m (.cells #[.string s,.func (.func 141) #[] #[],.func (.func g) #[] #[],.func (.func h) #[] #[]] 210);have U:(m.alloc (.cells #[.string s,.func (.func 141) #[] #[],.func (.func g) #[] #[],.func (.func h) #[] #[]] 210)).cell? ⟨m.heap.size,1,AI⟩=AF (.func (.func 141) #[] #[]):=(Qq hF 1).trans rfl;have n:=d.cell n id;have A:=d.cell A id;have B:=d.cell B id;have C:=d.cell C id;have D:=d.cell D id;have E:=d.cell E id;have G:=d.cell G id;have H:=d.cell H id;have I:=d.cell I id;have M:=BX (N.out.then d);clear K d hF;generalize m.alloc (.cells #[.string s,.func (.func 141) #[] #[],.func (.func g) #[] #[],.func (.func h) #[] #[]] 210)=T at *;go_wp2_with(go_at_call 141;refine(f _).mono ?_;rintro z Z ⟨rfl,Q⟩);go_ret;exact⟨rfl,M.out.then Q⟩
theorem Ng(k:Int):C6 (.int .u8) (.int .u8 k):=by simp[C6]
def Sd (k:Int)(f b:Nat):MapEntry:={key:=.int .u8 k,val:=.func (.func f) #[] #[],born:=b}
theorem Wn(w:AC)(f:Nat):∃w',(CD 195 (.map (AF w.heap.size)) (.int .u8 1) (.func (.func f) #[] #[])).run Tryz.prog (w.alloc (.map #[] 0))=.ok () w'/\w'.heap[w.heap.size]?=AF (.map #[Sd 1 f 0] 1)/\Xy No w w':=by
 have d:(w.alloc (.map #[] 0)).heap[w.heap.size]?=AF (.map #[] 0):=Qy _ _;have g:=Qt d;refine⟨{w.alloc (.map #[] 0)with heap:=(w.alloc (.map #[] 0)).heap.setIfInBounds w.heap.size (.map #[Sd 1 f 0] 1)},?_,by simp,?_⟩
 ·simp[CD,C8 Tryz.underlying195,C9 d,CA Tryz.underlying5 (Ng 1),CB Tryz.underlying5 (show C3 (.int .u8) (.int .u8 1) [] 0=AF AI from rfl),CE _ d,BS,Sd]
 ·have k:=(Xy.refl No w).alloc (.map #[] 0);exact k.trans (Xy.setObj (F:=(·=w.heap.size)) (Xy.refl _ (w.alloc (.map #[] 0))) (r:=w.heap.size) (.inl rfl) _) (λb d e=>by have e:b=w.heap.size:=e;omega)
theorem Wm{w:AC}{r f g:Nat}(d:w.heap[r]?=AF (.map #[Sd 1 f 0] 1)):∃w',(CD 195 (.map (AF r)) (.int .u8 3) (.func (.func g) #[] #[])).run Tryz.prog w=.ok () w'/\w'.heap[r]?=AF (.map #[Sd 1 f 0,Sd 3 g 1] 2)/\Xy (·=r) w w':=by have h:=Qt d;refine⟨{w with heap:=w.heap.setIfInBounds r (.map #[Sd 1 f 0,Sd 3 g 1] 2)},?_,by simp[h],Xy.setObj (F:=(·=r)) (Xy.refl _ w) (r:=r) (.inl rfl) _⟩;simp[CD,C8 Tryz.underlying195,C9 d,CA Tryz.underlying5 (Ng 3),CB Tryz.underlying5 (show C3 (.int .u8) (.int .u8 3) [Sd 1 f 0] 0=AF AI from rfl),CE _ d,BS];rfl
theorem En{r f g:Nat}(d:w.heap[r]?=AF (.map #[Sd 1 f 0,Sd 3 g 1] 2)):(C7 195 (.map (AF r)) (.int .u8 1) true).run Tryz.prog w=.ok (.tuple #[.func (.func f) #[] #[],.bool true]) w:=by simp[C7,C8 Tryz.underlying195,C9 d,CA Tryz.underlying5 (Ng 1),CB Tryz.underlying5 (show C3 (.int .u8) (.int .u8 1) [Sd 1 f 0,Sd 3 g 1] 0=AF (AF (0,.func (.func f) #[] #[]))from rfl),BS]
section
variable [bn:Ib]{base:Nat}{w w':AC}{R q p width j:Nat}{size:Int}{o:List Nat}{S S':S16}{F:Nat->Prop}
theorem Bk(U:Ui base w q p width size S F)(X:Su base w R q o)(ok:Ue width j S)(T:j+2<=450)(f:Vy)(a:Nat)(A:f.agent=a)(ha:a<16)(h1:f.kind=1)(he:1<=f.epoch)(aG:1<=f.base)(hi:f.inc=0)(P:f.cum=0)(V:f.limit=0)(Q:Tb width j size S a f.epoch f.base m S')(n:base<=w.heap.size)(O:ban.top<=w.heap.size) :
  DJ Tryz.prog 31 #[.pointer (AF ⟨R,0,AI⟩),.agg (f.cells (.slice AI 0 0) (.slice AI 0 0))] w λz w'=>z=.returned (.bool m)/\So base w R q p width size S' (if m then o.set a 2 else o) F w':=by
 obtain⟨o2,C⟩:∃o2,o2=(if m then o.set a 2 else o):=⟨_,rfl⟩;rw[<- C];have aC:=BX C;clear C;have aK:=@run_makeMap Tryz.prog;have aD:(a:Int)<16:=by omega
 have aF:(1:Int)<=(f.epoch:Int):=by omega
 have aE:(1:Int)<=(f.base:Int):=by omega
 have HH:=BX (A7 U X ok T Q n O);clear U X ok T Q n O ha;unfold Vy.cells;rw[A,h1,hi,P,V];obtain⟨W,hW⟩:∃W,W=w.alloc (.cells #[.int .u8 1,.int .i64 a,.int .u64 f.epoch,.int .u64 0,.int .u64 f.base,.int .u64 0,.int .u64 0,.slice AI 0 0,.slice AI 0 0] 69):=⟨_,rfl⟩;have kW:Xy No w W:=by rw[hW];exact(Xy.refl _ _).alloc _
 have hA:W.heap[w.heap.size]?=AF (.cells #[.int .u8 1,.int .i64 a,.int .u64 f.epoch,.int .u64 0,.int .u64 f.base,.int .u64 0,.int .u64 0,.slice AI 0 0,.slice AI 0 0] 69 (0,0)):=by rw[hW];exact Qy _ _
 have D:=Z4 W a f.epoch f.base (by omega) aD aF aE;unfold Sn at D;have c:=λi=>Qq hA i;have E:=c 0;have G:=c 1;have H:=c 2;have I:=c 3;have J:=c 4;have K:=c 5;have L:=c 6;have M:=c 7;have N:=c 8;simp at E G H I J K L M N;have HW:=BX kW;clear c hA kW;go_enter Tryz.func31,Tryz.ntmps31;go_upto_region 1 with fail;rw[<- hW];clear hW;go_upto_region 3 with(go_at_call 46;refine D.mono ?_;rintro z w1 ⟨rfl,k⟩);have E:=k.cell E id;have G:=k.cell G id;have H:=k.cell H id;have I:=k.cell I id;have J:=k.cell J id;have K:=k.cell K id;have L:=k.cell L id;have M:=k.cell M id;have N:=k.cell N id;obtain⟨W2,aI,Y,aA⟩:=Wn w1 85;obtain⟨W3,aJ,Z,aB⟩:=Wm (g:=86) Y;have aH:=En Z;have d:Xy No w1 W3:=aA.absorb aB (λb e=>by have e:b=w1.heap.size:=e;omega);have E:=d.cell E id;have G:=d.cell G id;have H:=d.cell H id;have I:=d.cell I id;have J:=d.cell J id;have K:=d.cell K id;have L:=d.cell L id;have M:=d.cell M id;have N:=d.cell N id;have h:=(HW.out.then k).then d;obtain⟨U,X,ok,T,Q,n,O⟩:=HH.out;have B:=Ph (U.no h) (X.no h) ok T f (.slice AI 0 0) (.slice AI 0 0) a A (by omega) Q (BF n h.size) (BF O h.size);unfold Vy.cells at B;rw[A,h1,hi,P,V,<- aC.out]at B;have HK:=BX h;clear Y Z aA aB d h k U X ok T Q n O D;go_wp2_with(go_at_call 85;refine B.mono ?_;rintro z w4 ⟨rfl,hn⟩;have HN:=BX hn;clear hn);go_ret;exact⟨by simp,So.then HK.out.no (λb n=>.inl n) HN.out⟩
end
def Sa (w:AC)(v:AM)(l:List Xc):Prop :=
 ∃ao cap,v=.slice ao l.length cap/\l.length<=cap/\cap<=maxLen/\(l=[]\/∃g o,ao=AF ⟨g,o,AI⟩ /\
  ∀(i:Nat) r,l[i]?=AF r->w.cell? ⟨g,o+i*2,AI⟩=AF (.int .u64 r.1)/\w.cell? ⟨g,o+i*2+1,AI⟩=AF (.int .u64 r.2))
theorem Zy.in'(h:Zy w v l):Sa w v l:=by
 obtain⟨ao,cap,f,i,k,z,m⟩:=h;refine⟨ao,cap,f,i,k,?_⟩;by_cases d:l=[]
 ·exact .inl d
 ·have:=List.length_pos_iff.2 d;obtain⟨g,o,e,_,n⟩:=m (by omega);exact .inr ⟨g,o,e,n⟩
theorem Sa.no(h:Sa w v l)(k:Xy No w w'):Sa w' v l:=by obtain⟨ao,cap,f,m,n,z⟩:=h;exact⟨ao,cap,f,m,n,z.imp id (λ⟨g,o,e,d⟩=>⟨g,o,e,λi r hi=>⟨k.cell (d i r hi).1 id,k.cell (d i r hi).2 id⟩⟩)⟩
theorem Sa.form(h:Sa w v l):∃ao cap,v=.slice ao l.length cap/\l.length<=cap/\cap<=maxLen:=by obtain⟨ao,cap,d,f,g,_⟩:=h;exact⟨ao,cap,d,f,g⟩
theorem Sa.row(h:Sa w (.slice ao n cap) l)(z:l≠[]):∃g o,ao=AF ⟨g,o,AI⟩ /\
  ∀(i:Nat) r,l[i]?=AF r->w.cell? ⟨g,o+i*2,AI⟩=AF (.int .u64 r.1)/\w.cell? ⟨g,o+i*2+1,AI⟩=AF (.int .u64 r.2):=by
 obtain⟨k,d,f,A,B,m⟩:=h;simp only[DB]at f;obtain⟨rfl,rfl,rfl⟩:=f;exact m.resolve_left z
theorem QX(J:TypeId)(f:Hl w B v l)(A:Sa w u m)(M:l.length+m.length<=1099511627776)(V:B<=w.heap.size) :
  ∃D w',(Builtin.append_ #[67,67] J #[v,u]).run Tryz.prog w=.ok D w'/\Hl w' B D (l++m)/\Xy (λb=>v.ownBlock=AF b) w w':=by
 obtain⟨N,hi,G,H,I⟩:=info_parts Ah;obtain⟨ao,cap,rfl,hc,hm,d⟩:=A;cases ao with
 | none =>
  have E:m=[]:=by
   rcases d with h|⟨g,o,e,_⟩
   ·exact h
   ·cases e
  subst E;have i:=run_append_owned_none (P:=Tryz.prog) w B 67 J 96 N 2 Tryz.underlying67 hi v l.length (Yd l) f;exact⟨v,w,i,by rw[List.append_nil];exact f,Xy.refl _ _⟩
 | some O =>
  obtain⟨D,w',i,T,U,_⟩:=run_append_own (P:=Tryz.prog) w B 67 J 96 N _ 2 16 Tryz.underlying67 hi G H I rfl (by decide) v l.length (Yd l) f
   O m.length cap (Yd m) (Tv m) (λj y W=>by
    obtain⟨r,C,Z⟩:=Bq W;have Y:=(List.getElem?_eq_some_iff.1 C).1;obtain⟨g,o,e,z⟩:=d.resolve_left (λh=>by rw[h]at C;simp at C);simp only[PZ]at e;subst e;obtain⟨K,L⟩:=z _ _ C;have Q:(⟨g,o,AI⟩:EK).add j=⟨g,o+j,AI⟩:=by simp[Addr.add]
    rw[Q,Z];by_cases n:j%2=0
    ·rw[show o+j/2*2=o+j by omega]at K;rw[if_pos n];exact K
    ·rw[show o+j/2*2+1=o+j by omega]at L;rw[if_neg n]
     exact L) (Ps m) (by unfold maxLen;omega) (by omega) V
  refine⟨D,w',i,?_,(Xy.refl _ w).grown U (λk X=>.inl X)⟩;unfold Hl;rw[List.length_append,Nm];exact T
theorem YY{o:Oper}(s x:Operand)(A:o.op=Op.call {callee:=BP BQ,args:=#[s,x],argTypes:=#[67,67]})(f:Hl w B v l)(g:Sa w u m)(D:a.eval s=v)(E:a.eval x=u)(d:l.length+m.length<=1099511627776)(n:B<=w.heap.size)(z:∀h w',Hl w' B h (l++m)->Xy (λb=>v.ownBlock=AF b) w w'->K (a.put o.dst h) w'):o.wp Tryz.prog a w K Q:=by obtain⟨h,w',C,i,k⟩:=QX o.type f g d n;unfold Oper.wp execOp;simp only[A,resolve,invoke,builtin,Sem.run_bind,Sem.run_pure,Result.andThen_ok,List.map_toArray,List.map_cons,List.map_nil,D,E,C];exact z _ _ i k
theorem Ez(E:o.guard=AI)(s x:Operand)(n:o.op=Op.call {callee:=BP BQ,args:=#[s,x],argTypes:=#[67,67]})(f:Hl w B v l)(g:Sa w u m)(G:a.eval s=v)(H:a.eval x=u)(d:l.length+m.length<=1099511627776)(C:B<=w.heap.size)(D:∀i w',Hl w' B i (l++m)->Xy (λb=>v.ownBlock=AF b) w w'->AX Tryz.prog h Q rest (a.put o.dst i) w') :
  AX Tryz.prog h Q (o::rest) a w :=
 wpList_plain E λI k=>YY s x n f g G H d C (λi w' z A=>k _ _ (D i w' z A))
@[go_sem] theorem eql_nil_runs (w:AC) (a:Option EK) (n c:Nat):(binOp .eql 67 (.slice a n c) (.slice AI 0 0)).run Tryz.prog w=.ok (.bool a.isNone) w :=
 Lib.run_eql_slice_nil w _ _ a n c 0 0 Tryz.underlying67
theorem Dg(h:Sa w v l)(C:l.length<=1099511627776) :
  DJ Tryz.prog 185 #[v] w λe w'=>∃k,e=.returned k/\Hl w' w.heap.size k l/\Xy No w w':=by
 obtain⟨ao,cap,rfl,H,I⟩:=h.form;have m:=BX (A2 h C);clear h C H I;cases ao with
 | none =>
  have A:l=[]:=by
   obtain⟨E,B,e,J,K,n⟩:=m.out.1;rcases n with n|⟨g,o,G,_⟩
   ·exact n
   ·simp only[DB]at e;rw[G]at e;exact absurd e.1 (by simp)
  subst A;go_enter Tryz.func185,Tryz.ntmps185;go_wp2_with fail;go_ret;exact⟨_,rfl,Hl.nil _ _,Xy.refl _ _⟩
 | some a =>
  have D:=(Xy.refl No w).alloc (.cells #[] 96);have f:Hl (w.alloc (.cells #[] 96)) w.heap.size (.slice (AF ⟨w.heap.size,0,AI⟩) 0 0) []:=⟨rfl,.inr ⟨w.heap.size,0,_,rfl,BE _,Qy _ _,BE _,by decide,rfl,rfl⟩⟩;have i:=m.out.1.no D;go_enter Tryz.func185,Tryz.ntmps185;go_wp2_with(at_builtin;refine Ez rfl _ _ rfl f i rfl rfl (by simpa using m.out.2) (by simp) ?_;intro k w' d z);go_ret;refine⟨k,rfl,by simpa using d,D.absorb z (λb e=>?_)⟩;simp[Value.ownBlock]at e;omega
theorem Hl.mono(h:Hl w B v l)(i:B'<=B):Hl w B' v l :=
 ⟨h.1,h.2.imp id (λ⟨g,cap,d,e,f,r⟩=>⟨g,cap,d,e,BF i f,r⟩)⟩
theorem Oj(h:Zy w v l)(i:l.length<=1099511627776) :
  DJ Tryz.prog 133 #[.agg #[v]] w λe w'=>∃n,e=.returned n/\Hl w' w.heap.size n l/\Xy No w w':=by
 obtain⟨ao,cap,rfl,_,_⟩:=h.form;have d:=(Xy.refl No w).alloc (.cells #[.slice ao l.length cap] 90);have z:=Dg (h.no d).in' i;have f:=BX d;clear h d i;go_enter Tryz.func133,Tryz.ntmps133;go_wp2_with(go_at_call 185;refine z.mono ?_;rintro e B ⟨A,rfl,k,m⟩;have g:=BX (A2 k m);clear k m);go_ret;exact⟨A,rfl,Hl.mono g.out.1 f.out.size,f.out.then g.out.2⟩
theorem Zy.front(h:Zy w (.slice ao n cap) l)(I:m<=l.length):Zy w (.slice ao m cap) (l.take m):=by
 obtain⟨f,d,e,H,A,B,C⟩:=h;simp only[DB]at e;obtain⟨rfl,_,rfl⟩:=e;have k:(l.take m).length=m:=by rw[List.length_take];omega
 exact⟨ao,cap,by rw[k],by omega,A,B,λE=>by
  obtain⟨g,o,z,D,G⟩:=C E;exact⟨g,o,z,D,λi r hi=>G i r (by
   rw[List.getElem?_take]at hi
   split at hi
   ·exact hi
   ·cases hi)⟩⟩
theorem Ob(h:Nf w u x)(I:x.set.length<=1099511627776) :
  DJ Tryz.prog 87 #[u,.int .i64 32] w λe w'=>∃z,e=.returned z/\Zy w' z (x.set.take 32)/\(∀b,z.ownBlock=AF b->w.heap.size<=b)/\Xy No w w':=by
 obtain⟨v,rfl,k⟩:=h;obtain⟨ao,cap,rfl,_,_⟩:=k.form;have n:=(Xy.refl No w).alloc (.cells #[.int .u64 x.low,.int .u64 x.width,.slice ao x.set.length cap] 92);have H:=Oj (k.no n) I;have A:=BX n;clear k n;go_enter Tryz.func87,Tryz.ntmps87;go_wp2_with(go_at_call 133;refine H.mono ?_;rintro e N ⟨M,rfl,d,i⟩;obtain⟨f,C,rfl,_,_⟩:=d.form;have B:=BX (A2 d i);clear d i);go_ret;obtain⟨d,i⟩:=B.out;have E:(min (max 32 0) (x.set.length:Int)).toNat=min 32 x.set.length:=by omega
 have D:x.set.take 32=x.set.take (min 32 x.set.length):=by
  by_cases h:32<=x.set.length
  ·rw[Nat.min_eq_left h]
  ·rw[Nat.min_eq_right (by omega),List.take_length,List.take_of_length_le (by omega)]
 have J:=Zy.front (m:=min 32 x.set.length) d.runs (Nat.min_le_right _ _);have g:=d.lt;refine⟨.slice f (min (max 32 0) (x.set.length:Int)).toNat C,rfl,by rw[E,D];exact J,λb G=>?_,A.out.then i⟩;have K:=A.out.size;have L:=(g b (by cases f<;>exact G)).1;omega
def Cd (b:Nat)(l:List Qc)(i:Nat):Bool :=
 match l[i]? with
 | none=>true
 | some x=>x.s.right&&(decide (b<=x.n)&&(decide (i=0) || (match l[i-1]? with | none=>true | some y=>decide (y.n<x.n))))
def Te (b:Nat)(l:List Qc):Bool:=(Pi l.length).all (Cd b l)
theorem Tr(d:k<l.length)(h:Cd b l k=false):Te b l=false:=by unfold Te;rw[OX];exact⟨k,Pl.2 d,by rw[h];simp⟩
theorem Ap(h:∀i,i<l.length->Cd b l i=true):Te b l=true:=by unfold Te;rw[AS];exact λi hi=>h i (Pl.1 hi)
theorem ZZ(h:l[0]?=AF x):Cd b l 0=(x.s.right&&decide (b<=x.n)):=by unfold Cd;rw[h];simp
theorem ZQ(h:l[k]?=AF x)(d:l[k-1]?=AF y)(f:0<k):Cd b l k=(x.s.right&&(decide (b<=x.n)&&decide (y.n<x.n))):=by
 unfold Cd;rw[h,d];have:¬k=0:=by omega
 simp[this]
theorem Iu[bn:Ib](f:Vy)(ro:Option EK)(rc:Nat)(h:Xr base w B v l)(hl:l.length<=64)(aF:∀x∈l,x.s.body.length<=1073741824)(h1:1<=f.base)(h2:f.cum=0)(h3:f.limit=0) :
  DJ Tryz.prog 144 #[.agg (f.cells (.slice ro 0 rc) v)] w λe w'=>e=.returned (.bool (Te f.base l))/\Xy No w w':=by
 obtain⟨vo,vc,rfl,_,_⟩:=h.form;obtain⟨rb,aD⟩:∃rb,rb=Te f.base l:=⟨_,rfl⟩;rw[<- aD];have aV:(l.length:Int)<=64:=by omega
 have aU:¬((f.base:Int)<1):=by omega
 unfold Vy.cells;rw[h2,h3];obtain⟨W,hW⟩:∃W,W=w.alloc (.cells #[.int .u8 f.kind,.int .i64 f.agent,.int .u64 f.epoch,.int .u64 f.inc,.int .u64 f.base,.int .u64 0,.int .u64 0,.slice ro 0 rc,.slice vo l.length vc] 69):=⟨_,rfl⟩;have kW:Xy No w W:=by rw[hW];exact(Xy.refl _ _).alloc _
 have hA:W.heap[w.heap.size]?=AF (.cells #[.int .u8 f.kind,.int .i64 f.agent,.int .u64 f.epoch,.int .u64 f.inc,.int .u64 f.base,.int .u64 0,.int .u64 0,.slice ro 0 rc,.slice vo l.length vc] 69 (0,0)):=by rw[hW];exact Qy _ _
 have c:=λi=>Qq hA i;have c4:=c 4;have c5:=c 5;have c6:=c 6;have c7:=c 7;have c8:=c 8;simp at c4 c5 c6 c7 c8;have U:=BX (A4 (h.no kW) aF aD kW);clear h hl aF aD h1 c hA kW;go_enter Tryz.func144,Tryz.ntmps144;go_upto_region 1 with fail;rw[<- hW];clear hW;go_wp2_with fail;go_loopw [33] (λaE wr=>∃k,aE=.int .i64 (k:Nat)/\k<=l.length/\(∀i,i<k->Cd f.base l i=true)/\Xy No W wr) (λaE _=>l.length-(C0 aE).toNat);case atStart=>exact⟨0,rfl,BW _,λi hi=>absurd hi (Ts _),Xy.refl _ _⟩
 case round =>
  obtain⟨k,rfl,hk,g,O⟩:=hrel;have c4:=O.cell c4 id;have c8:=O.cell c8 id;by_cases A:k<l.length
  ·have N:l[k]?=AF l[k]:=BY A;generalize l[k]=z at N;obtain⟨gi,ui,aO,M,e0,e1,e2⟩:=(U.out.1.no O).cell N;obtain⟨uo,uc,rfl⟩:=M.form;subst aO;have aP:(k:Int)<(l.length:Int):=by omega
   have Q:=U.out.2.1 z (FB N);have C:=λ(w':AC)=>Bz (w:=w') (s:=z.s) (ao:=uo) (cap:=uc) (by omega);have T:=(Xy.refl No wr).alloc (.cells #[.int .u64 z.n,.int .i64 z.s.c,.slice uo z.s.body.length uc] 111);have Y:=Qy wr (.cells #[.int .u64 z.n,.int .i64 z.s.c,.slice uo z.s.body.length uc] 111);go_upto_region 6 with fail;generalize aN:wr.alloc (.cells #[.int .u64 z.n,.int .i64 z.s.c,.slice uo z.s.body.length uc] 111)=H at T Y⊢;clear aN;have a4:=T.cell c4 id;have a8:=T.cell c8 id;have d0:=Qq Y 0;have d1:=Qq Y 1;have d2:=Qq Y 2;simp at d0 d1 d2;have I:=O.then T;have HR:=BX (A2 (U.out.2.2.2.then I) I);cases E:z.s.right
   ·rw[E]at C;have L:Cd f.base l k=false:=by unfold Cd;rw[N];simp[E]
    obtain rfl:rb=false:=U.out.2.2.1.trans (Tr A L);clear g A N M Q T E L O hk I Y e0 e1 e2;have kd:Xy No H H.drew:=(Xy.refl _ _).drew;refine Vr (λw'=>Xy No H w') [([0,1],[2]),([3,4,5,6,7,8,9,10,11,12,13,14,15,16,17,18,19,20,21,22,23,24,25,26],[])] (by kernel_rfl) (by kernel_rfl) (λ_ _ _ _ _ h=>h) kd ?_;iterate 2(refine Qk (v:=?_) rfl rfl rfl ?_ ?_;rotate_left;focus(
     intro w' d;have V:=d.cell d1 id;have X:=d.cell d2 id;go_simp
     try with_reducible rfl))
    refine Qj (Qx rfl rfl (λK J=>?_));go_simp;refine(C _).mono ?_;rintro e w2⟨rfl,D⟩;refine J _ _ (kd.then D) ?_;clear J K;refine Qh ?_;iterate 2(refine Qk (v:=?_) rfl rfl rfl ?_ ?_;rotate_left;focus(
     intro w' d;go_simp
     try with_reducible rfl))
    iterate 5(refine Sh rfl rfl (by first|kernel_rfl|simp[AV,AW,AQ,LW]) ?_)
    iterate 2(refine Qk (v:=?_) rfl rfl rfl ?_ ?_;rotate_left;focus(
     intro w' d;go_simp
     try with_reducible rfl))
    iterate 14(refine Sh rfl rfl (by first|kernel_rfl|simp[AV,AW,AQ,LW]) ?_)
    iterate 1(refine Qk (v:=?_) rfl rfl rfl ?_ ?_;rotate_left;focus(
     intro w' d;go_simp
     try with_reducible rfl))
    refine Qj (Qh ?_);unfold Vp;have D:=kd.then D;clear kd C;show AX _ _ _ [] _ _;go_simp;go_wp2_with fail;go_ret;exact⟨rfl,HR.out.1.then D⟩
   ·rw[E]at C;by_cases hn:f.base<=z.n
    ·have aR:¬(z.n:Int)<(f.base:Int):=by omega
     by_cases Z:k=0
     ·have aI:¬(0:Int)<(k:Int):=by omega
      have aJ:¬0<k:=by omega
      have L:Cd f.base l k=true:=by subst Z;rw[ZZ N];simp[E,hn]
      have G:=BX (A2 A (show ∀i,i<k+1->Cd f.base l i=true from λi hi=>by
       rcases W0 (W8 hi)with hi|rfl
       ·exact g i hi
       ·exact L))
      clear g A N M Q T E L O hk I Y e0 e1 e2 hn Z;have kd:Xy No H H.drew:=(Xy.refl _ _).drew;refine Vr (λw'=>Xy No H w') [([0,1],[2]),([3,4,5,6,7,8,9,10,11,12,13,14,15,16,17,18,19,20,21,22,23,24,25,26],[])] (by kernel_rfl) (by kernel_rfl) (λ_ _ _ _ _ h=>h) kd ?_;iterate 2(refine Qk (v:=?_) rfl rfl rfl ?_ ?_;rotate_left;focus(
       intro w' d;have V:=d.cell d1 id;have X:=d.cell d2 id;go_simp
       try with_reducible rfl))
      refine Qj (Qx rfl rfl (λK J=>?_));go_simp;refine(C _).mono ?_;rintro e w2⟨rfl,D⟩;refine J _ _ (kd.then D) ?_;clear J K;refine Qh ?_;iterate 2(refine Qk (v:=?_) rfl rfl rfl ?_ ?_;rotate_left;focus(
       intro w' d;go_simp
       try with_reducible rfl))
      iterate 5(refine Qe (v:=?_) rfl rfl (by first|kernel_rfl|simp[AV,AW,AQ,LW]) ?_ ?_;rotate_left;focus(
       intro w' d;have P:=d.cell d0 id;have aC:=d.cell a4 id;go_simp
       try with_reducible rfl))
      iterate 2(refine Qk (v:=?_) rfl rfl rfl ?_ ?_;rotate_left;focus(
       intro w' d;go_simp
       try with_reducible rfl))
      iterate 3(refine Qe (v:=?_) rfl rfl (by first|kernel_rfl|simp[AV,AW,AQ,LW]) ?_ ?_;rotate_left;focus(
       intro w' d;go_simp
       try with_reducible rfl))
      iterate 10(refine Sh rfl rfl (by first|kernel_rfl|simp[AV,AW,AQ,LW]) ?_)
      iterate 1(refine Qe (v:=?_) rfl rfl (by first|kernel_rfl|simp[AV,AW,AQ,LW]) ?_ ?_;rotate_left;focus(
       intro w' d;go_simp
       try with_reducible rfl))
      iterate 1(refine Qk (v:=?_) rfl rfl rfl ?_ ?_;rotate_left;focus(
       intro w' d;go_simp
       try with_reducible rfl))
      refine Qj (Qh ?_);unfold Vp;have D:=kd.then D;clear kd C;show AX _ _ _ [] _ _;go_simp;go_wp2_with fail;go_roundw;case rel=>exact⟨k+1,by congr 1,G.out.1,G.out.2,HR.out.2.then D⟩
      case measure=>have:=G.out.1;simp[C0];omega
     ·have aI:(0:Int)<(k:Int):=by omega
      have aJ:0<k:=by omega
      have hm:k-1<l.length:=by omega
      have hy:l[k-1]?=AF l[k-1]:=BY hm;generalize l[k-1]=y at hy;obtain⟨gy,uy,aG,_,y0,_,_⟩:=((U.out.1.no O).no T).cell hy;simp only[PZ,Addr.mk.injEq,and_true]at aG;obtain rfl:=aG;have aS:IntKind.i64.wrap ((k:Int)-1)=((k-1:Nat):Int):=by rw[PO];omega
      have aQ:((k-1:Nat):Int)<(l.length:Int):=by omega
      have aA:=ZQ (b:=f.base) N hy (by omega);generalize aK:k-1=m at aS aQ y0;by_cases aB:y.n<z.n
      ·have aT:¬(z.n:Int)<=(y.n:Int):=by omega
       have L:Cd f.base l k=true:=by rw[aA];simp[E,hn,aB]
       have G:=BX (A2 A (show ∀i,i<k+1->Cd f.base l i=true from λi hi=>by
        rcases W0 (W8 hi)with hi|rfl
        ·exact g i hi
        ·exact L))
       clear g A N M Q T E L O hk I Y e0 e1 e2 hn Z hm hy aA aK aB;have kd:Xy No H H.drew:=(Xy.refl _ _).drew;refine Vr (λw'=>Xy No H w') [([0,1],[2]),([3,4,5,6,7,8,9,10,11,12,13,14,15,16,17,18,19,20,21,22,23,24,25,26],[])] (by kernel_rfl) (by kernel_rfl) (λ_ _ _ _ _ h=>h) kd ?_;iterate 2(refine Qk (v:=?_) rfl rfl rfl ?_ ?_;rotate_left;focus(
        intro w' d;have V:=d.cell d1 id;have X:=d.cell d2 id;go_simp
        try with_reducible rfl))
       refine Qj (Qx rfl rfl (λK J=>?_));go_simp;refine(C _).mono ?_;rintro e w2⟨rfl,D⟩;refine J _ _ (kd.then D) ?_;clear J K;refine Qh ?_;iterate 2(refine Qk (v:=?_) rfl rfl rfl ?_ ?_;rotate_left;focus(
        intro w' d;go_simp
        try with_reducible rfl))
       iterate 5(refine Qe (v:=?_) rfl rfl (by first|kernel_rfl|simp[AV,AW,AQ,LW]) ?_ ?_;rotate_left;focus(
        intro w' d;have P:=d.cell d0 id;have aC:=d.cell a4 id;go_simp
        try with_reducible rfl))
       iterate 2(refine Qk (v:=?_) rfl rfl rfl ?_ ?_;rotate_left;focus(
        intro w' d;go_simp
        try with_reducible rfl))
       iterate 3(refine Qe (v:=?_) rfl rfl (by first|kernel_rfl|simp[AV,AW,AQ,LW]) ?_ ?_;rotate_left;focus(
        intro w' d;go_simp
        try with_reducible rfl))
       iterate 10(refine Qe (v:=?_) rfl rfl (by first|kernel_rfl|simp[AV,AW,AQ,LW]) ?_ ?_;rotate_left;focus(
        intro w' d;have P:=d.cell d0 id;have aL:=d.cell a8 id;have aM:=d.cell y0 id;go_simp
        try with_reducible rfl))
       iterate 1(refine Qe (v:=?_) rfl rfl (by first|kernel_rfl|simp[AV,AW,AQ,LW]) ?_ ?_;rotate_left;focus(
        intro w' d;go_simp
        try with_reducible rfl))
       iterate 1(refine Qk (v:=?_) rfl rfl rfl ?_ ?_;rotate_left;focus(
        intro w' d;go_simp
        try with_reducible rfl))
       refine Qj (Qh ?_);unfold Vp;have D:=kd.then D;clear kd C;show AX _ _ _ [] _ _;go_simp;go_wp2_with fail;go_roundw;case rel=>exact⟨k+1,by congr 1,G.out.1,G.out.2,HR.out.2.then D⟩
       case measure=>have:=G.out.1;simp[C0];omega
      ·have aT:(z.n:Int)<=(y.n:Int):=by omega
       have L:Cd f.base l k=false:=by rw[aA];simp[aB]
       obtain rfl:rb=false:=U.out.2.2.1.trans (Tr A L);clear g A N M Q T E L O hk I Y e0 e1 e2 hn Z hm hy aA aK aB;have kd:Xy No H H.drew:=(Xy.refl _ _).drew;refine Vr (λw'=>Xy No H w') [([0,1],[2]),([3,4,5,6,7,8,9,10,11,12,13,14,15,16,17,18,19,20,21,22,23,24,25,26],[])] (by kernel_rfl) (by kernel_rfl) (λ_ _ _ _ _ h=>h) kd ?_;iterate 2(refine Qk (v:=?_) rfl rfl rfl ?_ ?_;rotate_left;focus(
        intro w' d;have V:=d.cell d1 id;have X:=d.cell d2 id;go_simp
        try with_reducible rfl))
       refine Qj (Qx rfl rfl (λK J=>?_));go_simp;refine(C _).mono ?_;rintro e w2⟨rfl,D⟩;refine J _ _ (kd.then D) ?_;clear J K;refine Qh ?_;iterate 2(refine Qk (v:=?_) rfl rfl rfl ?_ ?_;rotate_left;focus(
        intro w' d;go_simp
        try with_reducible rfl))
       iterate 5(refine Qe (v:=?_) rfl rfl (by first|kernel_rfl|simp[AV,AW,AQ,LW]) ?_ ?_;rotate_left;focus(
        intro w' d;have P:=d.cell d0 id;have aC:=d.cell a4 id;go_simp
        try with_reducible rfl))
       iterate 2(refine Qk (v:=?_) rfl rfl rfl ?_ ?_;rotate_left;focus(
        intro w' d;go_simp
        try with_reducible rfl))
       iterate 3(refine Qe (v:=?_) rfl rfl (by first|kernel_rfl|simp[AV,AW,AQ,LW]) ?_ ?_;rotate_left;focus(
        intro w' d;go_simp
        try with_reducible rfl))
       iterate 10(refine Qe (v:=?_) rfl rfl (by first|kernel_rfl|simp[AV,AW,AQ,LW]) ?_ ?_;rotate_left;focus(
        intro w' d;have P:=d.cell d0 id;have aL:=d.cell a8 id;have aM:=d.cell y0 id;go_simp
        try with_reducible rfl))
       iterate 1(refine Qe (v:=?_) rfl rfl (by first|kernel_rfl|simp[AV,AW,AQ,LW]) ?_ ?_;rotate_left;focus(
        intro w' d;go_simp
        try with_reducible rfl))
       iterate 1(refine Qk (v:=?_) rfl rfl rfl ?_ ?_;rotate_left;focus(
        intro w' d;go_simp
        try with_reducible rfl))
       refine Qj (Qh ?_);unfold Vp;have D:=kd.then D;clear kd C;show AX _ _ _ [] _ _;go_simp;go_wp2_with fail;go_ret;exact⟨rfl,HR.out.1.then D⟩
    ·have aR:(z.n:Int)<(f.base:Int):=by omega
     have L:Cd f.base l k=false:=by unfold Cd;rw[N];simp[hn]
     obtain rfl:rb=false:=U.out.2.2.1.trans (Tr A L);clear g A N M Q T E L O hk I Y e0 e1 e2 hn;have kd:Xy No H H.drew:=(Xy.refl _ _).drew;refine Vr (λw'=>Xy No H w') [([0,1],[2]),([3,4,5,6,7,8,9,10,11,12,13,14,15,16,17,18,19,20,21,22,23,24,25,26],[])] (by kernel_rfl) (by kernel_rfl) (λ_ _ _ _ _ h=>h) kd ?_;iterate 2(refine Qk (v:=?_) rfl rfl rfl ?_ ?_;rotate_left;focus(
      intro w' d;have V:=d.cell d1 id;have X:=d.cell d2 id;go_simp
      try with_reducible rfl))
     refine Qj (Qx rfl rfl (λK J=>?_));go_simp;refine(C _).mono ?_;rintro e w2⟨rfl,D⟩;refine J _ _ (kd.then D) ?_;clear J K;refine Qh ?_;iterate 2(refine Qk (v:=?_) rfl rfl rfl ?_ ?_;rotate_left;focus(
      intro w' d;go_simp
      try with_reducible rfl))
     iterate 5(refine Qe (v:=?_) rfl rfl (by first|kernel_rfl|simp[AV,AW,AQ,LW]) ?_ ?_;rotate_left;focus(
      intro w' d;have P:=d.cell d0 id;have aC:=d.cell a4 id;go_simp
      try with_reducible rfl))
     iterate 2(refine Qk (v:=?_) rfl rfl rfl ?_ ?_;rotate_left;focus(
      intro w' d;go_simp
      try with_reducible rfl))
     iterate 14(refine Sh rfl rfl (by first|kernel_rfl|simp[AV,AW,AQ,LW]) ?_)
     iterate 1(refine Qk (v:=?_) rfl rfl rfl ?_ ?_;rotate_left;focus(
      intro w' d;go_simp
      try with_reducible rfl))
     refine Qj (Qh ?_);unfold Vp;have D:=kd.then D;clear kd C;show AX _ _ _ [] _ _;go_simp;go_wp2_with fail;go_ret;exact⟨rfl,HR.out.1.then D⟩
  ·have aH:k=l.length:=by omega
   have aP:¬(k:Int)<(l.length:Int):=by omega
   rw[aH]at g;obtain rfl:rb=true:=U.out.2.2.1.trans (Ap g);have HR:=BX (U.out.2.2.2.then O);clear O g hk A aH;go_wp2_with fail;go_ret;exact⟨rfl,HR.out⟩
def Nz (f:Vy)(g d:Nat):Prop:=1<=f.base/\f.cum=0/\f.limit=0/\g=0/\d<=64
theorem Z1(w:AC)(f:Vy)(E D:Option EK)(i rc m C:Nat)(z:(i:Int)<=1099511627776)(A:(m:Int)<=1099511627776)(h:¬Nz f i m) :
  DJ Tryz.prog 144 #[.agg (f.cells (.slice E i rc) (.slice D m C))] w λe w'=>e=.returned (.bool false)/\Xy No w w':=by
 unfold Nz at h;unfold Vy.cells;by_cases d:1<=f.base
 ·have B:¬((f.base:Int)<1):=by omega
  by_cases g:f.cum=0
  ·rw[g]at h⊢;by_cases k:f.limit=0
   ·rw[k]at h⊢;by_cases n:i=0
    ·rw[n]at h⊢;have J:(64:Int)<(m:Int):=by omega
     clear h d g k n z;go_enter Tryz.func144,Tryz.ntmps144;go_wp2_with fail;go_ret;exact⟨rfl,(Xy.refl _ _).alloc _⟩
    ·have I:(0:Int)<(i:Int):=by omega
     clear h d g k n;go_enter Tryz.func144,Tryz.ntmps144;go_wp2_with fail;go_ret;exact⟨rfl,(Xy.refl _ _).alloc _⟩
   ·have H:¬(f.limit:Int)=0:=by omega
    clear h d g k;go_enter Tryz.func144,Tryz.ntmps144;go_wp2_with fail;go_ret;exact⟨rfl,(Xy.refl _ _).alloc _⟩
  ·have G:¬(f.cum:Int)=0:=by omega
   clear h d g;go_enter Tryz.func144,Tryz.ntmps144;go_wp2_with fail;go_ret;exact⟨rfl,(Xy.refl _ _).alloc _⟩
 ·have B:(f.base:Int)<1:=by omega
  clear h d;go_enter Tryz.func144,Tryz.ntmps144;go_wp2_with fail;go_ret;exact⟨rfl,(Xy.refl _ _).alloc _⟩
theorem Ak(s:ByteArray)(d f i:Nat){w:AC}{g:Nat}{cs:Array AM}(h:w.heap[g]?=AF (.cells cs 210 (0,0)))(m:(Tx s d f i).size=cs.size:=by rfl) :
  (storeCells ⟨g,0,AI⟩ (Tx s d f i).toList).run Tryz.prog w=.ok () (w.setRow g (Tx s d f i)):=by
 have:=run_storeCells_from (P:=Tryz.prog) g 210 (Tx s d f i).toList 0 cs w h (by simp[m]) (by intro v k;simp[Tx]at k;rcases k with rfl|rfl|rfl|rfl<;>rfl);simpa using this
theorem Y1(w:AC):DJ Tryz.prog 94 #[.int .u8 3] w λz w'=>∃s d f,z=.returned (.tuple #[.agg (Tx s 144 d f),.bool true])/\Xy No w w':=by go_enter Tryz.func94,Tryz.ntmps94;go_wp2_with fail;refine FC (v:=.tuple #[.agg (Tx ⟨#[98,97,116,99,104]⟩ 144 145 146),.bool true]) (Jl rfl _ _ w.heap.size 210 (Tx ⟨#[98,97,116,99,104]⟩ 144 145 146) (0,0) _ _ rfl rfl (Qy _ _) Tryz.underlying210 rfl (Do _ _ _ _)) rfl ⟨_,_,_,rfl,(Xy.refl _ _).alloc _⟩
theorem La(w:AC)(s:ByteArray):DJ Tryz.prog 137 #[.string s] w λz w'=>z=.returned (.agg (Tx s 138 139 140))/\Xy No w w':=by go_enter Tryz.func137,Tryz.ntmps137;go_wp2_with fail;refine FC (v:=.agg (Tx s 138 139 140)) (by unfold Tx;simp[results,Tryz.results137,go_sem]) rfl ⟨rfl,(Xy.refl _ _).alloc _⟩
theorem Y0(w:AC):DJ Tryz.prog 94 #[.int .u8 2] w λz w'=>∃s n A,z=.returned (.tuple #[.agg (Tx s 138 n A),.bool true])/\Xy No w w':=by have h:=Qy w (.cells #[.string ⟨#[]⟩,.nilFunc,.nilFunc,.nilFunc] 210);have m:=BX h;clear h;go_enter Tryz.func94,Tryz.ntmps94;go_wp2_with(go_at_call 137;refine(La _ _).mono ?_;rintro z k ⟨rfl,i⟩;have d:=i.heap m.out id;have B:=Ak ⟨#[119,101,108,99,111,109,101]⟩ 138 139 140 d;have f:=BX d;clear d);have d:=f.out;have g:=setRow_heap k w.heap.size _ (Tx ⟨#[119,101,108,99,111,109,101]⟩ 138 139 140) _ _ d;refine FC (v:=.tuple #[.agg (Tx ⟨#[119,101,108,99,111,109,101]⟩ 138 139 140),.bool true]) (Jl rfl _ _ w.heap.size 210 (Tx ⟨#[119,101,108,99,111,109,101]⟩ 138 139 140) (0,0) _ _ rfl rfl g Tryz.underlying210 rfl (Do _ _ _ _)) rfl ⟨_,_,_,rfl,?_⟩;exact(((Xy.refl No w).alloc _).then i).absorb (Zi k w.heap.size _) (λb e=>by have e:b=w.heap.size:=e;omega)
theorem Y2(w:AC):DJ Tryz.prog 94 #[.int .u8 4] w λz w'=>∃s n A,z=.returned (.tuple #[.agg (Tx s 138 n A),.bool true])/\Xy No w w':=by have h:=Qy w (.cells #[.string ⟨#[]⟩,.nilFunc,.nilFunc,.nilFunc] 210);have m:=BX h;clear h;go_enter Tryz.func94,Tryz.ntmps94;go_wp2_with(go_at_call 137;refine(La _ _).mono ?_;rintro z k ⟨rfl,i⟩;have d:=i.heap m.out id;have B:=Ak ⟨#[97,99,107]⟩ 138 139 140 d;have f:=BX d;clear d);have d:=f.out;have g:=setRow_heap k w.heap.size _ (Tx ⟨#[97,99,107]⟩ 138 139 140) _ _ d;refine FC (v:=.tuple #[.agg (Tx ⟨#[97,99,107]⟩ 138 139 140),.bool true]) (Jl rfl _ _ w.heap.size 210 (Tx ⟨#[97,99,107]⟩ 138 139 140) (0,0) _ _ rfl rfl g Tryz.underlying210 rfl (Do _ _ _ _)) rfl ⟨_,_,_,rfl,?_⟩;exact(((Xy.refl No w).alloc _).then i).absorb (Zi k w.heap.size _) (λb e=>by have e:b=w.heap.size:=e;omega)
theorem Si{w:AC}(f:Vy)(h:w.heap[g]?=AF (.cells (f.cells d iv) 69 (0,0))) :
  w.cell? ⟨g,0,AI⟩=AF (.int .u8 f.kind)/\w.cell? ⟨g,1,AI⟩=AF (.int .i64 f.agent)/\w.cell? ⟨g,2,AI⟩=AF (.int .u64 f.epoch)/\w.cell? ⟨g,3,AI⟩=AF (.int .u64 f.inc)/\w.cell? ⟨g,4,AI⟩=AF (.int .u64 f.base)/\w.cell? ⟨g,5,AI⟩=AF (.int .u64 f.cum)/\w.cell? ⟨g,6,AI⟩=AF (.int .u64 f.limit)/\w.cell? ⟨g,7,AI⟩=AF d/\w.cell? ⟨g,8,AI⟩=AF iv :=
 ⟨Qq h 0,Qq h 1,Qq h 2,Qq h 3,Qq h 4,Qq h 5,Qq h 6,Qq h 7,Qq h 8⟩
def SA (k g:Nat):Prop:=∀X,DJ Tryz.prog 94 #[.int .u8 k] X λz w'=>∃s d f,z=.returned (.tuple #[.agg (Tx s g d f),.bool true])/\Xy No X w'
def Tl (f:Vy):Prop:=0<=f.agent/\f.agent<16/\1<=f.epoch
theorem Da(f:Vy){g:Nat}(eg:∀args w,(callFunc g args).run Tryz.prog w=.ok (.enter g args) w)(k:SA f.kind g)(w:AC)(E C:Option EK)(D rc d B:Nat)(hd:Tl f)(i:∀X,Xy No w X->DJ Tryz.prog g #[.agg (f.cells (.slice E D rc) (.slice C d B))] X λz w'=>z=.returned (.bool r)/\Xy No X w') :
  DJ Tryz.prog 46 #[.agg (f.cells (.slice E D rc) (.slice C d B))] w λz w'=>z=.returned (.bool r)/\Xy No w w':=by
 obtain⟨W,h⟩:∃W,W=w.alloc (.cells (f.cells (.slice E D rc) (.slice C d B)) 69):=⟨_,rfl⟩;have M:Xy No w W:=by rw[h];exact(Xy.refl _ _).alloc _
 have H:W.heap[w.heap.size]?=AF (.cells (f.cells (.slice E D rc) (.slice C d B)) 69 (0,0)):=by rw[h];exact Qy _ _
 obtain⟨O,P,Q,T,U,V,Y,Z,c8⟩:=Si f H;obtain⟨aA,ha,he⟩:=hd;have he:(1:Int)<=(f.epoch:Int):=by omega
 have m:=BX (A4 M H k i);clear H M k i;unfold Vy.cells at h⊢;go_enter Tryz.func46,Tryz.ntmps46;go_upto_region 1 with fail;rw[<- h];clear h;go_upto_region 2 with(go_at_call 94;refine(m.out.qc _).mono ?_;rintro z G ⟨s,n,A,rfl,L⟩;unfold Tx);have I:=L.alloc (.cells #[.string s,.func (.func g) #[] #[],.func (.func n) #[] #[],.func (.func A) #[] #[]] 210);have hF:=Qy G (.cells #[.string s,.func (.func g) #[] #[],.func (.func n) #[] #[],.func (.func A) #[] #[]] 210);have d1:(G.alloc (.cells #[.string s,.func (.func g) #[] #[],.func (.func n) #[] #[],.func (.func A) #[] #[]] 210)).cell? ⟨G.heap.size,1,AI⟩=AF (.func (.func g) #[] #[]):=(Qq hF 1).trans rfl;obtain⟨O,P,Q,T,U,V,Y,Z,c8⟩:=Si f (I.heap m.out.2.1 id);have J:=BX (m.out.1.then I);clear L I hF;generalize G.alloc (.cells #[.string s,.func (.func g) #[] #[],.func (.func n) #[] #[],.func (.func A) #[] #[]] 210)=N at *;have K:=m.out.2.2.2 N J.out;unfold Vy.cells at K;go_wp2_with(with_reducible refine K.mono ?_;rintro z w3 ⟨rfl,k3⟩);go_ret;exact⟨rfl,J.out.then k3⟩
theorem Cr(f:Vy)(k:SA f.kind g)(w:AC)(J G:Option EK)(I rc d E:Nat)(i:¬Tl f) :
  DJ Tryz.prog 46 #[.agg (f.cells (.slice J I rc) (.slice G d E))] w λz w'=>z=.returned (.bool false)/\Xy No w w':=by
 obtain⟨W,h⟩:∃W,W=w.alloc (.cells (f.cells (.slice J I rc) (.slice G d E)) 69):=⟨_,rfl⟩;have L:Xy No w W:=by rw[h];exact(Xy.refl _ _).alloc _
 have D:W.heap[w.heap.size]?=AF (.cells (f.cells (.slice J I rc) (.slice G d E)) 69 (0,0)):=by rw[h];exact Qy _ _
 obtain⟨M,N,O,P,Q,T,U,V,X⟩:=Si f D;have C:=BX (A3 L D k);clear D L k;unfold Vy.cells at h⊢;go_enter Tryz.func46,Tryz.ntmps46;go_upto_region 1 with fail;rw[<- h];clear h;go_upto_region 2 with(go_at_call 94;refine(C.out.2.2 _).mono ?_;rintro z A ⟨s,m,n,rfl,K⟩;unfold Tx);have H:=K.alloc (.cells #[.string s,.func (.func g) #[] #[],.func (.func m) #[] #[],.func (.func n) #[] #[]] 210);have hF:=Qy A (.cells #[.string s,.func (.func g) #[] #[],.func (.func m) #[] #[],.func (.func n) #[] #[]] 210);have d1:(A.alloc (.cells #[.string s,.func (.func g) #[] #[],.func (.func m) #[] #[],.func (.func n) #[] #[]] 210)).cell? ⟨A.heap.size,1,AI⟩=AF (.func (.func g) #[] #[]):=(Qq hF 1).trans rfl;obtain⟨M,N,O,P,Q,T,U,V,X⟩:=Si f (H.heap C.out.2.1 id);have B:=BX (C.out.1.then H);clear K H hF;generalize A.alloc (.cells #[.string s,.func (.func g) #[] #[],.func (.func m) #[] #[],.func (.func n) #[] #[]] 210)=W2 at *;unfold Tl at i;by_cases Y:0<=f.agent
 ·by_cases Z:f.agent<16
  ·have h3:¬(1:Int)<=(f.epoch:Int):=λx=>i ⟨Y,Z,by omega⟩;clear i;go_wp2_with fail;go_ret;exact⟨rfl,B.out⟩
  ·clear i;go_wp2_with fail;go_ret;exact⟨rfl,B.out⟩
 ·clear i;go_wp2_with fail;go_ret;exact⟨rfl,B.out⟩
def Fv (l:List Xc)(i:Nat):Bool :=
 match l[i]? with
 | none=>true
 | some r=>decide (r.1<=r.2)&&(decide (i=0) || (match l[i-1]? with | none=>true | some q=>decide (r.1≠0)&&decide (q.2<r.1-1)))
def Nq (l:List Xc):Bool:=(Pi l.length).all (Fv l)
theorem Dm(d:k<l.length)(h:Fv l k=false):Nq l=false:=by unfold Nq;rw[OX];exact⟨k,Pl.2 d,by rw[h];simp⟩
theorem Aw(h:∀i,i<l.length->Fv l i=true):Nq l=true:=by unfold Nq;rw[AS];exact λi hi=>h i (Pl.1 hi)
theorem ZY(h:l[0]?=AF r):Fv l 0=decide (r.1<=r.2):=by unfold Fv;rw[h];simp
theorem ZX(h:l[k]?=AF r)(d:l[k-1]?=AF q)(f:0<k):Fv l k=(decide (r.1<=r.2)&&(decide (r.1≠0)&&decide (q.2<r.1-1))):=by
 unfold Fv;rw[h,d];have:¬k=0:=by omega
 simp[this]
def ME (w:AC)(l:List Xc)(d:Bool)(e:Ending)(w':AC):Prop:=∃g sn f,e=.returned (.tuple #[.agg #[.slice g sn f],.bool d])/\(d=true->Hl w' w.heap.size (.slice g sn f) l)/\Xy No w w'
theorem UU(h:Sa w v l)(hl:l.length<=1048576)(hb:∀r∈l,r.1<18446744073709551616) :
  DJ Tryz.prog 189 #[v] w (ME w l (Nq l)):=by
 obtain⟨ao,cap,rfl,_,_⟩:=h.form;obtain⟨rb,B⟩:∃rb,rb=Nq l:=⟨_,rfl⟩;rw[<- B];have aM:(l.length:Int)<=1048576:=by omega
 have V:=BX (A3 h hb B);clear h hb B hl;go_enter Tryz.func189,Tryz.ntmps189;go_wp2_with fail;go_loopw [8] (λv8 wr=>∃k,v8=.int .i64 (k:Nat)/\k<=l.length/\(∀i,i<k->Fv l i=true)/\wr.heap[w.heap.size]?=AF (.cells #[.slice AI 0 0] 90 (0,0))/\Xy No w wr) (λv8 _=>l.length-(C0 v8).toNat);case atStart=>exact⟨0,rfl,BW _,λi hi=>absurd hi (Ts _),Qy _ _,(Xy.refl _ _).alloc _⟩
 case round =>
  obtain⟨k,rfl,hk,f,d,O⟩:=hrel;by_cases A:k<l.length
  ·have I:l≠[]:=by intro e;rw[e]at A;simp at A
   obtain⟨g,o,aH,hr⟩:=(V.out.1.no O).row I;subst aH;have L:l[k]?=AF l[k]:=BY A;generalize l[k]=r at L;have B:=V.out.2.1 r (FB L);obtain⟨e0,e1⟩:=hr k r L;have HC:=BX hr;clear hr;have aI:(k:Int)<(l.length:Int):=by omega
   have Q:=(Xy.refl No wr).alloc (.cells #[.int .u64 r.1,.int .u64 r.2] 96);have hD:=Qy wr (.cells #[.int .u64 r.1,.int .u64 r.2] 96);have J:=Q.heap d id;have HS:=BX d;clear d;go_upto_region 4 with fail;generalize aF:wr.alloc (.cells #[.int .u64 r.1,.int .u64 r.2] 96)=D at Q hD J⊢;clear aF;have d0:=Qq hD 0;have d1:=Qq hD 1;have s0:=Qq J 0;simp at d0 d1 s0;have N:=Qg J 0;have M:=BX (A3 J (O.then Q) (Qt HS.out));clear J hD;by_cases T:r.1<=r.2
   ·have i1:¬(r.2:Int)<(r.1:Int):=by omega
    by_cases K:k=0
    ·have aC:¬(0:Int)<(k:Int):=by omega
     have U:¬0<k:=by omega
     have H:Fv l k=true:=by subst K;rw[ZY L];simp[T]
     have C:=BX (A2 A (show ∀i,i<k+1->Fv l i=true from λi hi=>by
      rcases W0 (W8 hi)with hi|rfl
      ·exact f i hi
      ·exact H))
     clear f L hk T B e0 e1 I H Q O N K;have kd:Xy No D D.drew:=(Xy.refl _ _).drew;refine Vr (λw'=>Xy No D w') [([0,1,2,3,4,5,6,7,8,9,10,11,12,13,14,15,16,17,18,19,20,21,22,23,24,25],[])] (by kernel_rfl) (by kernel_rfl) (λ_ _ _ _ _ h=>h) kd ?_;iterate 6(refine Qk (v:=?_) rfl rfl rfl ?_ ?_;rotate_left;focus(
      intro w' d;have z:=d.cell d0 id;have P:=d.cell d1 id;go_simp
      try with_reducible rfl))
     iterate 3(refine Qe (v:=?_) rfl rfl (by first|kernel_rfl|simp[AV,AW,AQ,LW]) ?_ ?_;rotate_left;focus(
      intro w' d;go_simp
      try with_reducible rfl))
     iterate 15(refine Sh rfl rfl (by first|kernel_rfl|simp[AV,AW,AQ,LW]) ?_)
     iterate 1(refine Qe (v:=?_) rfl rfl (by first|kernel_rfl|simp[AV,AW,AQ,LW]) ?_ ?_;rotate_left;focus(
      intro w' d;go_simp
      try with_reducible rfl))
     iterate 1(refine Qk (v:=?_) rfl rfl rfl ?_ ?_;rotate_left;focus(
      intro w' d;go_simp
      try with_reducible rfl))
     refine Qj (Qh ?_);unfold Vp;show AX _ _ _ [] _ _;have s0:=kd.cell s0 id;have n:=kd.heap M.out.1 id;have N:=Qg n 0;go_simp;go_wp2_with fail;have W:=BX n;go_roundw;case rel=>exact⟨k+1,by congr 1,C.out.1,C.out.2,W.out,M.out.2.1.then kd⟩
     case measure=>have:=C.out.1;simp[C0];omega
    ·have aC:(0:Int)<(k:Int):=by omega
     have U:0<k:=by omega
     have hm:k-1<l.length:=by omega
     have hy:l[k-1]?=AF l[k-1]:=BY hm;generalize l[k-1]=q at hy;have E:=ZX L hy U;by_cases h2:r.1=0
     ·have i2:(r.1:Int)=0:=by omega
      have aN:¬(r.2:Int)<0:=by omega
      have H:Fv l k=false:=by rw[E];simp[h2]
      obtain rfl:rb=false:=V.out.2.2.trans (Dm A H);clear f L hk T B e0 e1 I H Q O N K hm hy E h2;have kd:Xy No D D.drew:=(Xy.refl _ _).drew;refine Vr (λw'=>Xy No D w') [([0,1,2,3,4,5,6,7,8,9,10,11,12,13,14,15,16,17,18,19,20,21,22,23,24,25],[])] (by kernel_rfl) (by kernel_rfl) (λ_ _ _ _ _ h=>h) kd ?_;iterate 6(refine Qk (v:=?_) rfl rfl rfl ?_ ?_;rotate_left;focus(
       intro w' d;have z:=d.cell d0 id;have P:=d.cell d1 id;go_simp
       try with_reducible rfl))
      iterate 3(refine Qe (v:=?_) rfl rfl (by first|kernel_rfl|simp[AV,AW,AQ,LW]) ?_ ?_;rotate_left;focus(
       intro w' d;go_simp
       try with_reducible rfl))
      iterate 4(refine Qe (v:=?_) rfl rfl (by first|kernel_rfl|simp[AV,AW,AQ,LW]) ?_ ?_;rotate_left;focus(
       intro w' d;have z:=d.cell d0 id;go_simp
       try with_reducible rfl))
      iterate 10(refine Sh rfl rfl (by first|kernel_rfl|simp[AV,AW,AQ,LW]) ?_)
      iterate 2(refine Qe (v:=?_) rfl rfl (by first|kernel_rfl|simp[AV,AW,AQ,LW]) ?_ ?_;rotate_left;focus(
       intro w' d;go_simp
       try with_reducible rfl))
      iterate 1(refine Qk (v:=?_) rfl rfl rfl ?_ ?_;rotate_left;focus(
       intro w' d;go_simp
       try with_reducible rfl))
      refine Qj (Qh ?_);unfold Vp;show AX _ _ _ [] _ _;have s0:=kd.cell s0 id;have n:=kd.heap M.out.1 id;have N:=Qg n 0;go_simp;go_wp2_with fail;have G:=Qz (i:=0) (u:=.slice AI 0 0) n;refine FC (v:=.tuple #[.agg #[.slice AI 0 0],.bool false]) (Jl rfl _ _ w.heap.size 90 #[.slice AI 0 0] (0,0) _ _ rfl rfl G Tryz.underlying90 rfl (by kernel_rfl)) rfl ⟨_,_,_,rfl,λe=>by simp at e,?_⟩;exact Xy.setCell (M.out.2.1.then kd) (.inr (BE _)) _
     ·have i2:¬(r.1:Int)=0:=by omega
      have aO:((r.1:Int)==0)=false:=by simp;exact h2
      have y0:=Q.cell (HC.out (k-1) q hy).2 id;have aK:IntKind.i64.wrap ((k:Int)-1)=((k-1:Nat):Int):=by rw[PO];omega
      have aL:IntKind.u64.wrap ((r.1:Int)-1)=((r.1-1:Nat):Int):=by rw[IntKind.wrap_u64];omega
      have aJ:((k-1:Nat):Int)<(l.length:Int):=by omega
      generalize aD:k-1=m at aK aJ y0;generalize Y:r.1-1=rm at aL;rw[Y]at E;by_cases h3:q.2<rm
      ·have i3:¬(rm:Int)<=(q.2:Int):=by omega
       have H:Fv l k=true:=by rw[E];simp[T,h2,h3]
       have C:=BX (A2 A (show ∀i,i<k+1->Fv l i=true from λi hi=>by
        rcases W0 (W8 hi)with hi|rfl
        ·exact f i hi
        ·exact H))
       clear f L hk T B e0 e1 I H Q O N K hm hy E aD Y h3;have kd:Xy No D D.drew:=(Xy.refl _ _).drew;refine Vr (λw'=>Xy No D w') [([0,1,2,3,4,5,6,7,8,9,10,11,12,13,14,15,16,17,18,19,20,21,22,23,24,25],[])] (by kernel_rfl) (by kernel_rfl) (λ_ _ _ _ _ h=>h) kd ?_;iterate 6(refine Qk (v:=?_) rfl rfl rfl ?_ ?_;rotate_left;focus(
        intro w' d;have z:=d.cell d0 id;have P:=d.cell d1 id;go_simp
        try with_reducible rfl))
       iterate 3(refine Qe (v:=?_) rfl rfl (by first|kernel_rfl|simp[AV,AW,AQ,LW]) ?_ ?_;rotate_left;focus(
        intro w' d;go_simp
        try with_reducible rfl))
       iterate 4(refine Qe (v:=?_) rfl rfl (by first|kernel_rfl|simp[AV,AW,AQ,LW]) ?_ ?_;rotate_left;focus(
        intro w' d;have z:=d.cell d0 id;go_simp
        try with_reducible rfl))
       iterate 10(refine Qe (v:=?_) rfl rfl (by first|kernel_rfl|simp[AV,AW,AQ,LW]) ?_ ?_;rotate_left;focus(
        intro w' d;have z:=d.cell d0 id;have aE:=d.cell y0 id;go_simp
        try with_reducible rfl))
       iterate 2(refine Qe (v:=?_) rfl rfl (by first|kernel_rfl|simp[AV,AW,AQ,LW]) ?_ ?_;rotate_left;focus(
        intro w' d;go_simp
        try with_reducible rfl))
       iterate 1(refine Qk (v:=?_) rfl rfl rfl ?_ ?_;rotate_left;focus(
        intro w' d;go_simp
        try with_reducible rfl))
       refine Qj (Qh ?_);unfold Vp;show AX _ _ _ [] _ _;have s0:=kd.cell s0 id;have n:=kd.heap M.out.1 id;have N:=Qg n 0;go_simp;go_wp2_with fail;have W:=BX n;go_roundw;case rel=>exact⟨k+1,by congr 1,C.out.1,C.out.2,W.out,M.out.2.1.then kd⟩
       case measure=>have:=C.out.1;simp[C0];omega
      ·have i3:(rm:Int)<=(q.2:Int):=by omega
       have H:Fv l k=false:=by rw[E];simp[h3]
       obtain rfl:rb=false:=V.out.2.2.trans (Dm A H);clear f L hk T B e0 e1 I H Q O N K hm hy E aD Y h3;have kd:Xy No D D.drew:=(Xy.refl _ _).drew;refine Vr (λw'=>Xy No D w') [([0,1,2,3,4,5,6,7,8,9,10,11,12,13,14,15,16,17,18,19,20,21,22,23,24,25],[])] (by kernel_rfl) (by kernel_rfl) (λ_ _ _ _ _ h=>h) kd ?_;iterate 6(refine Qk (v:=?_) rfl rfl rfl ?_ ?_;rotate_left;focus(
        intro w' d;have z:=d.cell d0 id;have P:=d.cell d1 id;go_simp
        try with_reducible rfl))
       iterate 3(refine Qe (v:=?_) rfl rfl (by first|kernel_rfl|simp[AV,AW,AQ,LW]) ?_ ?_;rotate_left;focus(
        intro w' d;go_simp
        try with_reducible rfl))
       iterate 4(refine Qe (v:=?_) rfl rfl (by first|kernel_rfl|simp[AV,AW,AQ,LW]) ?_ ?_;rotate_left;focus(
        intro w' d;have z:=d.cell d0 id;go_simp
        try with_reducible rfl))
       iterate 10(refine Qe (v:=?_) rfl rfl (by first|kernel_rfl|simp[AV,AW,AQ,LW]) ?_ ?_;rotate_left;focus(
        intro w' d;have z:=d.cell d0 id;have aE:=d.cell y0 id;go_simp
        try with_reducible rfl))
       iterate 2(refine Qe (v:=?_) rfl rfl (by first|kernel_rfl|simp[AV,AW,AQ,LW]) ?_ ?_;rotate_left;focus(
        intro w' d;go_simp
        try with_reducible rfl))
       iterate 1(refine Qk (v:=?_) rfl rfl rfl ?_ ?_;rotate_left;focus(
        intro w' d;go_simp
        try with_reducible rfl))
       refine Qj (Qh ?_);unfold Vp;show AX _ _ _ [] _ _;have s0:=kd.cell s0 id;have n:=kd.heap M.out.1 id;have N:=Qg n 0;go_simp;go_wp2_with fail;have G:=Qz (i:=0) (u:=.slice AI 0 0) n;refine FC (v:=.tuple #[.agg #[.slice AI 0 0],.bool false]) (Jl rfl _ _ w.heap.size 90 #[.slice AI 0 0] (0,0) _ _ rfl rfl G Tryz.underlying90 rfl (by kernel_rfl)) rfl ⟨_,_,_,rfl,λe=>by simp at e,?_⟩;exact Xy.setCell (M.out.2.1.then kd) (.inr (BE _)) _
   ·have i1:(r.2:Int)<(r.1:Int):=by omega
    have H:Fv l k=false:=by unfold Fv;rw[L];simp[T]
    obtain rfl:rb=false:=V.out.2.2.trans (Dm A H);clear f L hk T B e0 e1 I H Q O N;have kd:Xy No D D.drew:=(Xy.refl _ _).drew;refine Vr (λw'=>Xy No D w') [([0,1,2,3,4,5,6,7,8,9,10,11,12,13,14,15,16,17,18,19,20,21,22,23,24,25],[])] (by kernel_rfl) (by kernel_rfl) (λ_ _ _ _ _ h=>h) kd ?_;iterate 6(refine Qk (v:=?_) rfl rfl rfl ?_ ?_;rotate_left;focus(
     intro w' d;have z:=d.cell d0 id;have P:=d.cell d1 id;go_simp
     try with_reducible rfl))
    iterate 19(refine Sh rfl rfl (by first|kernel_rfl|simp[AV,AW,AQ,LW]) ?_)
    iterate 1(refine Qk (v:=?_) rfl rfl rfl ?_ ?_;rotate_left;focus(
     intro w' d;go_simp
     try with_reducible rfl))
    refine Qj (Qh ?_);unfold Vp;show AX _ _ _ [] _ _;have s0:=kd.cell s0 id;have n:=kd.heap M.out.1 id;have N:=Qg n 0;go_simp;go_wp2_with fail;have G:=Qz (i:=0) (u:=.slice AI 0 0) n;refine FC (v:=.tuple #[.agg #[.slice AI 0 0],.bool false]) (Jl rfl _ _ w.heap.size 90 #[.slice AI 0 0] (0,0) _ _ rfl rfl G Tryz.underlying90 rfl (by kernel_rfl)) rfl ⟨_,_,_,rfl,λe=>by simp at e,?_⟩;exact Xy.setCell (M.out.2.1.then kd) (.inr (BE _)) _
  ·have aB:k=l.length:=by omega
   have aI:¬(k:Int)<(l.length:Int):=by omega
   rw[aB]at f;obtain rfl:rb=true:=V.out.2.2.trans (Aw f);have aG:=λ(X:AC) (hX:Sa X (.slice ao l.length cap) l)=>Dg hX (by omega);have hA:=V.out.1.no O;have HS:=BX (A2 d O);have s0:=Qq d 0;simp at s0;clear d O f hk A aB;go_wp2_with(go_at_call 185;refine(aG _ hA).mono ?_;rintro e w2 ⟨v2,rfl,aA,k2⟩;obtain⟨vo,vc,rfl,_,_⟩:=aA.form;have HV:=BX aA;clear aA;have Z:=k2.heap HS.out.1 id;have s2:=Qq Z 0;have f2:=Qg Z 0;simp at s2);have G:=Qz (i:=0) (u:=.slice vo l.length vc) Z;refine FC (v:=.tuple #[.agg #[.slice vo l.length vc],.bool true]) (Jl rfl _ _ w.heap.size 90 #[.slice vo l.length vc] (0,0) _ _ rfl rfl G Tryz.underlying90 rfl (by kernel_rfl)) rfl ⟨_,_,_,rfl,λ_=>?_,?_⟩
   ·exact Hl.keep (F:=(·=w.heap.size)) (Hl.mono HV.out HS.out.2.size) (Xy.setCell (F:=(·=w.heap.size)) (Xy.refl _ w2) (.inl rfl) _) (λb e x=>by have h:=(HV.out.lt b e).1;have:=Qt HS.out.1;have x:b=w.heap.size:=x;omega)
   ·exact Xy.setCell (HS.out.2.then k2) (.inr (BE _)) _
end Go.Proofs.YtfdmbomlkpkegaaGreat
