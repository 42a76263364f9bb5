/- Lemmas. -/
import Derived.Test.YtfdmbomlkpkegaaGreatS1
set_option maxRecDepth 100000
set_option maxHeartbeats 8000000
set_option linter.all false
set_option autoImplicit true
set_option relaxedAutoImplicit true
open Go renaming Calls->DJ,Value->AM,World->AC,maxLen->BH
open Go.Builtin renaming max2->DT,max_->DS,min2->DR,min_->DQ
open Go.Callee renaming builtin->BP
open Go.Extern.MapsClone renaming clone->DL
open Go.Lib renaming hid->BX
open Go.Proofs renaming run_typeAssert_map_sl->DM
open Go.Result renaming andThen->BS
open Go.Value renaming ownBlock->DK,slice->DN
open List renaming eq_nil_of_length_eq_zero->BJ,find?_cons->C5,getElem?_append_left->DO,getElem?_append_right->DP,getElem?_eq_getElem->BY,getElem?_eq_none_iff->DV,getElem?_eq_some_iff->BK,take_of_length_le->DU
open Nat renaming add_assoc->AU,le_trans->BF
open Option renaming none->AI,some->AF
namespace Go.Proofs.YtfdmbomlkpkegaaGreat
open Go Go.RowKit Go.Dr
structure Qf where
 seg:Int
 p:Qs
 drop:Bool
def Qf.done (c:Qf)(m:Kk):Kk:=if c.drop then Cx m c.seg else Na m c.seg ((Uu m c.seg).getD []++c.p)
theorem Wg[bn:Ib]{base:Nat}{w:AC}{r:Nat}{m:Kk}{u:AM}(c:Qf)(h:Xm base w r m)(S:base<=r)(Q:Qv base w u c.p)(X:((Uu m c.seg).getD []).length+c.p.length<=17592186044416) :
  DJ Tryz.prog 53 #[.agg #[.int .u64 c.seg,u,.bool c.drop],.map (AF r)] w λe D=>e=.returned (.tuple #[])/\Xm base D r (c.done m)/\Xy (·=r) w D:=by
 obtain⟨seg,p,drop⟩:=c;simp only at Q X⊢;obtain⟨A,z,rfl⟩:=Q.form;have Y:=h.lt;cases drop with
 | true =>
  have B:Xy No w (w.alloc (.cells #[.int .u64 seg,.slice A p.length z,.bool true] 137)):=(Xy.refl _ _).alloc _;have d:=h.keep (Uz.no _ _) B id;obtain⟨w2,G,o,j⟩:=N7 d S seg;go_enter Tryz.func53,Tryz.ntmps53;go_wp2;refine bodyPost_ret (results_none rfl _ _ _) rfl ?_;exact⟨rfl,by simpa[Qf.done]using o,B.no.trans j (λ_ _ h=>h)⟩
 | false =>
  have B:Xy No w (w.alloc (.cells #[.int .u64 seg,.slice A p.length z,.bool false] 137)):=(Xy.refl _ _).alloc _;have d:=h.keep (Uz.no _ _) B id;have q:=Q.no B;have g:=Qy w (.cells #[.int .u64 seg,.slice A p.length z,.bool false] 137);obtain⟨v0,n,f⟩:=Oh d seg;obtain⟨J,I,rfl⟩:=n.form;obtain⟨W,N⟩:∃W,W=w.alloc (.cells #[.int .u64 seg,.slice A p.length z,.bool false] 137):=⟨_,rfl⟩;go_enter Tryz.func53,Tryz.ntmps53;go_wp2;rw[<- N]at B d q g n f⊢;have V:w.heap.size<W.heap.size:=by rw[N];simp
  clear N;refine Ql (λD=>Xy No W D) [0,1,2,3,4,5,6,7,8] [9,10] [11] (by kernel_rfl) (by kernel_rfl) (λ_ _ _ _ _ h=>h) (Xy.refl _ _).drew ?_;iterate 9(refine Qk (v:=?_) rfl rfl rfl ?_ ?_;rotate_left;focus(
   intro D L;have Z:=L.cell (p:=⟨w.heap.size,0,AI⟩) (Qq g 0) id;have c1:=L.cell (p:=⟨w.heap.size,1,AI⟩) (Qq g 1) id;have hl:=(f D (L.block r d.lt id)).1;go_simp
   try with_reducible rfl))
  refine Qj ?_;have j:Xy No W (W.alloc (.cells #[.slice J ((Uu m seg).getD []).length I,.slice A p.length z] 59)).drew:=((Xy.refl _ _).alloc _).drew;have H:Zb base (W.alloc (.cells #[.slice J ((Uu m seg).getD []).length I,.slice A p.length z] 59)).drew (.slice (AF ⟨W.heap.size,0,AI⟩) 2 2) [(Uu m seg).getD [],p] :=
   Zb.of_block (cs:=#[.slice J ((Uu m seg).getD []).length I,.slice A p.length z]) (Qy W _) [(Uu m seg).getD [],p] rfl (by simp[BH]) (λi u' l d o=>by
    match i,d,o with
    | 0,d,o=>simp at d o;subst d o;exact n.no ((Xy.refl _ _).alloc _)
    | 1,d,o=>simp at d o;subst d o;exact q.no ((Xy.refl _ _).alloc _))
  refine Qx rfl rfl (λK E=>?_);go_simp;refine E _ _ j ?_;clear E K;refine Qx rfl rfl (λK E=>?_);go_simp;have M:[(Uu m seg).getD [],p].flatten≠[]->ban.top<=(W.alloc (.cells #[.slice J ((Uu m seg).getD []).length I,.slice A p.length z] 59)).drew.heap.size:=by
   intro P;have d:ban.top<=W.heap.size:=by
    by_cases R:(Uu m seg).getD []=[]
    ·exact q.top (λT=>P (by simp[R,T]))
    ·exact n.top R
   exact BF d j.size
  refine(Ev H (by simp;omega)).mono ?_;rintro e w3⟨v3,rfl,k,C⟩;simp only[];refine E _ _ (j.then C) ?_;clear E K;refine Qh (Qu rfl (Qm ?_));have F:=j.then C;obtain⟨w4,G,U,O⟩:=SQ (d.keep (Uz.no _ _) F id) S seg (k.bytes (base:=base) M);clear f k C H g n q d;go_wp2
  go_end0
  refine⟨rfl,?_,(B.then F).no.trans O (λ_ _ h=>h)⟩;simpa[Qf.done]using U
structure Qr where
 room:Int
 full:Bool
 now:Kk
 safe:Kk
 wait:List Qf
def Zx:List Qf->List AM->List AM
 | c::l,u::us=>.int .u64 c.seg::u :: .bool c.drop::Zx l us
 | _,_=>[]
def Yj [bn:Ib](base:Nat)(w:AC)(wv:AM)(l:List Qf):Prop :=
 ∃us:List AM,us.length=l.length/\(∀(i:Nat) u c,us[i]?=AF u->l[i]?=AF c->Qv base w u c.p)/\w.ownsRow base 137 3 wv l.length (Zx l us)
structure Qo [bn:Ib](base:Nat)(w:AC)(p n s:Nat)(wv:AM)(d:Qr):Prop where
 blk:w.heap[p]?=AF (.cells #[.int .i64 d.room,.bool d.full,.map (AF n),.map (AF s),wv] 135 (0,0))
 now:Xm base w n d.now
 safe:Xm base w s d.safe
 wait:Yj base w wv d.wait
 pb:base<=p
 nb:base<=n
 sb:base<=s
 ns:n≠s
def foot (p n s:Nat)(wv:AM):Nat->Prop:=λb=>b=p\/b=n\/b=s\/wv.ownBlock=AF b
theorem Yj.form[bn:Ib](h:Yj base w wv l):∃ao cap,wv=.slice ao l.length cap:=by
 obtain⟨us,_,_,_,h⟩:=h;rcases h with⟨rfl,h⟩|⟨g,cap,d,rfl,_⟩
 ·exact⟨AI,0,by rw[h]⟩
 ·exact⟨_,_,rfl⟩
theorem Yj.nil[bn:Ib](base:Nat)(w:AC):Yj base w (.slice AI 0 0) []:=⟨[],rfl,λi u c h=>by simp at h,World.ownsRow_nil _ _ _ _⟩
theorem Qo.foot_ok[bn:Ib](h:Qo base w p n s wv d):Uz base w (foot p n s wv):=by
 rintro b (rfl|rfl|rfl|f)
 ·exact⟨h.pb,Qt h.blk,λcs fr e=>by rw[h.blk]at e;simp at e⟩
 ·exact h.now.foot h.nb _ rfl
 ·exact h.safe.foot h.sb _ rfl
 ·obtain⟨us,_,_,_,m⟩:=h.wait;rcases m with⟨rfl,_⟩|⟨g,cap,j,rfl,k,i,_⟩
  ·simp[DK]at f
  ·simp[DK]at f;subst f;exact⟨k,Qt i,λcs fr e=>by rw[i]at e;simp at e⟩
theorem Yj.kind[bn:Ib](h:Yj base w wv l):∀b,wv.ownBlock=AF b->base<=b/\∃d,w.heap[b]?=AF (.cells d 137 (0,0)):=by
 intro b f;obtain⟨us,_,_,_,k⟩:=h;rcases k with⟨rfl,_⟩|⟨g,cap,d,rfl,i,j,_⟩
 ·simp[DK]at f
 ·simp[DK]at f;subst f;exact⟨i,d,j⟩
theorem Yj.foot[bn:Ib](h:Yj base w wv l):Uz base w (λb=>wv.ownBlock=AF b):=by intro b i;obtain⟨g,f,d⟩:=h.kind b i;exact⟨g,Qt d,λcs fr e=>by rw[d]at e;simp at e⟩
theorem Xm.kind[bn:Ib](h:Xm base w r m):∃es clock,w.heap[r]?=AF (.map es clock):=by obtain⟨es,c,h,_⟩:=h;exact⟨es,c,h⟩
theorem Yj.keep[bn:Ib](h:Yj base w wv l)(hF:Uz base w F)(k:Xy F w j)(B:∀b,wv.ownBlock=AF b->¬F b):Yj base j wv l:=by
 obtain⟨us,m,n,o,f⟩:=h;refine⟨us,m,λi u c C A=>(n i u c C A).keep hF k,o,?_⟩;rcases f with f|⟨g,cap,d,rfl,p,q,z⟩
 ·exact .inl f
 ·exact .inr ⟨g,cap,d,rfl,p,k.heap q (B g rfl),z⟩
theorem Qo.keep[bn:Ib](h:Qo base w p n s wv d)(hF:Uz base w F)(k:Xy F w g)(f:∀b,foot p n s wv b->¬F b):Qo base g p n s wv d :=
 ⟨k.heap h.blk (f p (.inl rfl)),h.now.keep hF k (f n (.inr (.inl rfl))),h.safe.keep hF k (f s (.inr (.inr (.inl rfl)))),h.wait.keep hF k (λb i=>f b (.inr (.inr (.inr i)))),h.pb,h.nb,h.sb,h.ns⟩
theorem Qo.no[bn:Ib](h:Qo base w p n s wv d)(k:Xy No w f):Qo base f p n s wv d :=
 h.keep (Uz.no _ _) k (λ_ _ h=>h)
theorem Qo.foot_lt[bn:Ib](h:Qo base w p n s wv d):∀b,foot p n s wv b->b<w.heap.size:=λb f=>(h.foot_ok b f).2.1
theorem ZT[bn:Ib](h:Qo base w p n s wv d)(K:base<=w.heap.size)(P:msum d.now<=35184372088832) :
  DJ Tryz.prog 45 #[.pointer (AF ⟨p,0,AI⟩)] w λe O=>e=.returned (.int .i64 (msum d.now:Nat))/\Xy No w O:=by
 obtain⟨o,g,q⟩:=R9 h.now;have H:=Qq h.blk 2;have z:Xy No w (w.alloc o):=(Xy.refl _ _).alloc _;have f:=h.now.keys;generalize J:w.alloc o=W at g q z;clear J;simp at H;go_enter Tryz.func45,Tryz.ntmps45;go_wp2;clear g H;go_loopw [3] (λt wr=>∃left x,Hq base wr w.heap.size n d.now left/\Hg left/\x+msum left=msum d.now/\t=.int .i64 (x:Nat)/\Xy No w wr) (λ_ wr=>He wr w.heap.size);case atStart=>exact⟨_,0,q,f,by omega,rfl,z⟩
 case round =>
  clear q z f;obtain⟨left,x,q,f,E,rfl,B⟩:=hrel;have i:=q.num;rcases NY q K 0 with⟨rfl,g⟩|⟨G,C,v,T,N,g,I,A,F⟩
  ·have D:=BX E;clear E i q;go_wp2;go_ret;have:=D.out;simp[msum]at this;subst this;exact⟨rfl,B⟩
  ·obtain⟨S,R,rfl⟩:=N.form;have m:=El f C;have k:=Il f C;have j:=A.num;have L:(x:Int)+(G.2.length:Int)<=35184372088832:=by omega
   have M:(0:Int)<=(x:Int)+(G.2.length:Int):=by omega
   have D:=BX (A5 E m k i j);clear E m k i j;go_wp2;go_roundw;case rel=>exact⟨_,x+G.2.length,A,f.filter _,by have:=D.out;omega,by go_num,B.trans F (λy Q e=>by have e:y=w.heap.size:=e;omega)⟩
   case measure=>have:=D.out;omega
@[go_sem] theorem eql_nil_map (w:AC) (r:Option Nat):(binOp .eql 131 (.map r) (.map AI)).run Tryz.prog w=.ok (.bool r.isNone) w :=
 run_eql_map_nil w _ _ _ r Tryz.underlying131
theorem Ks[bn:Ib](h:Xm base w r m) :
  DJ Tryz.prog 52 #[.map (AF r)] w λe f=>∃d,e=.returned (.map (AF d))/\Xm base f d m/\d=w.heap.size/\f.heap.size=w.heap.size+1/\Xy No w f:=by
 obtain⟨es,clock,i,j⟩:=h;have o:(callFunc 100 #[.iface 131 (.map (AF r))]).run Tryz.prog w=.ok (.value (.iface 131 (.map (AF w.heap.size)))) (w.alloc (.map es clock)):=by rw[run_callFunc_extern Tryz.func100 (by kernel_rfl) (by kernel_rfl) (by kernel_rfl) (e:=DL) (by kernel_rfl),run_maps_clone_sl w _ i];rfl
 have n:=λw=>DM (P:=Tryz.prog) w 131 20 _ _ (.map (AF (w.heap.size-1))) Tryz.underlying131;have g:Xy No w (w.alloc (.map es clock)):=(Xy.refl _ _).alloc _;have k:Xm base (w.alloc (.map es clock)) w.heap.size m:=⟨es,clock,Qy w _,j.keep (Uz.no _ _) g⟩;have n:(Instr.typeAssert (.iface 131 (.map (AF w.heap.size))) 20 131 false).run Tryz.prog (w.alloc (.map es clock))=.ok (.map (AF w.heap.size)) (w.alloc (.map es clock)) :=
  DM _ _ _ _ _ _ Tryz.underlying131
 go_enter Tryz.func52,Tryz.ntmps52;go_wp2;go_ret;exact⟨_,rfl,k,rfl,by simp,g⟩
theorem RL[bn:Ib](w:AC)(base:Nat)(room:Int)(m:base<=w.heap.size) :
  Qo base (((w.alloc (.map #[] 0)).alloc (.map #[] 0)).alloc (.cells #[.int .i64 room,.bool false,.map (AF w.heap.size),.map (AF (w.heap.size+1)),.slice AI 0 0] 135))
   (w.heap.size+1+1) w.heap.size (w.heap.size+1) (.slice AI 0 0) {room:=room,full:=false,now:=[],safe:=[],wait:=[]}:=by
 have i:=Qy w (.map #[] 0);have d:=Qy (w.alloc (.map #[] 0)) (.map #[] 0);have f:=Qy ((w.alloc (.map #[] 0)).alloc (.map #[] 0)) (.cells #[.int .i64 room,.bool false,.map (AF w.heap.size),.map (AF (w.heap.size+1)),.slice AI 0 0] 135);have k:Xy No (w.alloc (.map #[] 0)) ((w.alloc (.map #[] 0)).alloc (.map #[] 0)):=(Xy.refl _ _).alloc _;have h:Xy No ((w.alloc (.map #[] 0)).alloc (.map #[] 0)) (((w.alloc (.map #[] 0)).alloc (.map #[] 0)).alloc (.cells #[.int .i64 room,.bool false,.map (AF w.heap.size),.map (AF (w.heap.size+1)),.slice AI 0 0] 135)):=(Xy.refl _ _).alloc _;have g:∀w:AC,YR base w (#[]:Array MapEntry).toList 0 []:=λw=>⟨rfl,λp j=>by simp at j,by simp,by simp,by simp[Hg]⟩;simp only[World.size_alloc]at d f;refine⟨f,⟨#[],0,?_,g _⟩,⟨#[],0,?_,g _⟩,Yj.nil _ _,by omega,by omega,by omega,by omega⟩
 ·exact h.heap (k.heap i id) id
 ·exact h.heap d id
def To [bn:Ib](base:Nat)(w:AC)(d:Qr)(e:Ending)(f:AC):Prop:=∃p n s wv,e=.returned (.pointer (AF ⟨p,0,AI⟩)) /\
 Qo base f p n s wv d/\Xy No w f/\∀b,foot p n s wv b->w.heap.size<=b
theorem Sl[bn:Ib](base:Nat)(room:Int)(g:base<=w.heap.size) :
  DJ Tryz.prog 48 #[.int .i64 room] w (To base w {room:=max room 0,full:=false,now:=[],safe:=[],wait:=[]}):=by
 have j:=@run_makeMap Tryz.prog;have i:∀b,foot (w.heap.size+1+1) w.heap.size (w.heap.size+1) (.slice AI 0 0) b->w.heap.size<=b:=by
  rintro b (rfl|rfl|rfl|g)
  ·omega
  ·omega
  ·omega
  ·simp[DK]at g
 obtain⟨r,h⟩:∃r,r=max room 0:=⟨_,rfl⟩;rw[<- h];have d:=RL w base r g;by_cases k:room<0
 ·obtain rfl:r=0:=by omega
  clear h;have f:=BX d;clear d;go_enter Tryz.func48,Tryz.ntmps48;go_wp2;go_ret;exact⟨_,_,_,_,rfl,f.out,(((Xy.refl _ _).alloc _).alloc _).alloc _,i⟩
 ·obtain rfl:r=room:=by omega
  clear h;have f:=BX d;clear d;go_enter Tryz.func48,Tryz.ntmps48;go_wp2;go_ret;exact⟨_,_,_,_,rfl,f.out,(((Xy.refl _ _).alloc _).alloc _).alloc _,i⟩
theorem Wj(c:Qf)(u:AM):∀(l:List Qf) (us:List AM),us.length=l.length->Zx (l++[c]) (us++[u])=Zx l us++[.int .u64 c.seg,u,.bool c.drop]:=by
 intro l
 induction l with
 | nil=>intro us h;obtain rfl:=BJ h;rfl
 | cons x l d =>
  intro us h;cases us with
  | nil=>simp at h
  | cons v us=>simp only[List.cons_append,Zx,d us (by simpa using h)]
theorem RX:(Tryz.prog.info? 137).map (λi=>(i.zero,i.size,i.bytes))=AF (AF (.agg #[.int .u64 0,.slice AI 0 0,.bool false]),3,40):=by kernel_rfl
theorem NW[bn:Ib](h:Qo base w p n s wv d)(q:base<=w.heap.size)(c:Qf)(hu:Qv base w u c.p)(hm:((Uu d.now c.seg).getD []).length+c.p.length<=17592186044416)(hw:d.wait.length<=1000000) :
  DJ Tryz.prog 201 #[.pointer (AF ⟨p,0,AI⟩),.agg #[.int .u64 c.seg,u,.bool c.drop]] w λe Y=>e=.returned (.tuple #[]) /\
   ∃aR,Qo base Y p n s aR {d with now:=c.done d.now,wait:=d.wait++[c]}/\Xy (foot p n s wv) w Y/\∀b,aR.ownBlock=AF b->wv.ownBlock=AF b\/w.heap.size<=b:=by
 obtain⟨uo,uc,rfl⟩:=hu.form;obtain⟨wo,wc,rfl⟩:=h.wait.form;have O:Xy No w (w.alloc (.cells #[.int .u64 c.seg,.slice uo c.p.length uc,.bool c.drop] 137)):=(Xy.refl _ _).alloc _;have m:=Qy w (.cells #[.int .u64 c.seg,.slice uo c.p.length uc,.bool c.drop] 137);have I:=h.no O;have aF:=hu.no O;obtain⟨W,hW⟩:∃W,W=w.alloc (.cells #[.int .u64 c.seg,.slice uo c.p.length uc,.bool c.drop] 137):=⟨_,rfl⟩;go_enter Tryz.func201,Tryz.ntmps201;go_wp2;rw[<- hW]at O m I aF⊢;clear hW;have hp:w.heap.size≠p:=λe=>by have:=h.foot_lt p (.inl rfl);omega
 have aN:n≠p:=λe=>by have:=h.blk;subst e;obtain⟨_,_,q,_⟩:=h.now;rw[this]at q;cases q
 refine Ql (λY=>Y=W.drew) [0,1,2,3,4] [] [5] (by kernel_rfl) (by kernel_rfl) (λ_ _ _ _ _ h=>h) rfl ?_;have c0:=Qq m 0;have c1:=Qq m 1;have c2:=Qq m 2;have d2:=Qq I.blk 2;simp at c0 c1 c2 d2;iterate 5(refine Qk (v:=?_) rfl rfl rfl ?_ ?_;rotate_left;focus(
  rintro Y rfl;go_simp
  try with_reducible rfl))
 refine Qj (Qh (Qu rfl (Qm ?_)));clear c0 c1 c2 d2;have L:Xy No W W.drew:=(Xy.refl _ _).drew;have z:=I.no L;have U:=aF.no L;have D:=L.heap m id;have aB:=O.then L;clear I aF m L O;obtain⟨W2,aI⟩:∃W2,W2=W.drew:=⟨_,rfl⟩;rw[<- aI]at z U D aB⊢;clear aI;go_wp2_with(go_at_call 53;refine(Wg c z.now h.nb U hm).mono ?_;rintro e Z ⟨rfl,aC,E⟩);have S:Uz base W2 (·=n):=z.now.foot h.nb;have T:=E.heap z.blk (λe=>aN e.symm);have o:=E.heap D (λe=>by have:=h.now.lt;omega);have aO:=U.keep S E;have aD:=z.safe.keep S E (λe=>h.ns e.symm);have aG:=z.wait.keep S E (λb q e=>by
  obtain⟨us,_,_,_,B⟩:=z.wait;obtain⟨_,_,aM,_⟩:=z.now;rcases B with⟨B,_⟩|⟨g,cap,aS,B,_,C,_⟩
  ·rw[B]at q;simp[DK]at q
  ·rw[B]at q;simp[DK]at q;subst q;rw[<- e,C]at aM;cases aM)
 have J:Xy (foot p n s (.slice wo d.wait.length wc)) w Z:=aB.no.trans E (λ_ _ e=>.inr (.inl e));clear S z U D aB E;have c0:=Qq o 0;have c1:=Qq o 1;have c2:=Qq o 2;have d4:=Qq T 4;simp at c0 c1 c2 d4;have P:=aG.kind;have M:=aG.foot;obtain⟨us,V,aP,X⟩:=aG;have f:∀b,(DN wo d.wait.length wc).ownBlock=AF b->b≠p/\b≠w.heap.size/\b≠n/\b≠s:=λb q=>by
  obtain⟨_,aS,B⟩:=P b q;refine⟨λe=>?_,λe=>?_,λe=>?_,λe=>?_⟩
  ·rw[e,T]at B;simp at B
  ·have:=h.foot_lt b (.inr (.inr (.inr q)));omega
  ·obtain⟨_,_,Q⟩:=aC.kind;rw[e,Q]at B;cases B
  ·obtain⟨_,_,Q⟩:=aD.kind;rw[e,Q]at B;cases B
 refine Ql (λY=>Xy (λb=>(DN wo d.wait.length wc).ownBlock=AF b) Z Y) [0,1,2,3,4,5] [6,7] [8,9,10] (by kernel_rfl) (by kernel_rfl) (λ_ _ _ _ _ h=>h) (Xy.refl _ _).drew ?_;iterate 6(refine Qk (v:=?_) rfl rfl rfl ?_ ?_;rotate_left;focus(
  intro Y hS;have ab:=hS.cell c0 (λe=>(f _ e).2.1 rfl);have ac:=hS.cell c1 (λe=>(f _ e).2.1 rfl);have ad:=hS.cell c2 (λe=>(f _ e).2.1 rfl);have aH:=hS.cell d4 (λe=>(f _ e).1 rfl);go_simp
  try with_reducible rfl))
 refine Qj ?_;have aA:Xy No Z (Z.alloc (.cells #[.int .u64 c.seg,.slice uo c.p.length uc,.bool c.drop] 137)).drew:=((Xy.refl _ _).alloc _).drew;refine Qx rfl rfl (λK hK=>?_);go_simp;refine hK _ _ aA.no ?_;clear hK K;refine Qx rfl rfl (λK hK=>?_);obtain⟨i0,aT,aV,aW,aX⟩:=info_parts RX;refine wp_append_lies _ _ _ _ rfl base 137 i0 _ 3 40 Tryz.underlying133 aT aV aW aX rfl (by omega) _ d.wait.length (Zx d.wait us) rfl ((X.alloc _).drew)
  ⟨Z.heap.size,0,AI⟩ 1 1 [.int .u64 c.seg,.slice uo c.p.length uc,.bool c.drop] rfl rfl (World.news_of_block (cs:=#[.int .u64 c.seg,.slice uo c.p.length uc,.bool c.drop]) (t:=137) (fr:=(0,0)) (heap_alloc_new Z _)) (by simp[Value.oneCell'])
  (by omega) (by unfold BH;omega) (by omega) (by simp;have:=J.size;omega) (Z.heap.size+1) (by simp) ?_
 intro g cap w3 G N R af;have A:Xy (λb=>(DN wo d.wait.length wc).ownBlock=AF b) Z w3:=aA.no.grown N (λk hk=>.inl hk);refine hK _ _ A ?_;clear hK K;refine Qh (Qu rfl (Qu rfl (Qu rfl (Qm ?_))));have H:=A.heap T (λe=>(f _ e).1 rfl);have aH:=Qq H 4;have ae:=Qg H 4;simp at aH;have aU:=aO.keep M A;have aL:=aC.keep M A (λe=>(f _ e).qc rfl);have aE:=aD.keep M A (λe=>(f _ e).2.2.2 rfl);have aQ:∀(i:Nat) u c,us[i]?=AF u->d.wait[i]?=AF c->Qv base w3 u c.p:=λi u c I z=>(aP i u c I z).keep M A;rw[<- Wj c _ _ _ V]at G;have aJ:g≠p/\g≠n/\g≠s:=by
  rcases G.2 with⟨B,_⟩|⟨g',aY,aZ,B,_,C,_⟩
  ·cases B
  ·simp at B;obtain⟨rfl,_⟩:=B;refine⟨λe=>?_,λe=>?_,λe=>?_⟩
   ·rw[e,H]at C;simp at C
   ·obtain⟨_,_,Q⟩:=aL.kind;rw[e,Q]at C;cases C
   ·obtain⟨_,_,Q⟩:=aE.kind;rw[e,Q]at C;cases C
 have aK:Xy (foot p n s (.slice wo d.wait.length wc)) w w3:=J.trans A (λ_ _ e=>.inr (.inr (.inr e)));have ag:=J.size;clear X aP aO aC aD A N aA J c0 c1 c2 d4 o T M P f;go_wp2
 go_end0
 refine⟨rfl,.slice (AF ⟨g,0,AI⟩) (d.wait.length+1) cap,?_,aK.setCell (.inl (.inl rfl)) _,λb q=>?_⟩
 ·have hF:Uz base w3 (·=p):=by rintro b rfl;exact⟨h.pb,Qt H,λcs fr e=>by rw[H]at e;simp at e⟩
  have hk:Xy (·=p) w3 (w3.setCell ⟨p,4,AI⟩ (.slice (AF ⟨g,0,AI⟩) (d.wait.length+1) cap)):=Xy.setCell (F:=(·=p)) (Xy.refl _ _) (p:=⟨p,4,AI⟩) (.inl rfl) _;refine⟨?_,aL.keep hF hk aN,aE.keep hF hk (λe=>?_),?_,h.pb,h.nb,h.sb,h.ns⟩
  ·have:=Qz (i:=4) (u:=.slice (AF ⟨g,0,AI⟩) (d.wait.length+1) cap) H;simpa using this
  ·obtain⟨_,_,Q⟩:=aE.kind;rw[e,H]at Q;cases Q
  ·refine Yj.keep ⟨us++[.slice uo c.p.length uc],by simp[V],?_,by simpa using G⟩ hF hk (λb q e=>?_)
   ·intro i u c' I z;by_cases hi:i<us.length
    ·rw[DO hi]at I;rw[DO (by simpa[<- V]using hi)]at z;exact aQ i u c' I z
    ·rw[DP (by omega)]at I;rw[DP (by omega)]at z;rw[V]at I;cases hj:i-d.wait.length with
     | zero=>simp[hj]at I z;subst I z;exact aU
     | succ j=>simp[hj]at I
   ·simp[DK]at q;exact aJ.1 (q.trans e)
 ·simp[DK]at q;subst q;rcases R with R|R
  ·exact .inl R
  ·right;omega
theorem Hb(m:Kk)(k:Int):((Uu m k).getD []).length<=msum m:=by
 induction m with
 | nil=>simp[Uu,msum]
 | cons e m d =>
  simp only[Uu,C5]at d⊢;cases h:(e.1==k)with
  | true=>simp[msum]
  | false=>simp only[msum];exact BF d (by omega)
def Qr.put (d:Qr)(c:Qf):Qr:={d with now:=c.done d.now,wait:=d.wait++[c]}
def Qr.append (d:Qr)(seg:Int)(l:Qs):Qr×Int :=
 if d.full then(d,5)else if d.room-(msum d.now:Int)<(l.length:Int)then(d,5)else(d.put ⟨seg,l,false⟩,0)
def Vh [bn:Ib](base:Nat)(w:AC)(p:Nat)(F:Nat->Prop)(d':Qr)(v:AM)(e:Ending)(d:AC):Prop :=
 e=.returned v/\∃n s wv,Qo base d p n s wv d'/\Xy F w d/\∀b,foot p n s wv b->F b\/w.heap.size<=b
theorem Vh.of_no[bn:Ib](h:Qo base w p n s wv d)(k:Xy No w f)(v:AM):Vh base w p (foot p n s wv) d v (.returned v) f :=
 ⟨rfl,n,s,wv,h.no k,k.no,λ_ h=>.inl h⟩
structure Ur (d:Qr):Prop where
 room0:0<=d.room
 room1:d.room<=1099511627776
 used:msum d.now<=1099511627776
 wait:d.wait.length<=1000000
theorem VP[bn:Ib](h:Qo base w p n s wv d)(g:base<=w.heap.size)(S:Ur d)(seg:Int)(E:Qv (bn:=H) base w u l)(hl:l.length<=1099511627776)(Y:l≠[]->ban (bn:=bn).top<=w.heap.size) :
  DJ Tryz.prog 167 #[.pointer (AF ⟨p,0,AI⟩),.int .u64 seg,u] w (Vh base w p (foot p n s wv) (d.append seg l).1 (.int .i64 (d.append seg l).2)):=by
 obtain⟨uo,uc,rfl⟩:=Qv.form (bn:=H) E;obtain⟨room0,room1,used,z⟩:=S;have d0:=Qq h.blk 0;have B:=Qq h.blk 1;simp at d0 B;have Q:=Hb d.now seg;by_cases A:d.full=true
 ·have o:(d.append seg l)=(d,5):=by simp[Qr.append,A]
  rw[o];rw[A]at B;clear o A;have I:=BX (Vh.of_no h (Xy.refl _ _) (.int .i64 5));clear h E;go_enter Tryz.func167,Tryz.ntmps167;go_wp2;go_ret;exact I.out
 ·have k:d.full=false:=by simpa using A
  rw[k]at B;have aA:(0:Int)<=(msum d.now:Int):=by omega
  have aB:(msum d.now:Int)<=1099511627776:=by omega
  by_cases D:d.room-(msum d.now:Int)<(l.length:Int)
  ·have o:(d.append seg l)=(d,5):=by simp[Qr.append,k,D]
   rw[o];clear o A k;go_enter Tryz.func167,Tryz.ntmps167;go_wp2;refine Ql (λG=>Xy No w G) [0,1,2,3,4,5,6] [7,8] [9,10] (by kernel_rfl) (by kernel_rfl) (λ_ _ _ _ _ h=>h) (Xy.refl _ _).drew ?_;iterate 7(refine Qk (v:=?_) rfl rfl rfl ?_ ?_;rotate_left;focus(
    intro G L;have J:=L.cell d0 id;go_simp
    try with_reducible rfl))
   refine Qj (Qx rfl rfl (λK j=>?_));go_simp;have i:Xy No w w.drew:=(Xy.refl _ _).drew;refine(ZT (h.no i) g (by omega)).mono ?_;rintro e V⟨rfl,m⟩;have f:=i.then m;refine j _ _ f ?_;clear j K;refine Qx rfl rfl (λK j=>?_);go_simp;refine j _ _ f ?_;clear j K;refine Qh (Qu rfl (Qu rfl (Qm ?_)));have I:=BX (Vh.of_no h f (.int .i64 5));clear h E d0 B i m f Q;go_wp2;go_ret;exact I.out
  ·have o:(d.append seg l)=(d.put ⟨seg,l,false⟩,0):=by simp[Qr.append,k,D]
   rw[o];clear o A k;go_enter Tryz.func167,Tryz.ntmps167;go_wp2;refine Ql (λG=>Xy No w G) [0,1,2,3,4,5,6] [7,8] [9,10] (by kernel_rfl) (by kernel_rfl) (λ_ _ _ _ _ h=>h) (Xy.refl _ _).drew ?_;iterate 7(refine Qk (v:=?_) rfl rfl rfl ?_ ?_;rotate_left;focus(
    intro G L;have J:=L.cell d0 id;go_simp
    try with_reducible rfl))
   refine Qj (Qx rfl rfl (λK j=>?_));go_simp;have i:Xy No w w.drew:=(Xy.refl _ _).drew;refine(ZT (h.no i) g (by omega)).mono ?_;rintro e V⟨rfl,m⟩;have f:=i.then m;refine j _ _ f ?_;clear j K;refine Qx rfl rfl (λK j=>?_);go_simp;refine j _ _ f ?_;clear j K;refine Qh (Qu rfl (Qu rfl (Qm ?_)));have X:=h.no f;have T:=Qv.no (bn:=H) E f;have M:l≠[]->ban (bn:=bn).top<=V.heap.size:=λR=>BF (Y R) f.size;have N:base<=V.heap.size:=BF g f.size;have aC:=h.foot_lt;clear h E d0 B i m;go_wp2_with(first
    | (go_at_call 99;refine(Ju (bn:=H) T (by omega)).mono ?_;rintro e w2 ⟨v2,rfl,F,q⟩;obtain⟨vo,vc,rfl⟩:=F.form;have O:=BX (NW (X.no q) (BF N q.size) ⟨seg,l,false⟩ (Kr.bytes (bn:=bn) F M) (show((Uu d.now seg).getD []).length+l.length<=17592186044416 from by omega) z))
    | (go_at_call 201;refine O.out.mono ?_;rintro e w3 ⟨rfl,W,Z,P,U⟩))
   go_ret;have C:=f.then q;refine⟨rfl,n,s,W,Z,C.no.trans P (λ_ _ h=>h),λb g=>?_⟩;rcases g with g|g|g|g
   ·exact .inl (.inl g)
   ·exact .inl (.inr (.inl g))
   ·exact .inl (.inr (.inr (.inl g)))
   ·rcases U b g with g|g
    ·exact .inl (.inr (.inr (.inr g)))
    ·right;have:=C.size;omega
theorem Ey[bn:Ib](h:Qo base w p n s wv d)(i:base<=w.heap.size)(f:Ur d)(seg:Int)(g:Qv base w u l)(j:l.length<=1099511627776) :
  DJ Tryz.prog 167 #[.pointer (AF ⟨p,0,AI⟩),.int .u64 seg,u] w (Vh base w p (foot p n s wv) (d.append seg l).1 (.int .i64 (d.append seg l).2)) :=
 VP h i f seg g j g.top
theorem J2[bn:Ib](h:Qv base w v l):(convert 59 9 v).run Tryz.prog w=.ok (.string ⟨l.toArray⟩) w:=by
 obtain⟨ao,cap,rfl,n,o,g,i⟩:=h;cases ao with
 | none =>
  obtain rfl:=g rfl;obtain rfl:l=[]:=BJ (by omega);rw[run_convert_bytes_string w _ _ _ AI _ _ Tryz.underlying59 Tryz.underlying5 Tryz.underlying9];rfl
 | some d =>
  refine run_convert_bytes_back w _ _ _ d cap l Tryz.underlying59 Tryz.underlying5 Tryz.underlying9 (λj m=>?_);obtain⟨f,e,_,k⟩:=i j l[j] (BY m);cases e;exact k
theorem YW[bn:Ib](i:Qv base w u l)(j:Qv base w v m) :
  DJ Tryz.prog 113 #[u,v] w λe o=>e=.returned (.bool (l==m))/\w=o:=by
 have k:=J2 i;have n:=J2 j;have e:∀l:Qs,ByteArray.toList ⟨l.toArray⟩=l:=λl=>ByteArray.toList_eq _;have f:=BX e;generalize g:(⟨l.toArray⟩:ByteArray)=s1 at k;generalize h:(⟨m.toArray⟩:ByteArray)=p at n;have d:=BX (A2 g h);clear e i j g h;go_enter Tryz.func113,Tryz.ntmps113;go_wp2;go_ret;refine⟨?_,rfl⟩;rw[<- f.out l,<- f.out m,d.out.1,d.out.2];rfl
def Qr.sync (d:Qr):Qr:={d with safe:=d.now,wait:=[]}
theorem SS[bn:Ib](h:Qo base w p n s wv d)(O:base<=w.heap.size) :
  DJ Tryz.prog 114 #[.pointer (AF ⟨p,0,AI⟩)] w (Vh base w p (foot p n s wv) d.sync (.int .i64 0)):=by
 have H:=Qq h.blk 2;simp at H;go_enter Tryz.func114,Tryz.ntmps114;go_wp2_with fail;refine(Ks h.now).mono ?_;rintro e A⟨r,rfl,D,L,C,B⟩;have g:=h.no B;have o:p≠r:=λe=>by have:=h.foot_lt p (.inl rfl);omega
 have m:n≠r:=λe=>by have:=h.foot_lt n (.inr (.inl rfl));omega
 have I:=Qq g.blk 3;have J:=Qq g.blk 4;have M:=Qg g.blk 3;have N:=Qg g.blk 4;simp at I J;have f:=g.blk;have hF:Uz base A (·=p):=by rintro b rfl;exact⟨h.pb,Qt f,λcs fr e=>by rw[f]at e;simp at e⟩
 have z:Xy (·=p) A ((A.setCell ⟨p,3,AI⟩ (.map (AF r))).setCell ⟨p,4,AI⟩ (.slice AI 0 0)) :=
  Xy.setCell (F:=(·=p)) (Xy.setCell (F:=(·=p)) (Xy.refl _ _) (p:=⟨p,3,AI⟩) (.inl rfl) _) (p:=⟨p,4,AI⟩) (.inl rfl) _
 have j:=Qz (i:=4) (u:=.slice AI 0 0) (Qz (i:=3) (u:=.map (AF r)) f);have k:=g.now.keep hF z (λe=>by obtain⟨_,_,E⟩:=g.now.kind;rw[e,f]at E;cases E);have q:=D.keep hF z (λe=>o e.symm);have G:Hid (Vh base w p (foot p n s wv) d.sync (.int .i64 0) (.returned (.int .i64 0)) ((A.setCell ⟨p,3,AI⟩ (.map (AF r))).setCell ⟨p,4,AI⟩ (.slice AI 0 0))):=by
  refine⟨rfl,n,r,.slice AI 0 0,⟨by simpa[Qr.sync]using j,k,q,Yj.nil _ _,h.pb,h.nb,by omega,m⟩,B.no.trans z (λ_ _ e=>.inl e),?_⟩;rintro b (rfl|rfl|rfl|K)
  ·exact .inl (.inl rfl)
  ·exact .inl (.inr (.inl rfl))
  ·right;omega
  ·simp[DK]at K
 clear h g D f hF z j k q B L C o m;go_wp2;go_ret;exact G.out
def YM [bn:Ib](base:Nat)(w:AC)(l:Qs)(c:Int)(e:Ending)(d:AC):Prop:=∃v,e=.returned (.tuple #[v,.int .i64 c])/\Qv base d v l/\Kr d w.heap.size v l/\Xy No w d
def Qr.read (d:Qr)(seg:Int):Qs×Int:=match Uu d.now seg with|some l=>(l,0)|none=>([],4)
theorem R4[bn:Ib](h:Qo base w p n s wv d)(D:msum d.now<=1099511627776)(seg:Int) :
  DJ Tryz.prog 81 #[.pointer (AF ⟨p,0,AI⟩),.int .u64 seg] w (YM base w (d.read seg).1 (d.read seg).2):=by
 have C:=Qq h.blk 2;simp at C;have g:=Hb d.now seg;obtain⟨v,o,f⟩:=Oh h.now seg;have A:=(f w rfl).2;clear f;cases i:Uu d.now seg with
 | none =>
  rw[i]at A o;have j:d.read seg=([],4):=by simp[Qr.read,i]
  rw[j];have B:Hid (YM base w [] 4 (.returned (.tuple #[.slice AI 0 0,.int .i64 4])) w):=⟨_,rfl,Qv.nil _ _,Kr.nil _ _,Xy.refl _ _⟩;clear j i h o;go_enter Tryz.func81,Tryz.ntmps81;go_wp2;go_ret2;exact B.out
 | some l =>
  rw[i]at A o g;have j:d.read seg=(l,0):=by simp[Qr.read,i]
  rw[j];have q:Qv base w v l:=o;have k:l.length<=35184372088832:=by simp at g;omega
  clear j i h o g;go_enter Tryz.func81,Tryz.ntmps81;go_wp2_with(go_at_call 99;refine(Ju q k).mono ?_;rintro e F ⟨E,rfl,m,z⟩);go_ret2;exact⟨_,rfl,m.bytes q.top,m,z⟩
theorem Tw[bn:Ib](h:Qo base w p n s wv d)(on:Bool) :
  DJ Tryz.prog 19 #[.pointer (AF ⟨p,0,AI⟩),.bool on] w (Vh base w p (foot p n s wv) {d with full:=on} (.tuple #[])):=by
 have f:=h.blk;have q:=Qq f 1;have A:=Qg f 1;simp at q;have hF:Uz base w (·=p):=by rintro b rfl;exact⟨h.pb,Qt f,λcs fr e=>by rw[f]at e;simp at e⟩
 have j:Xy (·=p) w (w.setCell ⟨p,1,AI⟩ (.bool on)):=Xy.setCell (F:=(·=p)) (Xy.refl _ _) (p:=⟨p,1,AI⟩) (.inl rfl) _;have k:=Qz (i:=1) (u:=.bool on) f;have o:Hid (Vh base w p (foot p n s wv) {d with full:=on} (.tuple #[]) (.returned (.tuple #[])) (w.setCell ⟨p,1,AI⟩ (.bool on))):=by
  refine⟨rfl,n,s,wv,⟨by simpa using k,h.now.keep hF j (λe=>?_),h.safe.keep hF j (λe=>?_),h.wait.keep hF j (λb m e=>?_),h.pb,h.nb,h.sb,h.ns⟩,j.mono (λ_ _ e=>.inl e),λb m=>.inl m⟩
  ·obtain⟨_,_,g⟩:=h.now.kind;rw[e,f]at g;cases g
  ·obtain⟨_,_,g⟩:=h.safe.kind;rw[e,f]at g;cases g
  ·obtain⟨_,z,g⟩:=h.wait.kind b m;rw[e,f]at g;simp at g
 clear h f hF j k;go_enter Tryz.func19,Tryz.ntmps19;go_wp2
 go_end0
 exact o.out
theorem N9(w:AC)(ts:Array TypeId)(d:TypeId)(x y:Int):(DQ ts d #[.int .i64 x,.int .i64 y]).run Tryz.prog w=.ok (.int .i64 (min x y)) w:=by
 by_cases h:y<x
 ·have e:min x y=y:=by omega
  rw[e];simp[DQ,DR,go_sem,h]
 ·have e:min x y=x:=by omega
  rw[e];simp[DQ,DR,go_sem,h]
theorem Ca(x y:Int)(i:o.guard=AI)(s t:Operand)(g:o.op=Op.call {callee:=BP Builtin.min,args:=#[s,t],argTypes:=#[3,3]})(j:a.eval s=.int .i64 x)(k:a.eval t=.int .i64 y)(h:wpList Tryz.prog d Q rest (a.put o.dst (.int .i64 (min x y))) w):wpList Tryz.prog d Q (o::rest) a w:=by refine wpList_plain i λK f=>?_;unfold Oper.wp;simp[execOp,g,resolve,invoke,builtin,j,k,N9,BS];exact f _ _ h
theorem N8(w:AC)(ts:Array TypeId)(d:TypeId)(x y:Int):(DS ts d #[.int .i64 x,.int .i64 y]).run Tryz.prog w=.ok (.int .i64 (max x y)) w:=by
 by_cases h:x<y
 ·have e:max x y=y:=by omega
  rw[e];simp[DS,DT,go_sem,h]
 ·have e:max x y=x:=by omega
  rw[e];simp[DS,DT,go_sem,h]
theorem UO(x y:Int)(i:o.guard=AI)(s t:Operand)(g:o.op=Op.call {callee:=BP Builtin.max,args:=#[s,t],argTypes:=#[3,3]})(j:a.eval s=.int .i64 x)(k:a.eval t=.int .i64 y)(h:wpList Tryz.prog d Q rest (a.put o.dst (.int .i64 (max x y))) w):wpList Tryz.prog d Q (o::rest) a w:=by refine wpList_plain i λK f=>?_;unfold Oper.wp;simp[execOp,g,resolve,invoke,builtin,j,k,N8,BS];exact f _ _ h
def Ri:List Qf->Nat
 | []=>0
 | c::l=>c.p.length+Ri l
theorem TO(m:Kk)(k:Int)(l:Qs):msum (Na m k l)+((Uu m k).getD []).length=msum m+l.length:=by
 induction m with
 | nil=>simp[Na,msum,Uu]
 | cons e m d =>
  simp only[Uu,C5,Na]at d⊢;cases h:(e.1==k)with
  | true=>simp[msum];omega
  | false =>
   simp only[msum];simp only[Bool.false_eq_true,if_false,msum];omega
theorem TA(m:Kk)(k:Int):msum (Cx m k)<=msum m:=by
 induction m with
 | nil=>simp[Cx,msum]
 | cons e m d =>
  simp only[Cx]
  split
  ·simp[msum]
  ·simp[msum];omega
theorem RD(c:Qf)(m:Kk):msum (c.done m)<=msum m+c.p.length:=by
 unfold Qf.done
 split
 ·have:=TA m c.seg;omega
 ·have:=TO m c.seg ((Uu m c.seg).getD []++c.p);simp at this⊢;omega
def doneAll (l:List Qf)(m:Kk):Kk:=l.foldl (λm c=>c.done m) m
theorem Cg{l:List Qf}(h:l[k]?=AF c)(m:Kk):doneAll (l.take (k+1)) m=c.done (doneAll (l.take k) m):=by obtain⟨d,rfl⟩:=BK.1 h;unfold doneAll;rw[List.take_succ_eq_append_getElem d,List.foldl_append];rfl
theorem Jj{l:List Qf}(h:l[k]?=AF c):Ri (l.take (k+1))=Ri (l.take k)+c.p.length:=by
 induction l generalizing k with
 | nil=>simp at h
 | cons x l d =>
  cases k with
  | zero=>simp at h;subst h;simp[Ri]
  | succ k=>simp[Ri,d (by simpa using h)];omega
theorem Xe(l:List Qf)(k:Nat):Ri (l.take k)<=Ri l:=by
 induction l generalizing k with
 | nil=>simp[Ri]
 | cons x l d =>
  cases k with
  | zero=>simp[Ri]
  | succ k=>simp[Ri];exact d k
theorem Kl(l:List Qf)(m:Kk)(k:Nat):msum (doneAll (l.take k) m)<=msum m+Ri (l.take k):=by
 induction k with
 | zero=>simp[doneAll]
 | succ k d =>
  cases h:l[k]? with
  | none =>
   have:l.take (k+1)=l.take k:=by rw[DU (by have:=DV.1 h;omega),DU (DV.1 h)]
   rw[this];exact d
  | some c =>
   rw[Cg h,Jj h];have:=RD c (doneAll (l.take k) m);omega
def Xz (d:Qr)(k:Nat)(torn:Int):Kk :=
 match d.wait[k]? with
 | none=>doneAll (d.wait.take k) d.safe
 | some c=>if c.drop=false/\0<min torn ((c.p.length:Int)-1)then Qf.done ⟨c.seg,c.p.take (min torn ((c.p.length:Int)-1)).toNat,false⟩ (doneAll (d.wait.take k) d.safe)else doneAll (d.wait.take k) d.safe
def Xw (d:Qr)(keep:Int):Nat:=(min (max keep 0) (d.wait.length:Int)).toNat
def Qr.crash (d:Qr)(keep torn:Int):Qr :=
 {room:=d.room,full:=d.full,now:=Xz d (Xw d keep) torn,safe:=Xz d (Xw d keep) torn,wait:=[]}
theorem Lw:∀{l:List Qf} {us:List AM},us.length=l.length->∀{i:Nat} {c:Qf} {u:AM},l[i]?=AF c->us[i]?=AF u ->
  (Zx l us)[i*3]?=AF (.int .u64 c.seg)/\(Zx l us)[i*3+1]?=AF u/\(Zx l us)[i*3+2]?=AF (.bool c.drop):=by
 intro l
 induction l with
 | nil=>intro us _ i c u h;simp at h
 | cons x l j =>
  intro us g i c u d f;cases us with
  | nil=>simp at g
  | cons v us =>
   cases i with
   | zero=>simp at d f;subst d f;simp[Zx]
   | succ i =>
    have e:(i+1)*3=i*3+1+1+1:=by omega
    have:=j (us:=us) (by simpa using g) (i:=i) (c:=c) (u:=u) (by simpa using d) (by simpa using f);simp only[Zx,e];refine⟨?_,?_,?_⟩
    ·simpa using this.1
    ·simpa[AU]using this.2.1
    ·simpa[AU]using this.2.2
theorem Yj.cap[bn:Ib]{n cap:Nat}(h:Yj base w (.slice ao n cap) l):l.length<=cap/\cap<=BH:=by
 obtain⟨us,_,_,_,k⟩:=h;rcases k with⟨d,o⟩|⟨g,m,f,j,i,A,d,p,q,z⟩
 ·simp at d;omega
 ·simp at j;omega
theorem Yj.cells[bn:Ib]{n cap:Nat}(h:Yj base w (.slice ao n cap) l)(M:0<l.length) :
  ∃g,ao=AF ⟨g,0,AI⟩/\base<=g/\∀i c,l[i]?=AF c->∃u,Qv base w u c.p/\w.cell? ⟨g,i*3,AI⟩=AF (.int .u64 c.seg)/\w.cell? ⟨g,i*3+1,AI⟩=AF u/\w.cell? ⟨g,i*3+2,AI⟩=AF (.bool c.drop):=by
 obtain⟨us,m,E,N,G⟩:=h;rcases G with⟨_,I⟩|⟨g,H,z,q,f,F,J,K,L,D⟩
 ·omega
 ·simp only[Value.slice.injEq]at q;refine⟨g,q.1,f,λi c k=>?_⟩;have hi:i<l.length:=(BK.1 k).1;have o:us[i]?=AF us[i]:=BY (by omega);obtain⟨A,B,C⟩:=Lw m k o;have cell:∀j x,(Zx l us)[j]?=AF x->w.cell? ⟨g,j,AI⟩=AF x:=by
   intro j x d;rw[Qq F];rw[<- D,List.getElem?_take]at d
   split at d
   ·simpa using d
   ·cases d
  exact⟨us[i],E i _ _ o k,cell _ _ A,cell _ _ B,cell _ _ C⟩
theorem GW[bn:Ib](h:Qo base w p n s wv d)(hb:base<=w.heap.size)(hs:msum d.safe+Ri d.wait<=1099511627776)(hw:d.wait.length<=1000000)(keep torn:Int) :
  DJ Tryz.prog 18 #[.pointer (AF ⟨p,0,AI⟩),.int .i64 keep,.int .i64 torn] w (To base w (d.crash keep torn)):=by
 obtain⟨wo,wc,rfl⟩:=h.wait.form;have c0:=Qq h.blk 0;have c1:=Qq h.blk 1;have c3:=Qq h.blk 3;have c4:=Qq h.blk 4;simp at c0 c1 c3 c4;obtain⟨k,hk⟩:∃k:Nat,min (max keep 0) (d.wait.length:Int)=(k:Int):=⟨(min (max keep 0) (d.wait.length:Int)).toNat,by omega⟩;have aY:Xw d keep=k:=by unfold Xw;omega
 have aL:k<=d.wait.length:=by omega
 unfold Qr.crash;rw[aY];clear aY;have HK:=BX hk;clear hk;have aK:(k:Int)<=(wc:Int):=by have:=h.wait.cap.1;omega
 have aA:=h.wait.cap.2;unfold BH at aA;have W:(wc:Int)<=9223372036854775807:=by omega
 go_enter Tryz.func18,Tryz.ntmps18;go_wp2_with fail;refine(Ks h.safe).mono ?_;rintro e w1⟨r,rfl,hm,hr,af,aB⟩;have aN:w.heap.size<=r:=by omega
 have HR:=BX hr;clear hr af;have d0:=aB.cell c0 id;have d1:=aB.cell c1 id;have d4:=aB.cell c4 id;go_wp2_with(first|(refine UO _ _ rfl _ _ rfl rfl rfl ?_)|(refine Ca _ _ rfl _ _ rfl rfl rfl ?_;rw[HK.out]));clear c0 c1 c3 c4;go_loopw [34] (λi wr=>∃j:Nat,j<=k/\i=.int .i64 j/\Xm base wr r (doneAll (d.wait.take j) d.safe)/\Xy No w wr) (λi _=>k-(intOf i).toNat);case atStart=>exact⟨0,Nat.zero_le _,rfl,by simpa[doneAll]using hm,aB⟩
 case round =>
  clear hm aB d0 d1 d4;obtain⟨j,hj,rfl,hm,A⟩:=hrel;by_cases R:j<k
  ·obtain⟨g,rfl,ac,q⟩:=h.wait.cells (by omega);have B:d.wait[j]?=AF d.wait[j]:=BY (by omega);have aX:=Cg B d.safe;have aE:=Kl d.wait d.safe j;have aG:=Jj B;have aF:=Xe d.wait (j+1);obtain⟨u,Z,e0,e1,e2⟩:=q j _ B;generalize d.wait[j]=c at *;have aD:=Hb (doneAll (d.wait.take j) d.safe) c.seg;have L:((Uu (doneAll (d.wait.take j) d.safe) c.seg).getD []).length+c.p.length<=17592186044416:=by omega
   generalize doneAll (d.wait.take j) d.safe=M at *;obtain⟨uo,uc,rfl⟩:=Z.form;have e0:=A.cell e0 id;have e1:=A.cell e1 id;have e2:=A.cell e2 id;have Z:=Z.no A;have aI:(j:Int)<(k:Int):=by omega
   have U:base<=r:=by omega
   have HX:=BX (A3 aX L R);clear aX aE aG aF aD q B L R hs hw;go_wp2_with fail;refine(Wg c (hm.no ?_) U (Z.no ?_) HX.out.2.1).mono ?_
   ·exact(Xy.refl _ _).alloc _
   ·exact(Xy.refl _ _).alloc _
   rintro e w3⟨rfl,aM,aJ⟩;go_wp2;go_roundw;case rel=>exact⟨j+1,by have:=HX.out.2.2;omega,by go_num,by rw[HX.out.1];exact aM,(A.alloc _).trans aJ (λy hy e=>by have e:y=r:=e;omega)⟩
   case measure=>have:=HX.out.2.2;simp[intOf];omega
  ·obtain rfl:j=k:=by omega
   clear hj R;have c0:=Qq h.blk 0;have c1:=Qq h.blk 1;have c4:=Qq h.blk 4;simp at c0 c1 c4;have d4:=A.cell c4 id;have U:base<=r:=by omega
   cases B:d.wait[j]? with
   | none =>
    have ad:=DV.1 B;have ae:¬(j:Int)<(d.wait.length:Int):=by omega
    have o:Xm base wr r (Xz d j torn):=by
     have e:Xz d j torn=doneAll (d.wait.take j) d.safe:=by simp[Xz,B]
     rw[e];exact hm
    have f:Xy No w wr:=A;clear hm ad B aL A;go_wp2;clear d4 c4 ae aK aA W;have O:base<=wr.heap.size:=BF hb f.size;refine Ql (λX=>Xy No wr X) [0,1,2,3,4,5,6,7,8,9] [10] [11,12,13] (by kernel_rfl) (by kernel_rfl) (λ_ _ _ _ _ h=>h) (Xy.refl _ _).drew ?_;have f0:=f.cell c0 id;have f1:=f.cell c1 id;iterate 10(refine Qk (v:=?_) rfl rfl rfl ?_ ?_;rotate_left;focus(
     intro X hS;have aP:=hS.cell f0 id;have aQ:=hS.cell f1 id;go_simp
     try with_reducible rfl))
    refine Qj (Qx rfl rfl (λK hK=>?_));go_simp;have m:Xy No wr wr.drew:=(Xy.refl _ _).drew;refine(Ks (o.no m)).mono ?_;rintro e J⟨N,rfl,S,G,I,F⟩;have z:=m.then F;refine hK _ _ z ?_;clear hK K;refine Qh (Qu rfl (Qu rfl (Qu rfl (Qm ?_))));have T:=o.no z;have C:=f.then z;have h5:w.heap.size<=N:=by rw[G];exact BF f.size m.size
    have H:r≠N:=by have:=o.lt;have:=m.size;omega
    have P:base<=J.heap.size:=BF hb C.size;have Q:=C.size;clear G I m F z o f f0 f1 O;go_wp2;go_ret;have D:Xy No J (J.alloc (.cells #[.int .i64 d.room,.bool d.full,.map (AF r),.map (AF N),.slice AI 0 0] 135)):=(Xy.refl _ _).alloc _;refine⟨J.heap.size,r,N,.slice AI 0 0,rfl,⟨Qy J _,T.no D,S.no D,Yj.nil _ _,P,U,by omega,H⟩,C.then D,?_⟩;rintro b (rfl|rfl|rfl|hq)
    ·exact Q
    ·exact aN
    ·exact h5
    ·simp[DK]at hq
   | some c =>
    have R:=(BK.1 B).1;obtain⟨g,rfl,ac,q⟩:=h.wait.cells (by omega);have aE:=Kl d.wait d.safe j;have aG:=Jj B;have aF:=Xe d.wait (j+1);obtain⟨u,Z,e0,e1,e2⟩:=q j _ B;have aD:=Hb (doneAll (d.wait.take j) d.safe) c.seg;have L:((Uu (doneAll (d.wait.take j) d.safe) c.seg).getD []).length+c.p.length<=17592186044416:=by omega
    obtain⟨uo,uc,rfl⟩:=Z.form;have e0:=A.cell e0 id;have e1:=A.cell e1 id;have e2:=A.cell e2 id;have Z:=Z.no A;have aI:(j:Int)<(d.wait.length:Int):=by omega
    have E:Xy No wr (wr.alloc (.cells #[.int .u64 c.seg,.slice uo c.p.length uc,.bool c.drop] 137)):=(Xy.refl _ _).alloc _;have aS:(0:Int)<=(c.p.length:Int):=by omega
    have aT:(c.p.length:Int)<=1099511627776:=by omega
    obtain⟨x,hx⟩:∃x,min torn ((c.p.length:Int)-1)=x:=⟨_,rfl⟩;have HX:=BX hx;have aW:x<=(c.p.length:Int)-1:=by omega
    have ah:base<=wr.heap.size:=BF hb A.size;cases hd:c.drop with
    | true =>
     have o:Xm base (wr.alloc (.cells #[.int .u64 c.seg,.slice uo c.p.length uc,.bool true] 137)) r (Xz d j torn):=by
      have e:Xz d j torn=doneAll (d.wait.take j) d.safe:=by simp[Xz,B,hd]
      rw[e];rw[hd]at E;exact hm.no E
     have f:Xy No w (wr.alloc (.cells #[.int .u64 c.seg,.slice uo c.p.length uc,.bool true] 137)):=by rw[hd]at E;exact A.then E
     rw[hd]at e2;clear hm R q aE aG aF aD L B aL E hx hd hs hw aW;go_wp2_with(refine Ca _ _ rfl _ _ rfl rfl rfl ?_;rw[HX.out]);clear d4 c4 aK aA W e0 e1 e2 Z aI aS aT A;generalize wr.alloc (.cells #[.int .u64 c.seg,.slice uo c.p.length uc,.bool true] 137)=Y at o f⊢;have O:base<=Y.heap.size:=BF hb f.size;refine Ql (λX=>Xy No Y X) [0,1,2,3,4,5,6,7,8,9] [10] [11,12,13] (by kernel_rfl) (by kernel_rfl) (λ_ _ _ _ _ h=>h) (Xy.refl _ _).drew ?_;have f0:=f.cell c0 id;have f1:=f.cell c1 id;iterate 10(refine Qk (v:=?_) rfl rfl rfl ?_ ?_;rotate_left;focus(
      intro X hS;have aP:=hS.cell f0 id;have aQ:=hS.cell f1 id;go_simp
      try with_reducible rfl))
     refine Qj (Qx rfl rfl (λK hK=>?_));go_simp;have m:Xy No Y Y.drew:=(Xy.refl _ _).drew;refine(Ks (o.no m)).mono ?_;rintro e J⟨N,rfl,S,G,I,F⟩;have z:=m.then F;refine hK _ _ z ?_;clear hK K;refine Qh (Qu rfl (Qu rfl (Qu rfl (Qm ?_))));have T:=o.no z;have C:=f.then z;have h5:w.heap.size<=N:=by rw[G];exact BF f.size m.size
     have H:r≠N:=by have:=o.lt;have:=m.size;omega
     have P:base<=J.heap.size:=BF hb C.size;have Q:=C.size;clear G I m F z o f f0 f1 O;go_wp2;go_ret;have D:Xy No J (J.alloc (.cells #[.int .i64 d.room,.bool d.full,.map (AF r),.map (AF N),.slice AI 0 0] 135)):=(Xy.refl _ _).alloc _;refine⟨J.heap.size,r,N,.slice AI 0 0,rfl,⟨Qy J _,T.no D,S.no D,Yj.nil _ _,P,U,by omega,H⟩,C.then D,?_⟩;rintro b (rfl|rfl|rfl|hq)
     ·exact Q
     ·exact aN
     ·exact h5
     ·simp[DK]at hq
    | false =>
     rw[hd]at e2 E;by_cases aV:0<x
     ·obtain⟨xn,rfl⟩:∃xn:Nat,x=(xn:Int):=⟨x.toNat,by omega⟩;have ag:(xn:Int)<=(uc:Int):=by obtain⟨ao,cp,hq,ai,_⟩:=Z;simp at hq;omega
      have aU:=(Z.no E).take xn (by omega);have aR:=hm.no E;have e:Xz d j torn=Qf.done ⟨c.seg,c.p.take xn,false⟩ (doneAll (d.wait.take j) d.safe):=by simp[Xz,B,hd,hx];intro h;omega
      have HE:=BX e;have aZ:((Uu (doneAll (d.wait.take j) d.safe) c.seg).getD []).length+(c.p.take xn).length<=17592186044416:=by simp;omega
      have V:=Qy wr (.cells #[.int .u64 c.seg,.slice uo c.p.length uc,.bool false] 137);have aC:=A.then E;clear hm R q aE aG aF aD L B aL hx hd hs hw aW e;go_wp2_with(refine Ca _ _ rfl _ _ rfl rfl rfl ?_;rw[HX.out]);clear d4 c4 aK aA W e0 e1 e2 Z aI aS aT A E;generalize ab:wr.alloc (.cells #[.int .u64 c.seg,.slice uo c.p.length uc,.bool false] 137)=Y at aU aR aC V⊢;have aH:Xy No Y Y.drew:=(Xy.refl _ _).drew;have b0:=Qq V 0;have b1:=Qq V 1;simp at b0 b1;refine Ql (λX=>X=Y.drew) [0,1,2,3,4,5,6,7] [] [8] (by kernel_rfl) (by kernel_rfl) (λ_ _ _ _ _ h=>h) rfl ?_;iterate 8(refine Qk (v:=?_) rfl rfl rfl ?_ ?_;rotate_left;focus(
       rintro X rfl;go_simp
       try with_reducible rfl))
      refine Qj (Qh (Qu rfl (Qm ?_)));have HD:=BX (Wg ⟨c.seg,c.p.take xn,false⟩ (aR.no aH) U (aU.no aH) aZ);have aO:=aC.then aH;clear b0 b1 V ab aU aR aH aC;go_wp2_with(go_at_call 53;refine HD.out.mono ?_;rintro e w3 ⟨rfl,aM,aJ⟩);have o:Xm base w3 r (Xz d j torn):=by rw[HE.out];exact aM
      have f:Xy No w w3:=aO.trans aJ (λy hy e=>by have e:y=r:=e;omega);have O:base<=w3.heap.size:=BF hb f.size;clear aM aJ aO ag aV;refine Ql (λX=>Xy No w3 X) [0,1,2,3,4,5,6,7,8,9] [10] [11,12,13] (by kernel_rfl) (by kernel_rfl) (λ_ _ _ _ _ h=>h) (Xy.refl _ _).drew ?_;have f0:=f.cell c0 id;have f1:=f.cell c1 id;iterate 10(refine Qk (v:=?_) rfl rfl rfl ?_ ?_;rotate_left;focus(
       intro X hS;have aP:=hS.cell f0 id;have aQ:=hS.cell f1 id;go_simp
       try with_reducible rfl))
      refine Qj (Qx rfl rfl (λK hK=>?_));go_simp;have m:Xy No w3 w3.drew:=(Xy.refl _ _).drew;refine(Ks (o.no m)).mono ?_;rintro e J⟨N,rfl,S,G,I,F⟩;have z:=m.then F;refine hK _ _ z ?_;clear hK K;refine Qh (Qu rfl (Qu rfl (Qu rfl (Qm ?_))));have T:=o.no z;have C:=f.then z;have h5:w.heap.size<=N:=by rw[G];exact BF f.size m.size
      have H:r≠N:=by have:=o.lt;have:=m.size;omega
      have P:base<=J.heap.size:=BF hb C.size;have Q:=C.size;clear G I m F z o f f0 f1 O;go_wp2;go_ret;have D:Xy No J (J.alloc (.cells #[.int .i64 d.room,.bool d.full,.map (AF r),.map (AF N),.slice AI 0 0] 135)):=(Xy.refl _ _).alloc _;refine⟨J.heap.size,r,N,.slice AI 0 0,rfl,⟨Qy J _,T.no D,S.no D,Yj.nil _ _,P,U,by omega,H⟩,C.then D,?_⟩;rintro b (rfl|rfl|rfl|hq)
      ·exact Q
      ·exact aN
      ·exact h5
      ·simp[DK]at hq
     ·have o:Xm base (wr.alloc (.cells #[.int .u64 c.seg,.slice uo c.p.length uc,.bool false] 137)) r (Xz d j torn):=by
       have e:Xz d j torn=doneAll (d.wait.take j) d.safe:=by simp[Xz,B,hd,hx,aV]
       rw[e];exact hm.no E
      have f:Xy No w (wr.alloc (.cells #[.int .u64 c.seg,.slice uo c.p.length uc,.bool false] 137)):=A.then E;clear hm R q aE aG aF aD L B aL E hx hd hs hw aW;go_wp2_with(refine Ca _ _ rfl _ _ rfl rfl rfl ?_;rw[HX.out]);clear d4 c4 aK aA W e0 e1 e2 Z aI aS aT A aV;generalize wr.alloc (.cells #[.int .u64 c.seg,.slice uo c.p.length uc,.bool false] 137)=Y at o f⊢;have O:base<=Y.heap.size:=BF hb f.size;refine Ql (λX=>Xy No Y X) [0,1,2,3,4,5,6,7,8,9] [10] [11,12,13] (by kernel_rfl) (by kernel_rfl) (λ_ _ _ _ _ h=>h) (Xy.refl _ _).drew ?_;have f0:=f.cell c0 id;have f1:=f.cell c1 id;iterate 10(refine Qk (v:=?_) rfl rfl rfl ?_ ?_;rotate_left;focus(
       intro X hS;have aP:=hS.cell f0 id;have aQ:=hS.cell f1 id;go_simp
       try with_reducible rfl))
      refine Qj (Qx rfl rfl (λK hK=>?_));go_simp;have m:Xy No Y Y.drew:=(Xy.refl _ _).drew;refine(Ks (o.no m)).mono ?_;rintro e J⟨N,rfl,S,G,I,F⟩;have z:=m.then F;refine hK _ _ z ?_;clear hK K;refine Qh (Qu rfl (Qu rfl (Qu rfl (Qm ?_))));have T:=o.no z;have C:=f.then z;have h5:w.heap.size<=N:=by rw[G];exact BF f.size m.size
      have H:r≠N:=by have:=o.lt;have:=m.size;omega
      have P:base<=J.heap.size:=BF hb C.size;have Q:=C.size;clear G I m F z o f f0 f1 O;go_wp2;go_ret;have D:Xy No J (J.alloc (.cells #[.int .i64 d.room,.bool d.full,.map (AF r),.map (AF N),.slice AI 0 0] 135)):=(Xy.refl _ _).alloc _;refine⟨J.heap.size,r,N,.slice AI 0 0,rfl,⟨Qy J _,T.no D,S.no D,Yj.nil _ _,P,U,by omega,H⟩,C.then D,?_⟩;rintro b (rfl|rfl|rfl|hq)
      ·exact Q
      ·exact aN
      ·exact h5
      ·simp[DK]at hq
theorem Xy.absorb(h:Xy No a b)(k:Xy F b c)(hF:∀x,F x->a.heap.size<=x):Xy No a c :=
 h.trans k (λx f d=>by have:=hF x d;omega)
theorem Qv.of_block[bn:Ib](l:Qs)(h:w.heap[g]?=AF (.cells (l.map u8v).toArray 5 fr))(d:l.length<=BH)(m:ban.top<=g) :
  Qv base w (.slice (AF ⟨g,0,AI⟩) l.length l.length) l:=by
 refine⟨_,_,rfl,Nat.le_refl _,d,λh=>(by cases h),λi x f=>⟨_,rfl,⟨Qt h,.inr ⟨_,_,h⟩,λj=>?_,?_⟩,?_⟩⟩
 ·have k:g<ban.top:=ban.lt _ j;omega
 ·have:=Qt h;omega
 rw[Addr.add_lit,Qq h];simp[f]
@[go_sem] theorem eql_nil_calls (w:AC) (a:Option Addr) (n c:Nat):(binOp .eql 133 (.slice a n c) (.slice AI 0 0)).run Tryz.prog w=.ok (.bool a.isNone) w :=
 Lib.run_eql_slice_nil w _ _ a n c 0 0 Tryz.underlying133
theorem Wv:∀{l:List Qf} {us:List AM},us.length=l.length->(Zx l us).length=l.length*3:=by
 intro l
 induction l with
 | nil=>intro us _;simp[Zx]
 | cons c l d =>
  intro us h;cases us with
  | nil=>simp at h
  | cons u us=>simp only[Zx,List.length_cons,d (us:=us) (by simpa using h)];omega
theorem Ik:∀{l:List Qf} {us:List AM},(∀u∈us,u.oneCell'=true)->∀x∈Zx l us,x.oneCell'=true:=by
 intro l
 induction l with
 | nil=>intro us _ x h;simp[Zx]at h
 | cons c l g =>
  intro us h x d;cases us with
  | nil=>simp[Zx]at d
  | cons u us =>
   simp only[Zx,List.mem_cons]at d;rcases d with rfl|rfl|rfl|d
   ·rfl
   ·exact h _ (by simp)
   ·rfl
   ·exact g (λu f=>h u (by simp[f])) x d
end Go.Proofs.YtfdmbomlkpkegaaGreat
