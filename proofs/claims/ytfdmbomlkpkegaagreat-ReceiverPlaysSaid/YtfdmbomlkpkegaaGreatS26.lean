/- Lemmas. -/
import Derived.Test.YtfdmbomlkpkegaaGreatS24
import Derived.Test.YtfdmbomlkpkegaaGreatS25
set_option maxRecDepth 100000
set_option maxHeartbeats 8000000
set_option linter.all false
set_option autoImplicit true
set_option relaxedAutoImplicit true
open Go renaming Calls->DJ,Value->AM,World->AC,grownBy_putObj'->PA,run_takeDeferred->PB
open Go.IntKind renaming wrap_u64->F0
open Go.Lib renaming hid->BX
open Go.World renaming alloc_heap_new->P6,grownBy_alloc->P4,putObj_heap_other->P9,putObj_heap_same->P8,size_alloc->FE
open List renaming getElem?_eq_some_iff->BK,getElem?_map->CK,length_append->BO,mem_of_getElem?->FB,replicate->BT,take_length->BZ
open Nat renaming le_of_lt->FX,le_refl->BE,le_succ->O1,le_trans->BF,lt_succ_self->P7,ne_of_lt->D5,zero_le->BW
open Option renaming none->AI,some->AF
open UInt8 renaming ofNat->D7
namespace Go.Proofs.YtfdmbomlkpkegaaGreat
section
open Go Go.RowKit Go.Dr Go.Shelf
attribute [local go_sem] Oper.semAt_some
def zeroAg:AgS:=⟨0,⟨0,0,[]⟩,⟨0,0,[]⟩⟩
def Xs.initK (width k:Nat):Xs:=⟨0,BT k ⟨0,Xn.new width,⟨0,0,[]⟩⟩++BT (16-k) zeroAg,[],0⟩
theorem TC(width:Nat):Xs.initK width 16=Xs.start width:=by unfold Xs.initK Xs.start;simp
theorem KR{width k:Nat}(h:k<16):(Xs.initK width k).ag[k]?=AF zeroAg/\{Xs.initK width k with ag:=(Xs.initK width k).ag.modify k (λg=>{g with now:=Xn.new width})}=Xs.initK width (k+1):=by
 have e:(Xs.initK width k).ag=BT k ⟨0,Xn.new width,⟨0,0,[]⟩⟩++(zeroAg::BT (15-k) zeroAg):=by show _++BT (16-k) zeroAg=_;rw[show 16-k=(15-k)+1 by omega,List.replicate_succ]
 have f:(Xs.initK width k).ag[k]?=AF zeroAg:=by rw[e,List.getElem?_append_right (by simp)];simp
 refine⟨f,?_⟩;rw[Gk _ f,e,List.set_append_right _ _ (by simp)];unfold Xs.initK;rw[show 16-(k+1)=15-k by omega,List.replicate_succ',List.append_assoc];simp[zeroAg]
theorem JH(g m:Nat):(Tryz.zeroCells126.setIfInBounds 0 (.pointer (AF ⟨g,0,AI⟩))).setIfInBounds 116 (.map (AF m))=(Xq g 0 (BT 16 (Ki zeroAg (.slice AI 0 0) (.slice AI 0 0))) (.slice AI 0 0) 0 m).toArray:=by kernel_rfl
theorem TF[bn:Ib](A:w.heap[q]?=AF (.cells (Xq g 0 (BT 16 (Ki zeroAg (.slice AI 0 0) (.slice AI 0 0))) (.slice AI 0 0) 0 m).toArray 126 (0,0)))(o:∃clock,w.heap[m]?=AF (.map #[] clock))(z:base<=q)(h:base<=m):Zv base w q g m (.slice AI 0 0) (Xs.initK width 0):=by
 obtain⟨clock,o⟩:=o;refine⟨⟨_,A,by simp,by simp[Xs.initK],λi a hi=>?_⟩,⟨[],rfl,λx B=>by simp at B,World.ownsRow_nil _ _ _ _⟩,⟨_,_,o,rfl,λi r hi=>by simp[Xs.initK]at hi⟩,z,h⟩;have k:i<16/\a=zeroAg:=by have hi:(BT 16 zeroAg)[i]?=AF a:=hi;have f:=(BK.1 hi).1;rw[List.length_replicate]at f;exact⟨f,List.eq_of_mem_replicate (FB hi)⟩
 obtain⟨f,rfl⟩:=k;exact⟨.slice AI 0 0,.slice AI 0 0,by rw[List.getElem?_replicate,if_pos f],Zy.nil _,Zy.nil _⟩
def S4 (w:AC)(v:AM)(l:List Nat):Prop:=∃ao cap,v=.slice ao l.length cap/\(l≠[]->∃g o,ao=AF ⟨g,o,AI⟩/\∀(k x:Nat),l[k]?=AF x->w.cell? ⟨g,o+k,AI⟩=AF (.int .u64 x))
theorem S4.no(h:S4 w v l)(k:Xy No w w'):S4 w' v l:=by obtain⟨ao,cap,rfl,h⟩:=h;refine⟨ao,cap,rfl,λz=>?_⟩;obtain⟨g,o,e,f⟩:=h z;exact⟨g,o,e,λi x A=>k.cell (f i x A) id⟩
theorem Uo.nums(h:Uo w B v l):S4 w v l:=by
 obtain⟨ao,cap,rfl,_,_⟩:=h.form;refine⟨ao,cap,rfl,λA=>?_⟩;cases ao with
 | none =>
  rcases h.2 with⟨_,o⟩|⟨g,f,k,e,_⟩
  ·exact absurd (List.length_eq_zero_iff.1 o) A
  ·cases e
 | some a =>
  rcases h.2 with⟨e,_⟩|⟨g,f,k,e,_⟩
  ·cases e
  ·cases e;refine⟨g,0,rfl,λi x C=>?_⟩;obtain⟨D,e,z⟩:=Gy h (j:=i) (x:=Mh x) (by rw[CK,C];rfl) (by simp);cases e;rw[Nat.zero_add];exact z
theorem KV(w:AC)(q:Nat)(a:Int)(n:Nat)(h:a<0\/16<=a):DJ Tryz.prog 22 #[.pointer (AF ⟨q,0,AI⟩),.int .i64 a,.int .u64 n] w λe w'=>e=.returned (.int .i64 1)/\w'=w:=by have i:=Cn (w:=w) q a h;clear h;go_enter Tryz.func22,Tryz.ntmps22;go_wp2_with(go_at_call 61;refine i.mono ?_;rintro e k ⟨rfl,f⟩;have f:=f.symm;subst f);go_ret;exact⟨rfl,rfl⟩
theorem TK(w:AC)(q:Nat)(a:Int)(n:Nat)(v:AM)(h:a<0\/16<=a):DJ Tryz.prog 24 #[.pointer (AF ⟨q,0,AI⟩),.int .i64 a,.int .u64 n,v] w λe w'=>e=.returned (.tuple #[.slice AI 0 0,.int .i64 1])/\w'=w:=by have i:=Cn (w:=w) q a h;clear h;go_enter Tryz.func24,Tryz.ntmps24;go_wp2_with(go_at_call 61;refine i.mono ?_;rintro e k ⟨rfl,f⟩;have f:=f.symm;subst f);go_ret2;exact⟨rfl,rfl⟩
theorem KX[bn:Ib](q a b:Nat)(o:a<16)(h:Xr base w B v l)(z:l.length<=1048576)(f:∀x∈l,x.s.body.length<=1073741824)(C:Yv b l=false):DJ Tryz.prog 24 #[.pointer (AF ⟨q,0,AI⟩),.int .i64 a,.int .u64 b,v] w λe w'=>e=.returned (.tuple #[.slice AI 0 0,.int .i64 1])/\Xy No w w':=by
 have A:=Vj (w:=w) q a o;have i:=Eh b h z f;rw[C]at i;obtain⟨G,E,rfl,_,_⟩:=h.form;clear o h f z;go_enter Tryz.func24,Tryz.ntmps24;go_wp2_with(first
  | (go_at_call 63;refine i.mono ?_;rintro e I ⟨rfl,D⟩)
  | (go_at_call 61;refine A.mono ?_;rintro e H ⟨rfl,k⟩;have k:=k.symm;subst k))
 go_ret2;exact⟨rfl,D⟩
section
variable [bn:Ib]{base:Nat}{w w':AC}{q p width k0:Nat}{size:Int}{ts:List Ji}{d:Qr}{L:Xs}
end
def MW (t:TypeId):Prop:=t≠126/\t≠63/\t≠135/\t≠137/\t≠130/\t≠265/\t≠59
instance (t:TypeId):Decidable (MW t):=by unfold MW;infer_instance
section
variable [bn:Ib]{base:Nat}{w w':AC}{q p width k0:Nat}{size:Int}{ts:List Ji}{d:Qr}{L:Xs}{F:Nat->Prop}
end
end
section
open Go Go.RowKit Go.Shelf
def NA {α:Type}(n:Nat)(h:AC->AC->Prop)(I:List α->AC->Prop)(xs:List α)(W:AC):Exit->Act->AC->Prop
 | .normal,_,f=>(∀(b:Nat) (o:Obj),n<=b->W.heap[b]?=AF o->o.isCells=false->f.heap[b]?=AF o)/\h W f/\I xs f
 | _,_,_=>False
theorem Oo{F:Fence}{n:Nat}{P:Program}{α:Type}{g:Operand}{ps:Array Tmp}{assign body:Code}{Q:Exit->Act->AC->Prop}{a:Act}{w:AC}(aJ:F.round=AI)(h1:1<=n){gf:Nat}{lb:Array AM}(hg:a.eval g=.func (.func gf) #[] lb)(aD:F.fn gf)(eg:∀args w,(callFunc gf args).run P w=.ok (.enter gf args) w){f:α->Array AM}{Good:List α->α->AC->Prop}{G:AC->AC->Prop}{S:List α->Prop}(X:U7 F (n-1) P gf lb f Good G S w)(H:∀{A B C:AC},G A B->G B C->G A C)(z:∀(A B:AC) (row:Option Nat),w.heap.size<=A.heap.size->A.grownBy B row->(∀r,row=AF r->w.heap.size<=r/\∃o:Obj,A.heap[r]?=AF o/\o.isCells=false)->G A B)(aI:∀x,(f x).size=ps.size)(I:List α->AC->Prop)(R:OwnFrom w.heap.size I)(hG:∀pre x,Own (λ(_:Unit)=>Good pre x))(h0:I [] w)(a₁:α->Act)(i:∀(l:Nat) (x:α) (W:AC) (K:Act->AC->Prop),K (a₁ x) W ->
   assign.wpIn (F.inRound l) (n-1-1) P (Exit.then K (λ_ _ _=>False)) {tmps:=(ps.zip (f x)).foldl (λt (p,v)=>t.setIfInBounds p v) a.tmps,defers:=[]} W)(J:∀(l:Nat) (pre:List α) (x:α) (W:AC),I pre W->Good pre x W->body.wpIn (F.inRound l) (n-1-1) P (NA w.heap.size G I (pre++[x]) W) (a₁ x) W)(M:∀(D:Nat) (xs:List α) (W:AC),w.heap.size<=D->S xs->I xs W->W.heap[D]?=AF (.deferred (AF []))->Q .normal {a with defers:={target:=.collected D,args:=#[]} :: a.defers} W) :
  (Code.rangeFunc g ps assign body).wpIn F n P Q a w:=by
 refine wpIn_rangeFunc (λfn aF=>?_);rw[aJ];let D:=w.heap.size
 let l:=w.heap.size+1
 let rec0:LoopState->Loop:=λst=>{state:=st,pending:=AI,fn,tmps:=a.tmps,params:=ps,assign,body,defers:=D}
 let Wd:=w.alloc (.deferred (AF []))
 let Wl:=Wd.alloc (.loop (rec0 .ready))
 have sd:Wd.heap.size=l:=FE _ _;have gd:w.grownBy Wd AI:=P4 _ _ _;have gl:Wd.grownBy Wl AI:=P4 _ _ _;have aB:Wl.heap[l]?=AF (.loop (rec0 .ready)):=by have h:=P6 Wd (.loop (rec0 .ready));rw[sd]at h;exact h
 have aA:Wl.heap[D]?=AF (.deferred (AF [])):=(Below.heap_alloc Wd _ D (by rw[sd];exact P7 _)).trans (P6 w _);have k1:G w Wl:=H (z _ _ AI (BE _) gd (λr e=>by cases e)) (z _ _ AI gd.size gl (λr e=>by cases e));have i1:I [] Wl:=R [] Wd Wl AI (R [] w Wd AI h0 gd (λr e=>by cases e)) gl (λr e=>by cases e);have aC:=run_enterLoop_outer (P:=P) (w:=w) fn a.tmps ps assign body;refine⟨l,[{target:=.collected D,args:=#[]}],Wl,{target:=.fn (.func gf) lb,args:=#[.func (.yield l) #[] #[]]},Wl,gf,#[.func (.yield l) #[] #[]]++lb,Wl,aC,?_,?_,?_,λ_=>h1,?_⟩
 ·simp only[resolve,hg];simp[go_sem]
 ·intro f' T;simp[Target.leads]at T;subst T;exact aD
 ·simp[invoke,go_sem,eg]
 ·refine(X l (λpre W=>I pre W/\W.heap[l]?=AF (.loop (rec0 .ready))/\W.heap[D]?=AF (.deferred (AF []))) Wl k1 ?_ ?_ ⟨i1,aB,aA⟩).mono ?_
  ·intro s A B row V N hr;have Z:=λr e=>(hr r e).2;refine⟨R s A B row V.1 N (λr e=>?_),(grownBy_keeps N Z V.2.1 rfl).trans V.2.1,(grownBy_keeps N Z V.2.2 rfl).trans V.2.2⟩;obtain⟨h1,o,Y,Z⟩:=hr r e;have h2:w.heap.size<=Wl.heap.size:=by simp[Wl,Wd];omega
   exact⟨BF h2 h1,o,Y,Obj.not_cells_of_walk Z⟩
  ·rintro pre x W⟨hi,E,hd⟩O;have U:l<W.heap.size:=Qt E;have hy:=run_yield (P:=P) (args:=f x) E (aI x);refine⟨fn,_,assign,body,hy,roundIn_of_wpIn aF (i _ x W _ ⟨_,run_beginRound E rfl,?_⟩)⟩;let Wb:=W.putObj l (.loop (rec0 .busy))
   have aH:Wb.heap[l]?=AF (.loop (rec0 .busy)):=P8 U;have aE:Wb.heap[D]?=AF (.deferred (AF [])):=(P9 (D5 (P7 _))).trans hd;have kb:G W Wb:=z _ _ (AF l) (BF (O1 _) (FX U)) (PA W l _) (λr e=>by cases e;exact⟨O1 _,_,E,rfl⟩);have ib:I pre Wb:=R.putObj _ hi (O1 _) E rfl;have gb:Good pre x Wb:=(hG pre x).putObj (s:=()) _ O E rfl;refine wpIn_mono (J l pre x Wb ib gb) (λe a3 W3 hp=>?_);cases e with
   | normal =>
    obtain⟨Y,hk,aG⟩:=hp;have k:=Y _ _ (O1 _) aH rfl;refine⟨_,_,run_endRound (P:=P) AI k,rfl,⟨R.putObj _ aG (O1 _) k rfl,P8 (Qt k),(P9 (D5 (P7 _))).trans (Y _ _ (BE _) aE rfl)⟩,?_⟩;exact H (H kb hk) (z _ _ (AF l) (BF (O1 _) (FX (Qt k))) (PA W3 l _) (λr e=>by cases e;exact⟨O1 _,_,k,rfl⟩))
   | _=>exact hp.elim
  ·rintro e W2⟨⟨v,rfl⟩,xs,hS,hi,E,hd⟩;exact⟨AI,_,run_endLoop (P:=P) E (by simp[rec0]),M D xs _ (BE _) hS (R.putObj _ hi (O1 _) E rfl) ((P9 (D5 (P7 _))).trans hd)⟩
attribute [local go_sem] Oper.semAt_some
theorem XJ(h:w.grownBy w' row):Xy (λb=>row=AF b) w w':=⟨h.os,h.tape,h.output,h.size,λb f i=>h.block b f (λe=>i e.symm)⟩
end
section
open Go Go.RowKit Go.Dr Go.Shelf
theorem Gz(a n:Nat)(i:a<16)(k:n<2305843009213693952):(Ji.floor a n).bytes.length<=11:=by
 have f:(numB a).length=1:=by rw[Yb (by omega)];rfl
 have h:=Pj 8 n (by omega);simp[Ji.bytes];omega
theorem KY(a e:Nat)(f:a<16)(h:2305843009213693952<=e):DJ Tryz.prog 22 #[.pointer (AF ⟨q,0,AI⟩),.int .i64 a,.int .u64 e] w λr w'=>r=.returned (.int .i64 1)/\w'=w:=by
 have k:=Vj (w:=w) q a f;have i:(2305843009213693952:Int)<=(e:Int):=by omega
 clear h f;go_enter Tryz.func22,Tryz.ntmps22;go_wp2_with(go_at_call 61;refine k.mono ?_;rintro r w' ⟨rfl,rfl⟩);go_ret;exact⟨rfl,rfl⟩
section
variable [bn:Ib]{base:Nat}{w:AC}{q g m p n s width:Nat}{lv wv sgv rlv:AM}{size:Int}{ss:List Jh}{ts:List Ji}{d:Qr}{L:Xs}
theorem KJ(h:Zv base w q g m lv L)(i:L.Ok width)(a e:Nat)(k:a<16)(A:e<2305843009213693952)(o:e<=L.floor a):DJ Tryz.prog 22 #[.pointer (AF ⟨q,0,AI⟩),.int .i64 a,.int .u64 e] w λr w'=>r=.returned (.int .i64 9)/\w'=w:=by obtain⟨x,z,_,_,f⟩:=i.at k;obtain⟨_,_,_,_,E,_⟩:=h.agCell z;have C:=Vj (w:=w) q a k;have B:((2305843009213693952:Int)<=(e:Int))=False:=eq_false (by omega);have D:(e<=x.floor)=True:=eq_true (by rw[f]at o;omega);clear A o h i z f k;go_enter Tryz.func22,Tryz.ntmps22;go_wp2_with(go_at_call 61;refine C.mono ?_;rintro r w' ⟨rfl,rfl⟩);go_ret;exact⟨rfl,rfl⟩
end
section
variable [bn:Ib]{base B0:Nat}{w:AC}{q p width k0:Nat}{size:Int}{ts:List Ji}{d:Qr}{L:Xs}{F:Nat->Prop}
end
attribute [local go_sem] Oper.semAt_some
def Rp [bn:Ib](base width:Nat)(ts:List Ji)(f:AC)(q g m:Nat)(pre:List SI)(W:AC):Prop :=
 ∃lv,Zv base W q g m lv (told width (ts.take pre.length))/\Xd f.heap.size (λb=>b=q\/b=m) f W/\∀c,lv.ownBlock=AF c->f.heap.size<=c
theorem Rp.own[bn:Ib](i:base<=C.heap.size)(Q:m<C.heap.size):OwnFrom C.heap.size (Rp base width ts C q g m):=by
 rintro pre A B row⟨lv,D,H,N⟩J E;have k:=XJ J;refine⟨lv,D.keep (λb e=>?_) (λb e O=>?_) k (λb i e=>?_),H.trans (Xd.grown J H.size (λr e=>(E r e).1)),N⟩
 ·obtain⟨I,o,h,z⟩:=E b e;exact⟨by omega,Qt h,λcs fr f=>by rw[h]at f;cases f;cases z⟩
 ·obtain⟨I,o,h,z⟩:=E b e;obtain⟨cs,fr,f⟩:=O;rw[h]at f;cases f;cases z
 ·obtain⟨I,o,h,z⟩:=E b e;obtain⟨_,P⟩:=D.kind i;rcases P with⟨K,R,f,_⟩|⟨es,clock,f⟩
  ·rw[h]at f;cases f;cases z
  ·rcases i with rfl|rfl|i
   ·obtain⟨ags,G,_⟩:=D.blk;rw[G]at f;cases f
   ·omega
   ·obtain⟨_,M,G⟩:=D.recs.kind b i;rw[G]at f;cases f
section
variable [bn:Ib]{base:Nat}{w:AC}{q g m p n s width:Nat}{lv wv sgv rlv:AM}{size:Int}{ss ss':List Jh}{ts ts':List Ji}{d d':Qr}{L L':Xs}{c:Int}{j:Nat}{lc:List Qf}
theorem TU(h:Zc base w q g m lv p n s wv sgv rlv width size ss ts d L)(a e:Nat)(G:a<16)(hf:L.floor a<e)(Z:e<2305843009213693952)(O:Good j lc ss)(hj:j<=1000)(T:Ur d)(B:L.recs.length<=1073741824)(Y:base<=w.heap.size)(hT:ban.top<=w.heap.size)(U:Ha c size ss ts d L (.floor a e) ss' ts' d' L') :
  DJ Tryz.prog 22 #[.pointer (AF ⟨q,0,AI⟩),.int .i64 a,.int .u64 e] w λr w'=>r=.returned (.int .i64 c)/\Ga base w q g m p width size ss' ts' d' L' (Qi q g m lv p n s wv sgv rlv) w':=by
 obtain⟨x,hx,_,_,N⟩:=h.ok.at G;obtain⟨_,_,_,_,c0,_⟩:=h.led.agCell hx;have hg:=Vj (w:=w) q a G;have aA:((2305843009213693952:Int)<=(e:Int))=False:=eq_false (by omega);have aB:(e<=x.floor)=False:=eq_false (by rw[N]at hf;omega);have aC:IntKind.u64.wrap (a:Int)=(a:Int):=by rw[F0];omega
 have A:=Gz a e G Z;have z:L.can (.floor a e):=⟨G,hf,Z⟩;have i:=BX (A10 h (A3 O hj T) B Y hT U A z G Z);clear h hx N hf Z O hj T B Y hT U A z G;go_enter Tryz.func22,Tryz.ntmps22;go_upto_region 8 with(go_at_call 61;refine hg.mono ?_;rintro r w' ⟨rfl,rfl⟩);obtain⟨E,o⟩:∃E,E=w'.alloc (.cells #[.int .u8 2] 5):=⟨_,rfl⟩;have P:DJ Tryz.prog 59 #[.slice (AF ⟨w'.heap.size,0,AI⟩) 1 1,.int .u64 a] E λe W=>∃v',e=.returned v'/\Kr W E.heap.size v' ([D7 2]++numB a)/\Xy No E W:=by rw[o];exact Xk (bn:=Xl) (Vq w' 2 (by decide)) a (by have:=i.out.qi;omega) (by simp)
 have kA:Xy No w' E:=by rw[o];exact(Xy.refl _ _).alloc _
 have HA:=BX (A2 o kA);have Q:=λ(W1:AC) (v1:AM) (k:Kr W1 E.heap.size v1 ([D7 2]++numB a))=>Xk (bn:=Xl) (k.bytes (bn:=Xl) (base:=0) (λ_=>BW _)) e (by have:=i.out.rj;omega) (by rw[BO,Yb (by have:=i.out.qi;omega)];simp);clear o kA c0 aA aB hg;go_wp2_with(first
  | (rw[<- HA.out.1];go_at_call 59;refine P.mono ?_;rintro r W1 ⟨v1,rfl,k,k1⟩)
  | (go_at_call 59;refine(Q _ _ k).mono ?_;rintro r W2 ⟨v2,rfl,f,k2⟩))
 have S:([D7 2]++numB a)++numB e=(Ji.floor a e).bytes:=rfl;have H:Xy No w' W2:=(HA.out.2.then k1).then k2;have K:=BF i.out.qd H.size;have J:=BF i.out.qe H.size;have f:=f.bytes (base:=base) (λ_=>BF i.out.qe (HA.out.2.then k1).size);rw[S]at f;refine(Li (r:=.floor a e) (i.out.1.no H) f i.out.qh (by have:=i.out.qg;omega) i.out.2.1.1 i.out.2.1.2.1 i.out.2.1.2.2 i.out.qc K J i.out.qf).mono ?_;rintro r W3⟨rfl,V,n',s',X,D,C,I,kF,R⟩;have HX:=BX (A3 I (H.no.trans kF (λ_ _ e=>e)) (λb Y=>(R b Y).imp id (λh=>BF H.size h)));have M:=i.out.2.2.2.2.2.1.code;clear I kF R f k k1 k2 H K J S P Q;rcases M with rfl|rfl
 ·go_wp2_with fail;go_ret;exact⟨rfl,V,n',s',X,D,C,HX.out⟩
 ·go_wp2_with fail;go_ret;exact⟨rfl,V,n',s',X,D,C,HX.out⟩
end
theorem GJ[bn:Ib](h:Zc base w q g m lv p n s wv sgv rlv width size ss ts d L)(o:base<=w.heap.size) :
  DJ Tryz.prog 23 #[.pointer (AF ⟨q,0,AI⟩)] w λe w'=>e=.returned (.int .i64 0)/\Ga base w q g m p width size ss ts d.sync L.sync (Qi q g m lv p n s wv sgv rlv) w':=by
 have C:=BX (A2 h o);clear h o;go_enter Tryz.func23,Tryz.ntmps23;go_wp2_with fail;go_loopw [6] (λv6 wr=>∃k,v6=.int .i64 (k:Nat)/\k<=16/\Zv base wr q g m lv (L.syncK k)/\Xy (·=q) w wr) (λv6 _=>16-(intOf v6).toNat);case atStart=>exact⟨0,rfl,BW _,by unfold Xs.syncK;simpa using C.out.1.led,Xy.refl _ _⟩
 case round =>
  obtain⟨k,rfl,hk,i,T⟩:=hrel;by_cases D:k<16
  ·have hx:L.ag[k]?=AF (L.ag[k]'(by rw[C.out.1.ok.ag];exact D)):=List.getElem?_eq_getElem _;generalize (L.ag[k]'(by rw[C.out.1.ok.ag];exact D))=x at hx;obtain⟨O,R⟩:=UE hx;obtain⟨ns,ss',M,_,_,a1,a2,a3,a4,a5,a6⟩:=i.agCell O;obtain⟨no,nc,rfl,_,_⟩:=M.form;have aI:(k:Int)<16:=by omega
   have kd:Xy No wr wr.drew:=(Xy.refl _ _).drew;obtain⟨E,H⟩:=(i.no kd).setSafe O x.now (M.no kd);rw[R]at E;have fq:=(i.no kd).incCell.2.2;have b4:=kd.cell a4 id;have b5:=kd.cell a5 id;have b6:=kd.cell a6 id;have I:=BX (A4 E (T.then kd) H D);clear E H R O hx i T hk M D a4 a5 a6;go_wp2_with fail;refine Ql (λw'=>Xy No wr w') [0,1,2,3,4,5,6,7,8,9,10] [] [11,12,13] (by kernel_rfl) (by kernel_rfl) (λ_ _ _ _ _ h=>h) kd ?_;iterate 11(refine Qk (v:=?_) rfl rfl rfl ?_ ?_;rotate_left;focus(
    intro w' V;have f1:=V.cell a1 id;have f2:=V.cell a2 id;have f3:=V.cell a3 id;go_simp
    try with_reducible rfl))
   refine Qj (Qh (Qu rfl (Qu rfl (Qu rfl (Qm ?_)))));clear a1 a2 a3;generalize wr.drew=X at *;go_wp2_with fail;go_roundw;case rel=>exact⟨k+1,by congr 1,by have:=I.out.2.2.2;omega,I.out.1,I.out.2.1.trans I.out.qc (λ_ _ e=>e)⟩
   case measure=>have:=I.out.2.2.2;simp[intOf];omega
  ·have aA:k=16:=by omega
   subst aA;have S:L.syncK 16={L with ag:=L.ag.map Sz}:=by unfold Xs.syncK;rw[List.take_of_length_le (by rw[C.out.1.ok.ag];exact BE _),List.drop_of_length_le (by rw[C.out.1.ok.ag];exact BE _),List.append_nil]
   rw[S]at i;obtain⟨aF,aG,_⟩:=i.endCells;obtain⟨lo,lc,aB,_,_⟩:=i.recs.form;obtain⟨_,c0,fq⟩:=i.incCell;have f:=i.setCount L.recs.length;have kc:Xy (·=q) wr (wr.setCell ⟨q,115,AI⟩ (.int .i64 (L.recs.length:Nat))):=Qd _ _;obtain⟨Z,hZ⟩:∃Z,wr.setCell ⟨q,115,AI⟩ (.int .i64 (L.recs.length:Nat))=Z:=⟨_,rfl⟩;rw[hZ]at f kc;have A:=C.out.1.apart;obtain⟨J,U,_⟩:=C.out.1.led.set 0 (.bool true);have G:=T.trans kc (λ_ _ e=>e);have B:=C.out.1.lg.keep J G (λb o e=>A q (.inl rfl) (by rw[show q=b from e.symm];exact .inr o));have z:=C.out.1.dk.keep J G (λb o e=>A q (.inl rfl) (by rw[show q=b from e.symm];exact .inl o));have Q:=KF B z (BF C.out.2 G.size);obtain⟨_,d0,_⟩:=f.incCell;subst aB;have I:=BX (A5 f G B z A);clear f G kc B z A J U i S T hk D;go_wp2_with fail;refine Q.mono ?_;rintro e w2⟨rfl,n',s',aE,hD,k2,N⟩;clear Q;go_wp2_with fail;go_ret;obtain⟨f,G,B,z,A⟩:=I.out;have aH:=f.lt m (.inr (.inl rfl));have aC:m≠n':=λe=>by
    rcases N n' (.inr (.inl rfl))with P|P
    ·exact A m (.inr (.inl rfl)) (.inl (by rw[e];exact P))
    ·omega
   have aD:m≠s':=λe=>by
    rcases N s' (.inr (.inr (.inl rfl)))with P|P
    ·exact A m (.inr (.inl rfl)) (.inl (by rw[e];exact P))
    ·omega
   have W:Uz base Z (foot p n s wv):=z.foot_ok;have Y:Zn Z (foot p n s wv):=λb o=>Q3 B z b (.inl o);have K:=f.keep W Y k2 (λb o e=>VL f B z C.out.1.mn C.out.1.ms b o (.inl e));refine⟨rfl,_,n',s',aE,sgv,rlv,⟨K,B.byD z k2,hD,C.out.1.ok.sync,C.out.1.tl.sync,aC,aD⟩,(G.mono (λb _ e=>.inl (.inl e))).trans k2 (λb _ e=>.inr (.inl e)),λb o=>?_⟩;rcases o with o|o|o
   ·exact .inl (.inl o)
   ·rcases N b o with e|e
    ·exact .inl (.inr (.inl e))
    ·exact .inr (BF G.size e)
   ·exact .inl (.inr (.inr o))
attribute [local go_sem] Oper.semAt_some
theorem Zc.notCells[bn:Ib](h:Zc base w q g m lv p n s wv sgv rlv width size ss ts d L)(k:w.heap[b]?=AF (.cells cs t (0,0)))(B:t≠126/\t≠63/\t≠135/\t≠137/\t≠130/\t≠265/\t≠59):¬Qi q g m lv p n s wv sgv rlv b:=by
 obtain⟨t1,D,E,G,H,I,J⟩:=B;rintro(f|f)
 ·obtain⟨_,A⟩:=h.led.kind f;rcases A with⟨o,C,e,i⟩|⟨es,clock,e⟩
  ·rw[k]at e;simp at e;obtain⟨_,rfl⟩:=e;rcases i with e|e
   ·exact t1 e
   ·exact D e
  ·rw[k]at e;cases e
 ·rcases f with f|f
  ·rcases f with rfl|rfl|rfl|f
   ·have e:=h.dk.blk;rw[k]at e;simp at e;exact E e.2
   ·obtain⟨_,_,e,_⟩:=h.dk.now;rw[k]at e;cases e
   ·obtain⟨_,_,e,_⟩:=h.dk.safe;rw[k]at e;cases e
   ·obtain⟨_,z,e⟩:=h.dk.wait.kind b f;rw[k]at e;simp at e;exact G e.2
  ·obtain⟨_,o,C,e,i⟩:=h.lg.kind f;rw[k]at e;simp at e;obtain⟨_,rfl⟩:=e;rcases i with e|e|e
   ·exact H e
   ·exact I e
   ·exact J e
theorem Zc.notDef[bn:Ib](h:Zc base w q g m lv p n s wv sgv rlv width size ss ts d L)(i:w.heap[b]?=AF (.deferred ds)):¬Qi q g m lv p n s wv sgv rlv b:=by
 rintro(f|f)
 ·obtain⟨_,A⟩:=h.led.kind f;rcases A with⟨k,B,e,o⟩|⟨es,clock,e⟩<;>(rw[i]at e;cases e)
 ·rcases f with f|f
  ·rcases f with rfl|rfl|rfl|f
   ·have e:=h.dk.blk;rw[i]at e;cases e
   ·obtain⟨_,_,e,_⟩:=h.dk.now;rw[i]at e;cases e
   ·obtain⟨_,_,e,_⟩:=h.dk.safe;rw[i]at e;cases e
   ·obtain⟨_,z,e⟩:=h.dk.wait.kind b f;rw[i]at e;cases e
  ·obtain⟨_,k,B,e,o⟩:=h.lg.kind f;rw[i]at e;cases e
theorem Zc.cellsAt[bn:Ib]{base:Nat}{w w':AC}{q g m p n s width:Nat}{lv wv sgv rlv:AM}{size:Int}{ss:List Jh}{ts:List Ji}{d:Qr}{L:Xs}(h:Zc base w q g m lv p n s wv sgv rlv width size ss ts d L){b:Nat}{cs:Array AM}{t:TypeId}(f:w.heap[b]?=AF (.cells cs t (0,0)))(B:t≠126/\t≠63/\t≠135/\t≠137/\t≠130/\t≠265/\t≠59)(o:t≠5)(A:t≠96)(z:base<=b)(k:Xy (·=b) w w'):Zc base w' q g m lv p n s wv sgv rlv width size ss ts d L :=
 h.keep (λc i=>by subst i;exact⟨z,Qt f,λcs fr e=>by rw[f]at e;simp at e;exact o e.2.1⟩) (Zn.block f A) k (λc i e=>by subst e;exact h.notCells f B i)
theorem Zc.defAt[bn:Ib]{base:Nat}{w w':AC}{q g m p n s width:Nat}{lv wv sgv rlv:AM}{size:Int}{ss:List Jh}{ts:List Ji}{d:Qr}{L:Xs}(h:Zc base w q g m lv p n s wv sgv rlv width size ss ts d L){b:Nat}{ds:Option (List Deferred)}(i:w.heap[b]?=AF (.deferred ds))(o:base<=b)(k:Xy (·=b) w w'):Zc base w' q g m lv p n s wv sgv rlv width size ss ts d L :=
 h.keep (λc f=>by subst f;exact⟨o,Qt i,λcs fr e=>by rw[i]at e;cases e⟩) (λc f z=>by obtain⟨cs,fr,e⟩:=z;rw[show c=b from f,i]at e;cases e) k (λc f e=>by subst e;exact h.notDef i f)
def MK [bn:Ib](base:Nat)(w:AC)(p n s:Nat)(wv:AM)(width:Nat)(size c:Int)(ss:List Jh)(ts:List Ji)(d:Qr)(L:Xs)(e:Ending)(w':AC):Prop :=
 ∃v,e=.returned (.tuple #[v,.int .i64 c])/\((c=0/\∃q g m:Nat,v=.pointer (AF ⟨q,0,AI⟩)/\w.heap.size<=q/\Ga base w q g m p width size ss ts d.sync L.sync (foot p n s wv) w')\/(c=5/\v=.pointer AI/\Xy (foot p n s wv) w w'))
theorem NE[bn:Ib](hd:Qo base w p n s wv d)(h7:Sx j cnt (Zk ts) ss d x)(hj:j<=900)(Y:∀(k:Nat) r,ts[k]?=AF r->(told width (ts.take k)).can r)(aS:∀r∈ts,r.bytes.length<=1000)(bH:(told width ts).recs.length<=1073741824)(ay:(told width ts).inc<=1000000)(hw:1<=width/\width<=1024)(hz:1<=size)(f:base<=w.heap.size)(hT:ban.top<=w.heap.size)(aK:Ha c size ss ts d (told width ts) (.inc ((told width ts).inc+1)) ss' ts' d' L') :
  DJ Tryz.prog 20 #[.pointer (AF ⟨p,0,AI⟩),.agg #[.int .u64 width,.int .i64 size]] w (MK base w p n s wv width size c ss' ts' d' L'):=by
 have cX:ts.length<=900:=by
  have H:=h7.good.next;have R:=h7.next;have e:(Zk ts).length=ts.length:=by simp[Zk]
  omega
 have dE:¬(width:Int)<1:=by omega
 have dF:¬(1024:Int)<(width:Int):=by omega
 have dG:(width:Int)<=1024:=by omega
 have C:=BX (A10 hd h7 aK hj trivial trivial hw hz f hT);have HG:=BX (A6 trivial cX Y aS bH ay);clear cX Y aS bH ay;clear hd h7 aK hj hw hz f hT;refine(callsIn_wide (n:=6)).1 ?_;refine callsIn_of_wp_marks Tryz.func20 rfl trivial ?_ rfl;simp only[Tryz.ntmps20,List.size_toArray,List.length_cons,List.length_nil,Nat.reduceAdd,Nat.reduceSub,Array.replicate_succ,Array.replicate_zero,List.push_toArray,List.append_toArray,List.nil_append,List.cons_append];refine wpIn_wide.2 ?_;refine wp_mono (Q:=Gc _) ?_ (λe a w h=>Ry h);have kA:Xy No w (((w.alloc (.cells #[.int .u64 width,.int .i64 size] 35)).alloc (.cells #[.pointer AI] 32)).alloc (.cells #[.int .i64 0] 46)):=(((Xy.refl _ _).alloc _).alloc _).alloc _;have cS:(Zk ts).length=ts.length:=by simp[Zk]
 have bD:=KD (size:=size) (C.out.1.no kA) (BF C.out.qi kA.size) (BF C.out.rj kA.size) (C.out.2.1.good.diskL (by have:=C.out.qd;omega) C.out.2.1.rel.now C.out.2.1.rel.kn) C.out.qh;have HK:=BX kA;have cq:=@run_makeMap Tryz.prog;clear kA;go_upto_region 7 with(go_at_call 54;refine bD.mono ?_;rintro e w1 ⟨g,sv,lv,rfl,az,ax,k1,cK⟩);have bj:Zd base w1 g p sv lv (Ku size ss)/\Qo base w1 p n s wv d:=⟨az,ax⟩;clear az ax;rw[JH];obtain⟨cs,bX⟩:∃cs,cs=(Xq g 0 (BT 16 (Ki zeroAg (.slice AI 0 0) (.slice AI 0 0))) (.slice AI 0 0) 0 w1.heap.size).toArray:=⟨_,rfl⟩;rw[<- bX];obtain⟨W2,aQ⟩:∃W2,W2=(((w1.alloc (.map #[] 0)).alloc (.cells cs 126)).alloc (.cells #[.pointer (AF ⟨w1.heap.size+1,0,AI⟩)] 32)):=⟨_,rfl⟩;have aB:Xy No w1 W2:=by rw[aQ];exact(((Xy.refl _ _).alloc _).alloc _).alloc _
 have cI:W2.heap[w1.heap.size]?=AF (.map #[] 0):=by rw[aQ];exact(((Xy.refl No _).alloc _).alloc _).heap (Qy _ _) id
 have be:W2.heap[w1.heap.size+1]?=AF (.cells cs 126 (0,0)):=by rw[aQ];have:=Qy (w1.alloc (.map #[] 0)) (.cells cs 126);rw[FE]at this;exact((Xy.refl No _).alloc _).heap this id
 have aW:W2.heap[w1.heap.size+1+1]?=AF (.cells #[.pointer (AF ⟨w1.heap.size+1,0,AI⟩)] 32 (0,0)):=by rw[aQ];have:=Qy ((w1.alloc (.map #[] 0)).alloc (.cells cs 126)) (.cells #[.pointer (AF ⟨w1.heap.size+1,0,AI⟩)] 32);rw[FE,FE]at this;exact this
 rw[<- aQ];clear aQ;rw[bX]at be;clear bX;have cb:=BF HK.out.size k1.size;have cT:w.heap.size+1+1<w1.heap.size:=by have:=k1.size;simp at this;omega
 have aM:=TF (base:=base) (width:=width) be ⟨_,cI⟩ (BF C.out.qi (by omega)) (BF C.out.qi cb);have ce:=HK.out.then (k1.then aB);have aG:W2.heap[w.heap.size]?=AF (.cells #[.int .u64 width,.int .i64 size] 35 (0,0)):=(k1.then aB).heap ((((Xy.refl No _).alloc _).alloc _).heap (Qy w _) id) id;have cN:W2.heap[w.heap.size+1]?=AF (.cells #[.pointer AI] 32 (0,0)):=(k1.then aB).heap (((Xy.refl No _).alloc _).heap (by have:=Qy (w.alloc (.cells #[.int .u64 width,.int .i64 size] 35)) (.cells #[.pointer AI] 32);rw[FE]at this;exact this) id) id;have cO:W2.heap[w.heap.size+1+1]?=AF (.cells #[.int .i64 0] 46 (0,0)):=(k1.then aB).heap (by have:=Qy ((w.alloc (.cells #[.int .u64 width,.int .i64 size] 35)).alloc (.cells #[.pointer AI] 32)) (.cells #[.int .i64 0] 46);rw[FE,FE]at this;exact this) id;obtain⟨q,bi⟩:∃q,q=w1.heap.size+1:=⟨_,rfl⟩;obtain⟨b8,bQ⟩:∃b8,b8=w1.heap.size+1+1:=⟨_,rfl⟩;obtain⟨m,bb⟩:∃m,m=w1.heap.size:=⟨_,rfl⟩;rw[<- bQ]at aW⊢;rw[<- bi]at aW aM;rw[<- bb]at aM;have cc:=Qq aG 0;have c8:=Qq aW 0;simp at cc c8;have z:=BX (A14 (A2 (bj.1.no aB) (bj.2.no aB)) cK aM ce cN cO aW bi bQ bb cT k1 aG aB);clear bj cK aM ce cN cO aW bi bQ bb cT cI be aB k1 cb bD aG cq;go_wp2_with fail;go_loopw [35] (λbo wr=>∃k,bo=.int .i64 (k:Nat)/\k<=16/\Zv base wr q g m (.slice AI 0 0) (Xs.initK width k)/\Xy (·=q) W2 wr) (λbo _=>16-(intOf bo).toNat);case atStart=>exact⟨0,rfl,BW _,z.out.qc,Xy.refl _ _⟩
 case round =>
  obtain⟨k,rfl,hk,Z,kr⟩:=hrel;have ae:¬b8=q:=λe=>by have H:=z.out.qh;have R:=z.out.qi;omega
  have bh:¬w.heap.size=q:=λe=>by have H:=z.out.qh;have R:=z.out.qk;omega
  have cc:=kr.cell cc bh;have c8:=kr.cell c8 ae;by_cases aq:k<16
  ·obtain⟨X,cV⟩:=KR (width:=width) aq;have dD:(k:Int)<16:=by omega
   have kd:Xy No wr wr.drew:=(Xy.refl _ _).drew;have I:=BX (A5 Z kr X cV aq);clear Z kr X cV aq hk;go_wp2_with fail;refine Ql (λw'=>Xy No wr w') [0,1,2,3,5,6] [4] [7,8,9] (by kernel_rfl) (by kernel_rfl) (λ_ _ _ _ _ h=>h) kd ?_;iterate 6(refine Qk (v:=?_) rfl rfl rfl ?_ ?_;rotate_left;focus(
    intro w' hS;have f1:=hS.cell cc id;have f2:=hS.cell c8 id;go_simp
    try with_reducible rfl))
   refine Qj (Qx rfl rfl (λK hK=>?_));go_simp;refine(SP _ width).mono ?_;rintro e w3⟨u3,rfl,cY,k3⟩;have aw:=kd.then k3;obtain⟨o3,c3,rfl,cQ⟩:=cY.form;refine hK _ _ aw ?_;clear hK K;have ap:=I.out.1.no aw;obtain⟨ak,bI⟩:=ap.setNow I.out.qc (Xn.new width) cQ;rw[I.out.qd]at ak;obtain⟨_,_,_,_,_,a1,a2,a3,_⟩:=ap.agCell I.out.qc;have fq:=ap.incCell.2.2;have HS:=BX (A3 ak bI aw);clear ak bI aw ap cY cQ k3 kd;refine Qh (Qu rfl (Qu rfl (Qu rfl (Qm ?_))));go_wp2_with fail;go_roundw;case rel=>exact⟨k+1,by congr 1,by have:=I.out.re;omega,HS.out.1,(I.out.2.1.then HS.out.2.2).trans HS.out.2.1 (λ_ _ e=>e)⟩
   case measure=>have:=I.out.re;simp[intOf];omega
  ·have cp:k=16:=by omega
   subst cp;rw[TC]at Z;have I:=BX (A4 Z kr ae bh);clear Z kr hk aq ae bh;go_wp2_with(go_at_call 56;refine(RG _ g).mono ?_;rintro e w4 ⟨rfl,V⟩);have k4:Xy No wr w4:=by rw[V];exact(Xy.refl _ _).alloc _
   have bu:w4.heap[wr.heap.size]?=AF (.cells #[.pointer (AF ⟨g,0,AI⟩)] 41 (0,0)):=by rw[V];exact Qy _ _
   rw[<- V];clear V;have af:∀b,Kx g p n s wv sv lv b->¬b=q:=λb f e=>by
    have H:=z.out.qh;have R:=z.out.qk;rcases f with f|f
    ·have:=(C.out.1.foot_ok b f).2.1;omega
    ·have:=z.out.1.1.lt b f;have h3:=z.out.2.1 b f;have h4:=Y6 z.out.1.1 z.out.1.2 b (.inr f);obtain⟨_,bp,t',e',al⟩:=z.out.1.1.kind f;obtain⟨ags,hz,_⟩:=z.out.2.2.1.blk;rw[e,hz]at e';simp at e';obtain⟨_,rfl⟩:=e';rcases al with al|al|al<;>simp at al
   obtain⟨bS,cm,_⟩:=z.out.2.2.1.set 0 (.bool true);have ag:=A2 ((z.out.1.1.keep bS I.out.2.1 (λb f=>af b (.inr f))).no k4) ((z.out.1.2.keep bS I.out.2.1 (λb f=>af b (.inl f))).no k4);have bW:=Qq bu 0;simp at bW;have V:w.heap.size<=w4.heap.size:=BF z.out.2.2.2.1.size (BF I.out.2.1.size k4.size);have M:=I.out.1.no k4;have aL:=BF C.out.qi V;have ab:=BF C.out.rj V;have cJ:m<w4.heap.size:=M.lt m (.inr (.inl rfl));have cP:q<w4.heap.size:=M.lt q (.inl rfl);have aY:Uz base w4 (λb=>b=q\/b=m):=λb e=>M.foot b (e.elim .inl (λe=>.inr (.inl e)));have bw:¬(wr.heap.size=q\/wr.heap.size=m):=λe=>by
    rcases e with e|e
    ·have:=I.out.1.lt q (.inl rfl);omega
    ·have:=I.out.1.lt m (.inr (.inl rfl));omega
   have cH:∀b,Yg g sv lv b->¬(b=q\/b=m):=λb f e=>by
    rcases e with e|e
    ·exact af b (.inr f) e
    ·obtain⟨_,bp,t',e',_⟩:=z.out.1.1.kind f;obtain⟨es,clock,hz,_⟩:=z.out.2.2.1.by';rw[e,hz]at e';cases e'
   have aj:=RU (n:=5) (F:=λb=>b=q\/b=m) (by decide) ag.1 aL ab (by have H:=C.out.2.1.next;have R:=HG.out.2.1;show max (Zz 0 ss) 1<=_;omega) (by have H:=C.out.2.1.next;show(Qw ss).length<=max (Zz 0 ss) 1;rw[C.out.2.1.recs];omega)
    (λb f=>by
     have f:b∈Zk ts:=by rw[<- C.out.2.1.recs];exact f
     obtain⟨r,hr,rfl⟩:=List.mem_map.1 f;have:=HG.out.qd r hr
     omega) bW aY cH bw
   have bT:Rp base width ts w4 q g m [] w4:=⟨_,M,Xd.refl _ _ _,λc hc=>by cases hc⟩;have H4:=BX (A8 ag k4 V af cJ aL ab aY);clear ag k4 V af bW bu bS cm M aY bw cP cH;refine(wpIn_wide (n:=6)).1 ?_
   refine' Oo rfl (by decide) (gf:=103) (lb:=#[.pointer (AF ⟨wr.heap.size,0,AI⟩)]) rfl trivial (enters_of Tryz.func103 (by kernel_rfl) rfl) aj
    (λh k=>h.trans k) (λA B row hs hg hr=>Xd.grown hg hs (λr e=>(hr r e).1)) (λ_=>rfl) (Rp base width ts w4 q g m) (Rp.own aL cJ) (λpre x s A B row h hg hr=>by obtain⟨b,H,R,h3⟩:=h;exact⟨b,H,R,h3.turned hg hr⟩) bT _ ?assign ?body ?done
   case assign =>
    intro l x W K hK;unfold JY
    gi_wp2
    exact hK
   case body =>
    rintro l pre x W⟨dH,aI,ad,cM⟩⟨b,f,_,bV⟩;have f:(Zk ts)[pre.length]?=AF b:=by rw[<- C.out.2.1.recs];exact f
    obtain⟨r,hr,cC⟩:∃r,ts[pre.length]?=AF r/\r.bytes=b:=by
     unfold Zk at f;rw[CK]at f;cases X:ts[pre.length]? with
     | none=>rw[X]at f;simp at f
     | some r=>rw[X]at f;exact⟨r,rfl,by simpa using f⟩
    rw[<- cC]at bV;have Y:=HG.out.qc _ _ hr;have bG:(told width (ts.take pre.length)).recs.length<=1073741824:=by have H:=(Gp width ts (k:=pre.length) (k':=ts.length) (by have:=(BK.1 hr).1;omega)).length_le;rw[BZ]at H;have:=HG.out.qe;omega
    have bC:=Gb C.out.qg (λk r' hk=>((Jc.mk rfl rfl rfl HG.out.qc:Jc width ts (told width ts)).take pre.length).can k r' hk);have cn:=Au aI bC bV Y (by have:=HG.out.qd r (FB hr);omega) bG (BF aL ad.size) (BF ab ad.size);have bO:=ad.keep.cell (H4.out.2.1.cell c8 id) (λe=>by
     have H:=z.out.qh;have R:=z.out.qi;have h3:=z.out.qj;have e:b8=q\/b8=m:=e
     rcases e with e|e<;>omega)
    have cU:ts.take (pre.length+1)=ts.take pre.length++[r]:=by rw[List.take_add_one,hr];rfl
    have HB:=BX (A4 aI ad cM cU);clear aI ad cM cU f bV Y bG bC hr cC aj bT cc c8
    gi_wp2_with (refine⟨trivial,?_⟩;gi_at_call 57;refine(callsIn_wide.2 cn).mono ?_;rintro e W2 ⟨rfl,cv,bZ,k2,cr⟩)
    have cF:Xd w4.heap.size (λb=>b=q\/b=m) W W2:=⟨k2.os,k2.tape,k2.output,k2.size,λc hc hn=>k2.block c (Nat.lt_of_lt_of_le hc HB.out.2.1.size) (λe=>by
     rcases e with e|e|e
     ·exact hn (.inl e)
     ·exact hn (.inr e)
     ·have:=HB.out.qc c e;omega)⟩
    refine⟨λc o hc ho hn=>k2.heap ho (λe=>?_),cF,cv,?_,HB.out.2.1.trans cF,λc hc=>?_⟩
    ·rcases e with e|e|e
     ·obtain⟨ags,hz,_⟩:=HB.out.1.blk;rw[e,hz]at ho;cases ho;cases hn
     ·have:=H4.out.qe;omega
     ·obtain⟨_,cy,hz⟩:=HB.out.1.recs.kind c e;rw[hz]at ho;cases ho;cases hn
    ·rw[BO,List.length_singleton,HB.out.2.2.2,Vv];exact bZ
    ·rcases cr c hc with h|h
     ·exact HB.out.qc c h
     ·have:=HB.out.2.1.size;omega
   case done =>
    rintro D xs W hD hS hI hK;obtain⟨bm,U,cE,cL⟩:=hI;have cd:xs.length=ts.length:=by rw[hS];show(Qw ss).length=_;rw[C.out.2.1.recs,cS]
    rw[cd,BZ]at U;clear aj hS cd bT;have aT:=cE.keep;have aU:Xy (λb=>b=q\/b=m) wr W:=H4.out.2.1.no.trans aT (λ_ _ e=>e);have ah:∀b,Kx g p n s wv sv lv b->¬(b=q\/b=m):=(λb f e=>by
     rcases e with e|e
     ·exact H4.out.qd b f e
     ·have H:=z.out.qj;have R:=z.out.qk;rcases f with f|f
      ·have:=(C.out.1.foot_ok b f).2.1;omega
      ·obtain⟨_,bp,t',e',_⟩:=z.out.1.1.kind f;obtain⟨es,clock,hz,_⟩:=z.out.2.2.1.by';have:=z.out.1.1.lt b f;obtain⟨_,_,_,bq,_⟩:=H4.out.1.1.kind f;obtain⟨cz,cj,ct,_⟩:=(I.out.1.no H4.out.2.1).by';rw[e,ct]at bq
       cases bq)
    have ai:=A2 (H4.out.1.1.keep H4.out.rh aT (λb f=>ah b (.inr f))) (H4.out.1.2.keep H4.out.rh aT (λb f=>ah b (.inl f)));clear ah;have bc:m≠n/\m≠s:=by have H:=z.out.qj;have R:=z.out.qk;have h3:=(C.out.1.foot_ok n (.inr (.inl rfl))).2.1;have h4:=(C.out.1.foot_ok s (.inr (.inr (.inl rfl)))).2.1;exact⟨by omega,by omega⟩
    have bz:Zc base W q g m bm p n s wv sv lv width size ss ts d (told width ts):=⟨U,ai.1,ai.2,Gb C.out.qg HG.out.qc,⟨rfl,rfl,rfl,HG.out.qc⟩,bc.1,bc.2⟩;have bU:¬(b8=q\/b8=m):=λe=>by
     have H:=z.out.qh;have R:=z.out.qi;have h3:=z.out.qj;rcases e with e|e<;>omega
    have bO:=aU.cell c8 bU;have bt:=aU.heap (I.out.2.1.heap z.out.qg I.out.qc) bU;have bf:¬w.heap.size+1=q:=λe=>by have H:=z.out.qh;have R:=z.out.qk;omega
    have bg:¬w.heap.size+1+1=q:=λe=>by have H:=z.out.qh;have R:=z.out.qk;omega
    have bA:¬w.heap.size+1=m:=λe=>by have H:=z.out.qj;have R:=z.out.qk;omega
    have bB:¬w.heap.size+1+1=m:=λe=>by have H:=z.out.qj;have R:=z.out.qk;omega
    have bE:=aU.heap (I.out.2.1.heap z.out.qe bf) (λe=>e.elim bf bA);have bF:=aU.heap (I.out.2.1.heap z.out.qf bg) (λe=>e.elim bg bB);obtain⟨i1,_,_⟩:=U.incCell;have cZ:w.heap.size<=W.heap.size:=BF H4.out.qc aT.size;have HL:=BX (A10 bz bt bE bF hK hD cZ aU aT cL);obtain⟨inc,T⟩:∃inc,inc=(told width ts).inc:=⟨_,rfl⟩;rw[<- T]at i1;have ac:inc<=1000000:=by rw[T];exact HG.out.rf
    have co:IntKind.u64.wrap ((inc:Int)+1)=((inc+1:Nat):Int):=by rw[F0];omega
    have aV:=BX (A2 T ac);clear bz bt bE bF hK hD cZ U ai bc aU aT bf bg bA bB bU cc c8 cE cL T ac;go_upto_region 16 with fail;have kd:Xy No W W.drew:=(Xy.refl _ _).drew;refine Ql (λw'=>Xy No W w') [0,2,3,4,5,6] [1,7] [8,9] (by kernel_rfl) (by kernel_rfl) (λ_ _ _ _ _ h=>h) kd ?_;iterate 6(refine Qk (v:=?_) rfl rfl rfl ?_ ?_;rotate_left;focus(
     intro w' hS;have f1:=hS.cell bO id;have f2:=hS.cell i1 id;go_simp
     try with_reducible rfl))
    refine Qj (Qx rfl rfl (λK hK=>?_));go_simp;have kL:=kd.alloc (.cells #[.int .u8 1] 5);refine hK _ _ kL ?_;clear hK K;refine Qx rfl rfl (λK hK=>?_);go_simp;refine(Xk (bn:=Xl) (Vq W.drew 1 (by decide)) (inc+1) (by have:=aV.out.2;omega) (by simp)).mono ?_;rintro e w5⟨v5,rfl,aF,k5⟩;have am:=kL.then k5;refine hK _ _ am ?_;clear hK K;have aZ:=HL.out.1.no am;have aP:w.heap.size<=w5.heap.size:=BF HL.out.qg am.size;have bv:w.heap.size<=(W.drew.alloc (.cells #[.int .u8 1] 5)).heap.size:=BF HL.out.qg kL.size;obtain⟨r,aR⟩:∃r,r=Ji.inc (inc+1):=⟨_,rfl⟩;have cR:[D7 1]++numB (inc+1)=r.bytes:=by rw[aR];rfl
    have cG:r.bytes.length<=11:=by rw[aR];have:=Qp (n:=inc+1) (by have:=aV.out.2;omega);simp[Ji.bytes];omega
    rw[cR]at aF;obtain⟨rl,aS⟩:∃rl,rl=r.bytes.length:=⟨_,rfl⟩;obtain⟨o5,c5,rfl⟩:=aF.form;rw[<- aS]at aF cG⊢;have cB:=aF.bytes (base:=base) (λ_=>BF C.out.rj bv);have aK:=Li (r:=r) aZ cB (by rw[aR];exact⟨by rw[<- aV.out.1];omega,by have:=aV.out.2;omega⟩) (by omega) C.out.2.1.good (by have:=C.out.qd;omega) (C.out.2.1.small (by have:=C.out.qd;omega)) HG.out.qe (BF C.out.qi aP) (BF C.out.rj aP) (by rw[aR,aV.out.1];exact C.out.qc);have S:=BX (A3 aZ am aP);have HE:=BX aR;have cx:=BX aS;clear aR cG cR aS aZ aP bv cB aF kL k5 am kd i1 bO;refine Qh (Qu rfl (Qu rfl (Qm ?_)));have cD:=C.out.2.2.1.code;rcases cD with rfl|rfl
    ·go_upto_region 19 with(go_at_call 58;refine aK.mono ?_;rintro e w6 ⟨rfl,aJ⟩);clear aK;obtain⟨cf,n6,s6,ch,bL,bJ,J,k6,aA⟩:=aJ;have bP:=S.out.2.1.heap HL.out.2.1 id;have N:=S.out.2.1.heap HL.out.qc id;have O:=S.out.2.1.heap HL.out.qd id;have aH:=k6.heap bP (S.out.1.notCells bP (by decide));have E:=k6.heap N (S.out.1.notCells N (by decide));have G:=k6.heap O (S.out.1.notCells O (by decide));have P:=(Xy.refl No w6).drew;have cW:=GJ (J.no P) (BF C.out.qi (BF S.out.2.2 k6.size));have bN:=Qq aH 0;simp at bN;have H6:=BX (A8 J trivial k6 aA aH E G P);clear J k6 aA bP N O aH E G;refine Ql (λw'=>w'.cell? ⟨b8,0,AI⟩=AF (.pointer (AF ⟨q,0,AI⟩))) [0,1] [2] [3,4] (by kernel_rfl) (by kernel_rfl) (λ_ _ _ _ _ h=>h) (P.cell bN id) ?_;iterate 2(refine Qk (v:=?_) rfl rfl rfl ?_ ?_;rotate_left;focus(
      intro w' hS;go_simp
      try with_reducible rfl))
     refine Qj (Qx rfl rfl (λK hK=>?_));go_simp;refine cW.mono ?_;rintro e w7⟨rfl,cg,n7,s7,ci,bM,bK,cA,k7,ar⟩;have J:=H6.out.1.no P;have aH:=P.heap H6.out.qe id;have bs:=k7.heap aH (J.notCells aH (by decide));have E:=P.heap H6.out.qf id;have G:=P.heap H6.out.qg id;have aN:=k7.heap E (J.notCells E (by decide));have aO:=k7.heap G (J.notCells G (by decide));refine hK _ _ (by rw[Qq bs];rfl) ?_;clear hK K cW;have f4:=Qg aN;have f5:=Qg aO;have c4:=Qq aN 0;have c5:=Qq aO 0;simp at c4 c5;have H7:=BX (A6 cA trivial k7 ar aN aO);clear cA k7 ar E G J aH bs aN aO bN;refine Qh (Qu rfl (Qu rfl (Qm ?_)));go_wp2_with fail;have aX:=S.out.2.1.heap HL.out.qe id;have an:=P.heap (H6.out.2.2.1.heap aX (S.out.1.notDef aX)) id;have bx:=H7.out.2.2.1.heap an ((H6.out.1.no P).notDef an);have cl:=HL.out.qf;have ck:w.heap.size+1+1<D:=by have H:=z.out.qk;have R:=(z.out.2.2.2.2.2.2.2.2.2.2.2.2.2).size;have h3:=I.out.2.1.size;have h4:=H4.out.2.1.size;omega
     have kW:Xy (foot p n s wv) w W:=by have H:=z.out.qh;have R:=z.out.qk;have h3:=z.out.qj;have k1:Xy No w wr:=z.out.2.2.2.1.trans I.out.2.1 (λx X e=>by have e:x=q:=e;omega);exact(k1.trans HL.out.qh (λx X e=>by have e:x=q\/x=m:=e;rcases e with e|e<;>omega)).no
     have dB:D<w7.heap.size:=Qt bx;have dC:=C.out.qi;have aC:Xy (·=w.heap.size+1) w7 (w7.setCell ⟨w.heap.size+1,0,AI⟩ (.pointer (AF ⟨q,0,AI⟩))):=Xy.setCell (F:=(·=w.heap.size+1)) (Xy.refl _ _) (.inl rfl) _;have r5:=(H7.out.1.cellsAt H7.out.qe (by decide) (by decide) (by decide) (by omega) aC);have z4:=Qz (i:=0) (u:=.pointer (AF ⟨q,0,AI⟩)) H7.out.qe;have bR:=aC.heap bx (λe=>by have e:D=w.heap.size+1:=e;omega);have z5:=aC.heap H7.out.rf (λe=>by have e:w.heap.size+1+1=w.heap.size+1:=e;omega);generalize w7.setCell ⟨w.heap.size+1,0,AI⟩ (.pointer (AF ⟨q,0,AI⟩))=w8 at *;have aD:Xy (·=w.heap.size+1+1) w8 (w8.setCell ⟨w.heap.size+1+1,0,AI⟩ (.int .i64 0)):=Xy.setCell (F:=(·=w.heap.size+1+1)) (Xy.refl _ _) (.inl rfl) _;have r6:=(r5.cellsAt z5 (by decide) (by decide) (by decide) (by omega) aD);have ao:=aD.heap bR (λe=>by have e:D=w.heap.size+1+1:=e;omega);have z4:=aD.heap z4 (λe=>by have e:w.heap.size+1=w.heap.size+1+1:=e;omega);have z5:=Qz (i:=0) (u:=.int .i64 0) z5;generalize w8.setCell ⟨w.heap.size+1+1,0,AI⟩ (.int .i64 0)=w9 at *;have bY:=PA w9 D (.deferred AI);have aE:Xy (·=D) w9 (w9.putObj D (.deferred AI)):=(Xy.refl _ _).grown bY (λr e=>by cases e;exact .inl rfl);have r7:=r6.defAt ao (by omega) aE;have z4:=aE.heap z4 (λe=>by have e:w.heap.size+1=D:=e;omega);have z5:=aE.heap z5 (λe=>by have e:w.heap.size+1+1=D:=e;omega);refine(show bodyPostM _ _ _ _ _ Exit.ret _ _ from⟨by simp,.inl ⟨_,_,rfl,PB ao,?_⟩⟩);generalize w9.putObj D (.deferred AI)=cw at *;have c4:=Qq z4 0;have c5:=Qq z5 0;simp at c4 c5;have av:w.heap.size<=q:=by have H:=z.out.qh;have R:=z.out.qk;omega
     have bd:w.heap.size<=m:=by have H:=z.out.qj;have R:=z.out.qk;omega
     have au:∀b,Qi q g m bm p n s wv sv lv b->foot p n s wv b\/w.heap.size<=b:=by
      rintro b (f|f)
      ·rcases f with rfl|rfl|f
       ·exact .inr av
       ·exact .inr bd
       ·exact .inr (BF H4.out.qc (HL.out.rj b f))
      ·rcases f with f|f
       ·exact .inl f
       ·exact .inr (BF HK.out.size (z.out.2.1 b f))
     have br:w.heap.size<=w6.drew.heap.size:=BF S.out.2.2 (BF H6.out.2.2.1.size P.size);have dA:=BF br H7.out.2.2.1.size;have aA:∀b,Qi q g m cf p n6 s6 ch bL bJ b->foot p n s wv b\/w.heap.size<=b:=λb f=>(H6.out.qd b f).elim (au b) (λh=>.inr (BF S.out.2.2 h));have ar:∀b,Qi q g m cg p n7 s7 ci bM bK b->foot p n s wv b\/w.heap.size<=b:=λb f=>(H7.out.qd b f).elim (aA b) (λh=>.inr (BF br h));have bk:Xy (foot p n s wv) w w6.drew:=((kW.then S.out.2.1).trans H6.out.qc (λx X e=>(au x e).elim id (λh=>absurd h (by omega)))).then P;have cu:Xy (foot p n s wv) w w7:=bk.trans H7.out.qc (λx X e=>(aA x e).elim id (λh=>absurd h (by omega)));have bl:=((cu.trans aC (λx X e=>by have e:x=_:=e;omega)).trans aD (λx X e=>by have e:x=_:=e;omega)).trans aE (λx X e=>by have e:x=_:=e;omega);refine⟨_,(by simp[results,Tryz.results20,go_sem,c4,c5]),_,rfl,.inl ⟨rfl,q,g,m,rfl,av,⟨cg,n7,s7,ci,bM,bK,r7,bl,ar⟩⟩⟩
    ·go_upto_region 18 with(go_at_call 58;refine aK.mono ?_;rintro e w6 ⟨rfl,aJ⟩);clear aK;obtain⟨cf,n6,s6,ch,bL,bJ,J,k6,aA⟩:=aJ;have N:=S.out.2.1.heap HL.out.qc id;have O:=S.out.2.1.heap HL.out.qd id;have E:=k6.heap N (S.out.1.notCells N (by decide));have G:=k6.heap O (S.out.1.notCells O (by decide));have f4:=Qg E;have f5:=Qg G;have c4:=Qq E 0;have c5:=Qq G 0;simp at c4 c5;have H6:=BX (A5 J k6 aA E G);clear J k6 aA N O E G;go_wp2_with fail;have aX:=S.out.2.1.heap HL.out.qe id;have an:=H6.out.2.1.heap aX (S.out.1.notDef aX);have ck:w.heap.size+1+1<D:=by have H:=z.out.qk;have R:=(z.out.2.2.2.2.2.2.2.2.2.2.2.2.2).size;have h3:=I.out.2.1.size;have h4:=H4.out.2.1.size;have cl:=HL.out.qf;omega
     have kW:Xy (foot p n s wv) w W:=by have H:=z.out.qh;have R:=z.out.qk;have h3:=z.out.qj;have k1:Xy No w wr:=z.out.2.2.2.1.trans I.out.2.1 (λx X e=>by have e:x=q:=e;omega);exact(k1.trans HL.out.qh (λx X e=>by have e:x=q\/x=m:=e;rcases e with e|e<;>omega)).no
     have aC:Xy (·=w.heap.size+1) w6 (w6.setCell ⟨w.heap.size+1,0,AI⟩ (.pointer AI)):=Xy.setCell (F:=(·=w.heap.size+1)) (Xy.refl _ _) (.inl rfl) _;have z4:=Qz (i:=0) (u:=.pointer AI) H6.out.qd;have bR:=aC.heap an (λe=>by have e:D=w.heap.size+1:=e;omega);have z5:=aC.heap H6.out.re (λe=>by have e:w.heap.size+1+1=w.heap.size+1:=e;omega);generalize w6.setCell ⟨w.heap.size+1,0,AI⟩ (.pointer AI)=w8 at *;have aD:Xy (·=w.heap.size+1+1) w8 (w8.setCell ⟨w.heap.size+1+1,0,AI⟩ (.int .i64 5)):=Xy.setCell (F:=(·=w.heap.size+1+1)) (Xy.refl _ _) (.inl rfl) _;have ao:=aD.heap bR (λe=>by have e:D=w.heap.size+1+1:=e;omega);have z4:=aD.heap z4 (λe=>by have e:w.heap.size+1=w.heap.size+1+1:=e;omega);have z5:=Qz (i:=0) (u:=.int .i64 5) z5;generalize w8.setCell ⟨w.heap.size+1+1,0,AI⟩ (.int .i64 5)=w9 at *;have bY:=PA w9 D (.deferred AI);have aE:Xy (·=D) w9 (w9.putObj D (.deferred AI)):=(Xy.refl _ _).grown bY (λr e=>by cases e;exact .inl rfl);have z4:=aE.heap z4 (λe=>by have e:w.heap.size+1=D:=e;omega);have z5:=aE.heap z5 (λe=>by have e:w.heap.size+1+1=D:=e;omega);refine(show bodyPostM _ _ _ _ _ Exit.ret _ _ from⟨by simp,.inl ⟨_,_,rfl,PB ao,?_⟩⟩);generalize w9.putObj D (.deferred AI)=cw at *;have c4:=Qq z4 0;have c5:=Qq z5 0;simp at c4 c5;have av:w.heap.size<=q:=by have H:=z.out.qh;have R:=z.out.qk;omega
     have bd:w.heap.size<=m:=by have H:=z.out.qj;have R:=z.out.qk;omega
     have au:∀b,Qi q g m bm p n s wv sv lv b->foot p n s wv b\/w.heap.size<=b:=by
      rintro b (f|f)
      ·rcases f with rfl|rfl|f
       ·exact .inr av
       ·exact .inr bd
       ·exact .inr (BF H4.out.qc (HL.out.rj b f))
      ·rcases f with f|f
       ·exact .inl f
       ·exact .inr (BF HK.out.size (z.out.2.1 b f))
     have bk:Xy (foot p n s wv) w w6:=(kW.then S.out.2.1).trans H6.out.2.1 (λx X e=>(au x e).elim id (λh=>absurd h (by omega)));have bl:=((bk.trans aC (λx X e=>by have e:x=_:=e;omega)).trans aD (λx X e=>by have e:x=_:=e;omega)).trans aE (λx X e=>by have e:x=_:=e;omega);exact⟨_,(by simp[results,Tryz.results20,go_sem,c4,c5]),_,rfl,.inr ⟨rfl,rfl,bl⟩⟩
end
end Go.Proofs.YtfdmbomlkpkegaaGreat
