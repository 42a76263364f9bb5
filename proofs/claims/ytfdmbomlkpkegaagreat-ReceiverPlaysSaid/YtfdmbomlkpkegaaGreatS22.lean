/- Lemmas. -/
import Derived.Test.YtfdmbomlkpkegaaGreatS7
import Derived.Test.YtfdmbomlkpkegaaGreatS10
import Derived.Test.YtfdmbomlkpkegaaGreatS20
set_option maxRecDepth 100000
set_option maxHeartbeats 8000000
set_option linter.all false
set_option autoImplicit true
set_option relaxedAutoImplicit true
open Array renaming getElem?_push->OS
open Go renaming Value->AM,World->AC,run_underlying->C8
open Go.Instr renaming findAsking->ON,findKey->OR,findNow->C3,mapUpdate->CD
open Go.Result renaming andThen_ok->OQ
open Go.Sem renaming run_bind->OP
open Go.Value renaming int->DA,oneCell'->ER,slice->DN
open Go.World renaming news_of_block->EQ
open List renaming flatMap_cons->EL,flatten_cons->OD,getElem?_append_left->DO,getElem?_append_right->DP,getElem?_cons_succ->OK,getElem?_eq_getElem->BY,getElem?_eq_some_iff->BK,getElem?_set->OL,length_append->BO,mem_append->CG,mem_singleton->AZ,set_append_left->OH,set_append_right->OJ,set_cons_succ->OI
open Nat renaming add_mul->OT,add_zero->OM,le_refl->BE,zero_add->CI
open Option renaming map_some->OO,none->AI,some->AF
namespace Go.Proofs.YtfdmbomlkpkegaaGreat
section
open Go Go.RowKit
theorem Va:∀{ags:List (List AM)},(∀a∈ags,a.length=7)->ags.flatten.length=ags.length*7
 | [],_=>rfl
 | a::l,h=>by
  rw[OD,BO,h a (by simp),Va (λb d=>h b (by simp[d]))]
  simp
  omega
theorem Q0:∀{ags:List (List AM)} {i f:Nat} {a:List AM},(∀a∈ags,a.length=7)->ags[i]?=AF a->f<7->ags.flatten[i*7+f]?=a[f]?
 | [],i,f,a,_,hi,_=>by simp at hi
 | b::l,0,f,a,h,hi,d=>by
  simp at hi
  subst hi
  rw[OD,DO (by rw[h b (by simp)];omega)]
  simp
 | b::l,i+1,f,a,h,hi,d=>by
  have k:=Q0 (ags:=l) (i:=i) (f:=f) (a:=a) (λb j=>h b (by simp[j])) (by simpa using hi) d
  rw[OD,DP (by rw[h b (by simp)];omega),h b (by simp),<- k]
  congr 1
  omega
theorem Q1:∀{ags:List (List AM)} {i f:Nat} {a:List AM} (u:AM),(∀a∈ags,a.length=7)->ags[i]?=AF a->f<7->ags.flatten.set (i*7+f) u=(ags.set i (a.set f u)).flatten
 | [],i,f,a,_,_,hi,_=>by simp at hi
 | b::l,0,f,a,u,h,hi,d=>by
  simp at hi
  subst hi
  rw[List.set_cons_zero,OD,OD,OH _ _ (by rw[h b (by simp)];omega)]
  simp
 | b::l,i+1,f,a,u,h,hi,d=>by
  have k:=Q1 (ags:=l) (i:=i) (f:=f) (a:=a) u (λb j=>h b (by simp[j])) (by simpa using hi) d
  rw[OI,OD,OD,OJ _ _ (by rw[h b (by simp)];omega),h b (by simp),<- k]
  congr 2
  omega
def Xq (g inc:Nat)(ags:List (List AM))(lv:AM)(safe m:Nat):List AM:=.pointer (AF ⟨g,0,AI⟩) :: .int .u64 inc::(ags.flatten++[lv,.int .i64 safe,.map (AF m)])
theorem JG(h:∀a∈ags,a.length=7)(hi:ags[i]?=AF a)(d:f<7):(Xq g inc ags lv safe m)[2+i*7+f]?=a[f]?:=by have j:=(BK.1 hi).1;rw[show 2+i*7+f=(i*7+f)+1+1 by omega];unfold Xq;rw[OK,OK,DO (by rw[Va h];omega)];exact Q0 h hi d
theorem Je(u:AM)(h:∀a∈ags,a.length=7)(hi:ags[i]?=AF a)(d:f<7) :
  (Xq g inc ags lv safe m).set (2+i*7+f) u=Xq g inc (ags.set i (a.set f u)) lv safe m:=by
 have j:=(BK.1 hi).1;rw[show 2+i*7+f=(i*7+f)+1+1 by omega];unfold Xq;rw[OI,OI,OH _ _ (by rw[Va h];omega),Q1 u h hi d]
theorem XU(h:∀a∈ags,a.length=7)(f:ags.length=16) :
  (Xq g inc ags lv safe m)[114]?=AF lv/\(Xq g inc ags lv safe m)[115]?=AF (.int .i64 safe)/\(Xq g inc ags lv safe m)[116]?=AF (.map (AF m)):=by
 have d:=Va h;rw[f]at d;unfold Xq;refine⟨?_,?_,?_⟩ <;>
 ·simp only[OK];rw[DP (by omega),d];rfl
theorem Ic(u:AM)(h:∀a∈ags,a.length=7)(f:ags.length=16):(Xq g inc ags lv safe m).set 114 u=Xq g inc ags u safe m:=by have d:=Va h;rw[f]at d;unfold Xq;simp only[OI];rw[OJ _ _ (by omega),d];rfl
theorem If(n:Nat)(h:∀a∈ags,a.length=7)(f:ags.length=16):(Xq g inc ags lv safe m).set 115 (.int .i64 n)=Xq g inc ags lv n m:=by have d:=Va h;rw[f]at d;unfold Xq;simp only[OI];rw[OJ _ _ (by omega),d];rfl
def Ki (a:AgS)(ns ss:AM):List AM:=[.int .u64 a.floor,.int .u64 a.now.low,.int .u64 a.now.width,ns,.int .u64 a.safe.low,.int .u64 a.safe.width,ss]
def idV (r:Hk):AM:=.agg #[.int .i64 r.who,.int .u64 r.n]
def Jd (r:Hk)(u:AM):List AM:=[.int .i64 r.who,.int .u64 r.n,.int .i64 r.s.c,u]
def Xu (l:List (Hk×AM)):List AM:=l.flatMap (λx=>Jd x.1 x.2)
def Yi [bn:Ib](base:Nat)(w:AC)(v:AM)(l:List Hk):Prop :=
 ∃xs:List (Hk×AM),xs.map (·.1)=l/\(∀x∈xs,Qv base w x.2 x.1.s.body)/\w.ownsRow base 63 4 v l.length (Xu xs)
def YG (w:AC)(m:Nat)(l:List Hk):Prop :=
 ∃es clock,w.heap[m]?=AF (.map es clock)/\es.size=l.length/\∀(i:Nat) r,l[i]?=AF r->(es[i]?).map (λe=>(e.key,e.val))=AF (idV r,.int .i64 i)
structure Hu (w:AC)(ags:List (List AM))(l:List AgS):Prop where
 len:ags.length=16
 len':l.length=16
 at':∀(i:Nat) a,l[i]?=AF a->∃ns ss,ags[i]?=AF (Ki a ns ss)/\Zy w ns a.now.set/\Zy w ss a.safe.set
structure Zv [bn:Ib](base:Nat)(w:AC)(q g m:Nat)(lv:AM)(L:Xs):Prop where
 blk:∃ags,w.heap[q]?=AF (.cells (Xq g L.inc ags lv L.safe m).toArray 126 (0,0))/\Hu w ags L.ag
 recs:Yi base w lv L.recs
 by':YG w m L.recs
 qb:base<=q
 mb:base<=m
def Kw (q m:Nat)(lv:AM):Nat->Prop:=λb=>b=q\/b=m\/lv.ownBlock=AF b
theorem Hu.seven(h:Hu w ags l):∀a∈ags,a.length=7:=by
 intro a f;obtain⟨i,hi,rfl⟩:=List.getElem_of_mem f;have d:i<l.length:=by rw[h.len',<- h.len];exact hi
 obtain⟨ns,ss,e,_⟩:=h.at' i _ (BY d);rw[BY hi]at e;simp at e;rw[e];rfl
theorem Hu.keep(h:Hu w ags l)(hF:Zn w F)(k:Xy F w w'):Hu w' ags l :=
 ⟨h.len,h.len',λi a hi=>by obtain⟨ns,ss,e,d,f⟩:=h.at' i a hi;exact⟨ns,ss,e,d.keep hF k,f.keep hF k⟩⟩
theorem Yi.keep[bn:Ib](h:Yi base w v l)(hF:Uz base w F)(k:Xy F w w')(j:∀b,v.ownBlock=AF b->¬F b):Yi base w' v l:=by obtain⟨xs,d,f,i⟩:=h;exact⟨xs,d,λx n=>(f x n).keep hF k,Yu i k j⟩
theorem Yi.form[bn:Ib](h:Yi base w v l):∃ao cap,v=.slice ao l.length cap/\l.length<=cap/\cap<=maxLen:=by obtain⟨xs,_,_,d⟩:=h;exact Kj d
theorem Yi.kind[bn:Ib](h:Yi base w v l):∀b,v.ownBlock=AF b->base<=b/\∃d,w.heap[b]?=AF (.cells d 63 (0,0)):=by obtain⟨xs,_,_,f⟩:=h;exact Qa f
theorem YG.keep(h:YG w m l)(k:Xy F w w')(f:¬F m):YG w' m l:=by obtain⟨es,clock,d,r⟩:=h;exact⟨es,clock,k.heap d f,r⟩
section
variable [bn:Ib]{base:Nat}{w w':AC}{q g m:Nat}{lv:AM}{L:Xs}
theorem Zv.kind(h:Zv base w q g m lv L)(f:Kw q m lv b):base<=b/\((∃cs t,w.heap[b]?=AF (.cells cs t (0,0))/\(t=126\/t=63))\/∃es clock,w.heap[b]?=AF (.map es clock)):=by
 rcases f with rfl|rfl|f
 ·obtain⟨ags,d,_⟩:=h.blk;exact⟨h.qb,.inl ⟨_,_,d,.inl rfl⟩⟩
 ·obtain⟨es,clock,d,_⟩:=h.by';exact⟨h.mb,.inr ⟨_,_,d⟩⟩
 ·obtain⟨j,i,d⟩:=h.recs.kind b f;exact⟨j,.inl ⟨_,_,d,.inr rfl⟩⟩
theorem Zv.foot(h:Zv base w q g m lv L):Uz base w (Kw q m lv):=by
 intro b k;obtain⟨i,j⟩:=h.kind k;rcases j with⟨cs,t,d,f⟩|⟨es,clock,d⟩
 ·exact⟨i,Qt d,λcs fr e=>by rw[d]at e;simp at e;obtain⟨_,rfl,_⟩:=e;rcases f with f|f<;>simp at f⟩
 ·exact⟨i,Qt d,λcs fr e=>by rw[d]at e;simp at e⟩
theorem Zv.footR(h:Zv base w q g m lv L):Zn w (Kw q m lv):=by
 intro b n o;obtain⟨p,k⟩:=h.kind n;obtain⟨i,j,e⟩:=o;rcases k with⟨cs,t,f,d⟩|⟨es,clock,f⟩
 ·rw[f]at e;simp at e;obtain⟨_,rfl,_⟩:=e;rcases d with d|d<;>simp at d
 ·rw[f]at e;simp at e
theorem Zv.keep(h:Zv base w q g m lv L)(hF:Uz base w F)(f:Zn w F)(k:Xy F w w')(d:∀b,Kw q m lv b->¬F b):Zv base w' q g m lv L:=by obtain⟨ags,n,i⟩:=h.blk;exact⟨⟨ags,k.heap n (d q (.inl rfl)),i.keep f k⟩,h.recs.keep hF k (λb j=>d b (.inr (.inr j))),h.by'.keep k (d m (.inr (.inl rfl))),h.qb,h.mb⟩
theorem Zv.no(h:Zv base w q g m lv L)(k:Xy No w w'):Zv base w' q g m lv L:=h.keep (Uz.no _ _) (Zn.no _) k (λ_ _ h=>h)
theorem Zv.lt(h:Zv base w q g m lv L):∀b,Kw q m lv b->b<w.heap.size:=λb d=>(h.foot b d).2.1
theorem Zv.apart(h:Zv base w q g m lv L):q≠m/\lv.ownBlock≠AF q/\lv.ownBlock≠AF m:=by
 obtain⟨ags,j,_⟩:=h.blk;obtain⟨es,clock,i,_⟩:=h.by';refine⟨λe=>?_,λe=>?_,λe=>?_⟩
 ·subst e;rw[j]at i;simp at i
 ·obtain⟨_,f,d⟩:=h.recs.kind _ e;rw[j]at d;simp at d
 ·obtain⟨_,f,d⟩:=h.recs.kind _ e;rw[i]at d;simp at d
end
end
section
open Go Go.RowKit Go.Dr
theorem Cm[bn:Ib]{base i:Nat}{w:AC}{s:InS}(h:Hx base w i s)(d:s.l.length<=1099511627776)(k:s.num.1<2305843009213693952) :
  Calls Tryz.prog 158 #[.pointer (AF ⟨i,0,AI⟩)] w λe w'=>e=.returned (.int .u64 s.num.1)/\Hx base w' i s.num.2/\Xy (·=i) w w':=by
 have o:=Gm h d;obtain⟨n,j⟩:∃n,n=s.num.1:=⟨_,rfl⟩;rw[<- j]at o k⊢;have A:decide (2305843009213693952<=(n:Int))=false:=by simp;omega
 have p:¬2305843009213693952<=(n:Int):=by omega
 clear h d j k;go_enter Tryz.func158,Tryz.ntmps158;go_wp2_with(go_at_call 161;refine o.mono ?_;rintro e B ⟨rfl,f,z⟩);go_ret;exact⟨rfl,f,z⟩
theorem Q4[bn:Ib]{base i:Nat}{w:AC}{s:InS}(h:Hx base w i s)(d:s.l.length<=1099511627776)(k:s.num.1<16) :
  Calls Tryz.prog 160 #[.pointer (AF ⟨i,0,AI⟩)] w λe w'=>e=.returned (.int .i64 s.num.1)/\Hx base w' i s.num.2/\Xy (·=i) w w':=by
 have o:=Gm h d;obtain⟨n,j⟩:∃n,n=s.num.1:=⟨_,rfl⟩;rw[<- j]at o k⊢;have z:¬16<=(n:Int):=by omega
 have p:(n:Int)<=15:=by omega
 clear h d j k;go_enter Tryz.func160,Tryz.ntmps160;go_wp2_with(go_at_call 161;refine o.mono ?_;rintro e B ⟨rfl,f,A⟩);go_ret;exact⟨rfl,f,A⟩
theorem Hx.footR[bn:Ib]{base g:Nat}{w:AC}{s:InS}(h:Hx base w g s):Zn w (·=g):=by obtain⟨_,v,d,_⟩:=h;exact Zn.block d (by decide)
theorem Zv.notIn[bn:Ib](h:Zv base w q g m lv L)(hi:Hx base w i s):∀b,Kw q m lv b->¬b=i:=by
 rintro b n rfl;obtain⟨_,v,d,_⟩:=hi;obtain⟨_,k⟩:=h.kind n;rcases k with⟨cs,t,j,f⟩|⟨es,clock,j⟩
 ·rw[j]at d;simp at d;obtain⟨_,rfl⟩:=d;rcases f with f|f<;>simp at f
 ·rw[j]at d;simp at d
theorem Zv.byIn[bn:Ib]{base:Nat}{w w':AC}{q g m i:Nat}{lv:AM}{L:Xs}{s:InS}(h:Zv base w q g m lv L)(hi:Hx base w i s)(k:Xy (·=i) w w'):Zv base w' q g m lv L :=
 h.keep hi.foot hi.footR k (h.notIn hi)
theorem Zv.set[bn:Ib]{base:Nat}{w:AC}{q g m:Nat}{lv:AM}{L:Xs}(h:Zv base w q g m lv L)(j:Nat)(u:AM) :
  Uz base w (·=q)/\Zn w (·=q)/\Xy (·=q) w (w.setCell ⟨q,j,AI⟩ u):=by
 obtain⟨ags,d,_⟩:=h.blk;refine⟨?_,Zn.block d (by decide),Qd _ _⟩;rintro b rfl;exact⟨h.qb,Qt d,λcs fr e=>by rw[d]at e;simp at e⟩
theorem Jq(l:List AM)(j:Nat)(u:AM):l.toArray.setIfInBounds j u=(l.set j u).toArray:=by simp
theorem Zv.setInc[bn:Ib](h:Zv base w q g m lv L)(n:Nat) :
  Zv base (w.setCell ⟨q,1,AI⟩ (.int .u64 n)) q g m lv {L with inc:=n}:=by
 obtain⟨hF,j,k⟩:=h.set 1 (.int .u64 n);obtain⟨d,f,i⟩:=h.apart;obtain⟨ags,z,o⟩:=h.blk;refine⟨⟨ags,?_,o.keep j k⟩,h.recs.keep hF k (λb p e=>f (by rw[p,show b=q from e])),h.by'.keep k (λe=>d e.symm),h.qb,h.mb⟩;rw[Qz z,Jq];rfl
theorem Zv.incCell[bn:Ib](h:Zv base w q g m lv L):w.cell? ⟨q,1,AI⟩=AF (.int .u64 L.inc)/\w.cell? ⟨q,0,AI⟩=AF (.pointer (AF ⟨g,0,AI⟩))/\∀j,w.frozen? ⟨q,j,AI⟩=false:=by obtain⟨ags,d,f⟩:=h.blk;rw[Qq d,Qq d];exact⟨by simp[Xq],by simp[Xq],Qg d⟩
theorem GR(d:n<18446744073709551616):InS.num ⟨numB n,0⟩=(n,⟨[],0⟩):=by have:=Gx d [];rw[List.append_nil]at this;exact this
theorem ZI:InS.end' ⟨[],0⟩=⟨[],0⟩:=by unfold InS.end';rw[if_pos rfl]
theorem Ih[bn:Ib](h:Zv base w q g m lv L)(hi:Hx base w i ⟨numB n,0⟩)(z:n<2305843009213693952)(E:L.inc<n) :
  Calls Tryz.prog 109 #[.pointer (AF ⟨q,0,AI⟩),.pointer (AF ⟨i,0,AI⟩)] w λe w'=>e=.returned (.bool true)/\Zv base w' q g m lv (L.step (.inc n))/\Xy (λb=>b=q\/b=i) w w':=by
 have k:=Qp (n:=n) (by omega);have d:=GR (n:=n) (by omega);have p:=Cm hi (by show(numB n).length<=_;omega) (by rw[d];exact z);rw[d]at p;have C:¬(n:Int)<=(L.inc:Int):=by omega
 have o:=Lib.hid (A2 h hi);clear h hi z E k d;go_enter Tryz.func109,Tryz.ntmps109;go_wp2_with(first
  | (go_at_call 159;refine(Ws f).mono ?_;rw[ZI];rintro e K ⟨rfl,D,B⟩;have j:=(o.out.1.byIn o.out.2 A).byIn f B;obtain⟨G,F,H⟩:=j.incCell)
  | (go_at_call 158;refine p.mono ?_;rintro e J ⟨rfl,f,A⟩))
 go_ret;refine⟨rfl,j.setInc n,((A.trans B (λ_ _ e=>e)).mono (λx _ e=>.inr e)).trans (Qd _ _) (λx I e=>.inl e)⟩
theorem Zv.agCell[bn:Ib](h:Zv base w q g m lv L)(o:L.ag[a]?=AF x) :
  ∃ns ss,Zy w ns x.now.set/\Zy w ss x.safe.set/\w.cell? ⟨q,2+a*7,AI⟩=AF (.int .u64 x.floor)/\w.cell? ⟨q,2+a*7+1,AI⟩=AF (.int .u64 x.now.low)/\w.cell? ⟨q,2+a*7+2,AI⟩=AF (.int .u64 x.now.width) /\
   w.cell? ⟨q,2+a*7+3,AI⟩=AF ns/\w.cell? ⟨q,2+a*7+4,AI⟩=AF (.int .u64 x.safe.low)/\w.cell? ⟨q,2+a*7+5,AI⟩=AF (.int .u64 x.safe.width)/\w.cell? ⟨q,2+a*7+6,AI⟩=AF ss:=by
 obtain⟨ags,p,i⟩:=h.blk;obtain⟨ns,ss,e,k,n⟩:=i.at' a x o;have c:=λ(f:Nat) (j:f<7)=>JG (g:=g) (inc:=L.inc) (lv:=lv) (safe:=L.safe) (m:=m) i.seven e j;have d:=λ(f:Nat) (j:f<7)=>(Qq p (2+a*7+f)).trans ((List.getElem?_toArray ..).trans (c f j));exact⟨ns,ss,k,n,d 0 (by decide),d 1 (by decide),d 2 (by decide),d 3 (by decide),d 4 (by decide),d 5 (by decide),d 6 (by decide)⟩
theorem Hu.set(h:Hu w ags l)(n:l[a]?=AF x)(j:Zy w ns y.now.set)(k:Zy w ss y.safe.set) :
  Hu w (ags.set a (Ki y ns ss)) (l.set a y):=by
 refine⟨by simp[h.len],by simp[h.len'],λi z d=>?_⟩;have f:=(BK.1 n).1;rw[OL]at d⊢;by_cases e:a=i
 ·subst e;rw[if_pos rfl,if_pos f]at d;rw[if_pos rfl,if_pos (by rw[h.len,<- h.len'];exact f)];simp at d;subst d;exact⟨ns,ss,rfl,j,k⟩
 ·rw[if_neg e]at d⊢;exact h.at' i z d
theorem Gk{l:List AgS}(f:AgS->AgS)(d:l[a]?=AF x):l.modify a f=l.set a (f x):=by
 obtain⟨h,rfl⟩:=BK.1 d;apply List.ext_getElem?;intro i;rw[List.getElem?_modify,OL];by_cases e:a=i
 ·subst e;simp[h]
 ·simp[e]
theorem Zv.setFloor[bn:Ib](h:Zv base w q g m lv L)(p:L.ag[a]?=AF x)(n:Nat) :
  Zv base (w.setCell ⟨q,2+a*7,AI⟩ (.int .u64 n)) q g m lv (L.step (.floor a n)):=by
 obtain⟨hF,o,k⟩:=h.set (2+a*7) (.int .u64 n);obtain⟨i,j,A⟩:=h.apart;obtain⟨ags,E,d⟩:=h.blk;obtain⟨ns,ss,e,B,C⟩:=d.at' a x p;have z:=Je (g:=g) (inc:=L.inc) (lv:=lv) (safe:=L.safe) (m:=m) (f:=0) (.int .u64 n) d.seven e (by decide);refine⟨⟨ags.set a (Ki {x with floor:=n} ns ss),?_,?_⟩,h.recs.keep hF k (λb D e=>j (by rw[D,show b=q from e])),h.by'.keep k (λe=>i e.symm),h.qb,h.mb⟩
 ·rw[Qz E,Jq];rw[OM]at z;rw[z];rfl
 ·show Hu _ _ (L.ag.modify a (λg=>{g with floor:=n}));rw[Gk _ p];exact(d.keep o k).set p (y:={x with floor:=n}) (B.keep o k) (C.keep o k)
theorem Bj[bn:Ib](h:Zv base w q g m lv L)(hi:Hx base w i ⟨numB a++numB n,0⟩)(G:L.ag[a]?=AF x)(k:a<16)(H:n<2305843009213693952)(Q:x.floor<n) :
  Calls Tryz.prog 110 #[.pointer (AF ⟨q,0,AI⟩),.pointer (AF ⟨i,0,AI⟩)] w λe w'=>e=.returned (.bool true)/\Zv base w' q g m lv (L.step (.floor a n))/\Xy (λb=>b=q\/b=i) w w':=by
 have C:=Qp (n:=n) (by omega);have D:=Qp (n:=a) (by omega);have o:=GR (n:=n) (by omega);have d:=Gx (n:=a) (by omega) (numB n);have p:=hi.no (Xy.refl No w).drew;have E:=Q4 p (by show(numB a++numB n).length<=_;rw[BO];omega) (by rw[d];exact k);rw[d]at E;have O:¬(n:Int)<=(x.floor:Int):=by omega
 have N:(a:Int)<16:=by omega
 have f:=Lib.hid (A6 (h.no (Xy.refl No w).drew) p C o H G);clear h hi H Q C o D d G p k;go_enter Tryz.func110,Tryz.ntmps110;go_wp2_with fail;refine Ql (λ_=>True) [0,1,3,4] [2,5,6] [] (by kernel_rfl) (by kernel_rfl) (λ_ _ _ _ _ h=>h) trivial ?_;iterate 4(refine Qk (v:=?_) rfl rfl rfl ?_ ?_;rotate_left;focus(
  intro w' T;go_simp
  try with_reducible rfl))
 refine Qj (Qx rfl rfl (λK j=>?_));go_simp;refine E.mono ?_;rintro e V⟨rfl,A,I⟩;refine j _ _ trivial ?_;clear j K;refine Qx rfl rfl (λK j=>?_);go_simp;refine j _ _ trivial ?_;clear j K;refine Qx rfl rfl (λK j=>?_);go_simp;refine j _ _ trivial ?_;clear j K;refine Qh (Qm ?_);have F:=Cm A (by show(numB n).length<=_;have:=f.out.qc;omega) (by rw[f.out.qd];exact f.out.qe);rw[f.out.qd]at F;go_wp2_with(first
  | (go_at_call 159;refine(Ws B).mono ?_;rw[ZI];rintro e X ⟨rfl,P,M⟩;have z:=((f.out.1.byIn f.out.2.1 I).byIn A J).byIn B M;obtain⟨_,_,_,_,R,_⟩:=z.agCell f.out.rf;have S:=z.incCell.2.2)
  | (go_at_call 158;refine F.mono ?_;rintro e W ⟨rfl,B,J⟩))
 go_ret;exact⟨rfl,z.setFloor f.out.rf n,((((Xy.refl No w).drew.no).trans ((I.trans J (λ_ _ e=>e)).trans M (λ_ _ e=>e)) (λx _ e=>.inr e)).trans (Qd _ _) (λx U e=>.inl e))⟩
end
section
open Go Go.RowKit
theorem S9(w:AC)(d:Bool)(a n:Int):(Instr.checkKey d 10000 58 (.agg #[.int .i64 a,.int .u64 n])).run Tryz.prog w=.ok () w:=by kernel_rfl
theorem TY(w:AC)(a n b k:Int):(Op.equal 58 (.agg #[.int .i64 a,.int .u64 n]) (.agg #[.int .i64 b,.int .u64 k])).run Tryz.prog w=.ok ((a==b)&&(n==k)) w:=by have d:(Op.equal 58 (.agg #[.int .i64 a,.int .u64 n]) (.agg #[.int .i64 b,.int .u64 k])).run Tryz.prog w=(Op.equalIn (9999+1) 58 (.agg #[.int .i64 a,.int .u64 n]) (.agg #[.int .i64 b,.int .u64 k])).run Tryz.prog w:=rfl;rw[d];cases f:(a==b)<;>cases h:(n==k)<;>go_simp
def RO (l:List Hk)(a:Int)(n:Nat):Option Nat:=l.findIdx? (λr=>((r.who:Int)==a)&&((r.n:Int)==(n:Int)))
theorem Fh(w:AC)(a:Int)(n:Nat):∀(es:List MapEntry) (l:List Hk) (i:Nat),es.length=l.length->(∀(j:Nat) r,l[j]?=AF r->(es[j]?).map (λe=>(e.key,e.val))=AF (idV r,.int .i64 ((i+j:Nat):Int))) ->
  (ON 58 (.agg #[.int .i64 a,.int .u64 n]) es i).run Tryz.prog w=.ok ((RO l a n).map (λj=>(i+j,.int .i64 ((i+j:Nat):Int)))) w
 | [],[],i,_,_=>rfl
 | [],_::_,i,h,_=>by simp at h
 | _::_,[],i,h,_=>by simp at h
 | e::es,r::l,i,h,p=>by
  have k:=p 0 r rfl;simp only[List.getElem?_cons_zero,OO,Option.some.injEq,Prod.mk.injEq]at k;have B:=Fh w a n es l (i+1) (by simpa using h) (λj x A=>by
   have:=p (j+1) x (by simpa using A);simp only[OK]at this
   rw[this,show i+(j+1)=i+1+j by omega])
  have z:=TY w a n (r.who:Int) (r.n:Int);have o:e.key=.agg #[.int .i64 (r.who:Int),.int .u64 (r.n:Int)]:=k.1;unfold ON;rw[o];simp only[OP,z,OQ];unfold RO;rw[List.findIdx?_cons];have f:(((r.who:Int)==a)&&((r.n:Int)==(n:Int)))=((a==(r.who:Int))&&((n:Int)==(r.n:Int))):=by rw[Bool.eq_iff_iff];simp only[Bool.and_eq_true,beq_iff_eq];exact⟨λh=>⟨h.1.symm,h.2.symm⟩,λh=>⟨h.1.symm,h.2.symm⟩⟩
  rw[f];cases C:((a==(r.who:Int))&&((n:Int)==(r.n:Int)))
  ·simp only[Bool.false_eq_true,if_false];rw[B];unfold RO;have d:(λj=>(i+1+j,DA .i64 ((i+1+j:Nat):Int)))=(λj=>(i+j,DA .i64 ((i+j:Nat):Int))) ∘ (λj=>j+1):=by
    funext j
    simp only[Function.comp];rw[show i+1+j=i+(j+1)by omega]
   rw[Option.map_map,<- d]
  ·simp only[if_true,Sem.run_pure,OO,k.2,OM]
theorem V4(w:AC)(a:Int)(n:Nat)(es:List MapEntry)(l:List Hk)(h:es.length=l.length)(f:∀(j:Nat) r,l[j]?=AF r->(es[j]?).map (λe=>(e.key,e.val))=AF (idV r,.int .i64 (j:Int))) :
  (OR 58 (.agg #[.int .i64 a,.int .u64 n]) es).run Tryz.prog w=.ok ((RO l a n).map (λj=>(j,.int .i64 (j:Int)))) w:=by
 have d:=Fh w a n es l 0 h (λj r i=>by rw[f j r i,CI]);simp only[CI]at d;rw[<- d];unfold OR;cases es with
 | nil=>simp[C8 Tryz.underlying58,C3,ON]
 | cons e es=>simp[C8 Tryz.underlying58,C3,Instr.sameNow]
theorem RI{a n:Nat}(h:∀x∈l,¬(x.who=a/\x.n=n)):RO l (a:Int) n=AI:=by unfold RO;rw[List.findIdx?_eq_none_iff];intro x f;have:=h x f;rw[Bool.eq_false_iff];intro d;simp at d;exact this ⟨by omega,by omega⟩
theorem YG.push{w:AC}{m:Nat}{l:List Hk}(h:YG w m l)(r:Hk)(C:∀x∈l,¬(x.who=r.who/\x.n=r.n)) :
  ∃w',(CD 124 (.map (AF m)) (.agg #[.int .i64 r.who,.int .u64 r.n]) (.int .i64 (l.length:Int))).run Tryz.prog w=.ok () w'/\YG w' m (l++[r])/\Xy (·=m) w w':=by
 obtain⟨es,clock,f,A,z⟩:=h;have o:=Qt f;have p:=V4 w (r.who:Int) r.n es.toList l (by simpa using A) (λj r D=>by have:=z j r D;simpa using this);rw[RI C]at p;refine⟨_,?_,⟨es.push {key:=idV r,val:=.int .i64 (l.length:Int),born:=clock},clock+1,?_,by simp[A],λi x d=>?_⟩,Xy.setObj (F:=(·=m)) (Xy.refl _ w) (r:=m) (.inl rfl) (.map (es.push {key:=idV r,val:=.int .i64 (l.length:Int),born:=clock}) (clock+1))⟩
 ·unfold CD;simp only[OP,C8 Tryz.underlying124,OQ,MapKept.run_getObj_map f,S9,p,Option.map_none,MapKept.run_setObj_map _ f];rfl
 ·simp[o]
 ·by_cases hi:i<l.length
  ·rw[DO hi]at d;have:=z i x d;rw[OS];rw[if_neg (by omega)];exact this
  ·rw[DP (by omega)]at d;have B:=(BK.1 d).1;simp at B;have k:i-l.length=0:=by omega
   rw[k]at d;simp at d;subst d;rw[OS,if_pos (by omega),show i=l.length by omega];rfl
theorem Fo{α:Type}(f:α->List AM)(k:Nat)(d:∀x,(f x).length=k):∀{l:List α} {i j:Nat} {x:α},l[i]?=AF x->j<k->(l.flatMap f)[i*k+j]?=(f x)[j]?
 | [],i,j,x,h,_=>by simp at h
 | y::l,0,j,x,h,n=>by
  simp at h
  subst h
  rw[EL,DO (by rw[d];omega)]
  simp
 | y::l,i+1,j,x,h,n=>by
  have o:=Fo f k d (l:=l) (i:=i) (j:=j) (x:=x) (by simpa using h) n
  rw[EL,DP (by rw[d,OT];omega),d,<- o]
  congr 1
  rw[OT]
  omega
theorem Ml{α:Type}(f:α->List AM)(k:Nat)(d:∀x,(f x).length=k):∀(l:List α),(l.flatMap f).length=l.length*k
 | []=>by simp
 | y::l=>by rw[EL,BO,d,Ml f k d l,List.length_cons,OT];omega
def Hr (x:Qc×AM):List AM:=[.int .u64 x.1.n,.int .i64 x.1.s.c,x.2]
def Xr [bn:Ib](base:Nat)(w:AC)(B:Nat)(v:AM)(l:List Qc):Prop :=
 ∃xs:List (Qc×AM),xs.map (·.1)=l/\(∀x∈xs,Qv base w x.2 x.1.s.body)/\w.ownsRow B 111 3 v l.length (xs.flatMap Hr)
theorem Xr.nil[bn:Ib](base:Nat)(w:AC)(B:Nat):Xr base w B (.slice AI 0 0) []:=⟨[],rfl,λx h=>by simp at h,World.ownsRow_nil _ _ _ _⟩
theorem Xr.form[bn:Ib](h:Xr base w B v l):∃ao cap,v=.slice ao l.length cap/\l.length<=cap/\cap<=maxLen:=by obtain⟨xs,_,_,d⟩:=h;exact Kj d
theorem Xr.kind[bn:Ib](h:Xr base w B v l):∀b,v.ownBlock=AF b->B<=b/\∃d,w.heap[b]?=AF (.cells d 111 (0,0)):=by obtain⟨xs,_,_,f⟩:=h;exact Qa f
theorem Xr.keep[bn:Ib](h:Xr base w B v l)(hF:Uz base w F)(k:Xy F w w')(j:∀b,v.ownBlock=AF b->¬F b):Xr base w' B v l:=by obtain⟨xs,d,f,i⟩:=h;exact⟨xs,d,λx n=>(f x n).keep hF k,Yu i k j⟩
theorem Xr.no[bn:Ib](h:Xr base w B v l)(k:Xy No w w'):Xr base w' B v l:=h.keep (Uz.no _ _) k (λ_ _ e=>e)
theorem Xr.cell[bn:Ib](h:Xr base w B (.slice ao n cap) l)(hi:l[i]?=AF x) :
  ∃g u,ao=AF ⟨g,0,AI⟩/\Qv base w u x.s.body/\w.cell? ⟨g,i*3,AI⟩=AF (.int .u64 x.n)/\w.cell? ⟨g,i*3+1,AI⟩=AF (.int .i64 x.s.c)/\w.cell? ⟨g,i*3+2,AI⟩=AF u:=by
 obtain⟨C,k,p,_⟩:=h.form;simp only[Value.slice.injEq]at p;obtain⟨rfl,rfl,rfl⟩:=p;obtain⟨xs,o,E,F⟩:=h;have d:∃u,xs[i]?=AF (x,u):=by
  rw[<- o,List.getElem?_map]at hi;cases A:xs[i]? with
  | none=>rw[A]at hi;simp at hi
  | some y=>rw[A]at hi;simp at hi;exact⟨y.2,by rw[<- hi]⟩
 obtain⟨u,z⟩:=d;have H:(xs.flatMap Hr).length=l.length*3:=by rw[Ml Hr 3 (λ_=>rfl),<- o,List.length_map]
 have c:=λ(f:Nat) (G:f<3) (y:AM) (I:(Hr (x,u))[f]?=AF y)=>Gy F (j:=i*3+f) (x:=y) (by rw[Fo Hr 3 (λ_=>rfl) z G];exact I) H;obtain⟨g,rfl,D⟩:=c 0 (by decide) _ rfl;refine⟨g,u,rfl,E _ (List.mem_of_getElem? z),D,?_,?_⟩
 ·obtain⟨_,e,h⟩:=c 1 (by decide) _ rfl;simp at e;subst e;exact h
 ·obtain⟨_,e,h⟩:=c 2 (by decide) _ rfl;simp at e;subst e;exact h
theorem RY:(Tryz.prog.info? 111).map (λi=>(i.zero,i.size,i.bytes))=AF (AF (.agg #[.int .u64 0,.int .i64 0,.slice AI 0 0]),3,40):=by kernel_rfl
theorem JX:(Tryz.prog.info? 63).map (λi=>(i.zero,i.size,i.bytes))=AF (AF (.agg #[.int .i64 0,.int .u64 0,.int .i64 0,.slice AI 0 0]),4,48):=by kernel_rfl
theorem Df(h:w.ownsRow B t size v n xs)(k:base<=B)(o:t≠5):Uz base w (λb=>v.ownBlock=AF b):=by intro b d;obtain⟨j,i,f⟩:=Qa h b d;exact⟨Nat.le_trans k j,Qt f,λcs fr e=>by rw[f]at e;simp at e;exact o e.2.1⟩
theorem Mn[bn:Ib](V:o.guard=AI)(s x:Operand)(X:o.op=.call {callee:=.builtin .append,args:=#[s,x],argTypes:=#[28,28]})(h:Xr base w B v l)(C:base<=B)(Y:a.eval s=v)(R:w.heap[D]?=AF (.cells #[.int .u64 y.n,.int .i64 y.s.c,.slice p y.s.body.length j] 111 (0,0)))(hx:a.eval x=.slice (AF ⟨D,0,AI⟩) 1 1)(Z:Qv base w (.slice p y.s.body.length j) y.s.body)(hl:l.length<=1099511627776)(U:B<=w.heap.size)(S:∀N M w',Xr base w' B (.slice N (l.length+1) M) (l++[y])->Xy (λb=>v.ownBlock=AF b) w w'->wpList Tryz.prog i Q rest (a.put o.dst (.slice N (l.length+1) M)) w'):wpList Tryz.prog i Q (o::rest) a w:=by
 obtain⟨xs,O,P,J⟩:=h;obtain⟨i0,F,G,H,I⟩:=info_parts RY;refine wpList_plain V λK A=>?_;refine wp_append_lies w s x 28 X B 111 i0 _ 3 40 Tryz.underlying28 F G H I rfl (by omega) v l.length (xs.flatMap Hr) Y J
  ⟨D,0,AI⟩ 1 1 (Hr (y,.slice p y.s.body.length j)) hx rfl (EQ (cs:=#[.int .u64 y.n,.int .i64 y.s.c,.slice p y.s.body.length j]) (t:=111) (fr:=(0,0)) R) (by simp[Hr,ER]) (by omega) (by unfold maxLen;omega) (by omega) U w.heap.size rfl ?_
 intro g cap w' d E T W;have k:=Jr E;have hF:=Df J C (by decide);refine A _ _ (S _ _ _ ⟨xs++[(y,.slice p y.s.body.length j)],by simp[O],λz f=>?_,?_⟩ k)
 ·rcases CG.1 f with f|f
  ·exact(P z f).keep hF k
  ·rw[AZ.1 f];exact Z.keep hF k
 ·rw[List.flatMap_append,BO];simpa using d
theorem Ci(a b:List (Hk×AM)):Xu (a++b)=Xu a++Xu b:=by simp[Xu]
theorem Iz[bn:Ib]{base:Nat}{w:AC}{o:Oper}{a:Act}{K:Act->AC->Prop}{Q:Exit->Act->AC->Prop}(s x:Operand)(T:o.op=.call {callee:=.builtin .append,args:=#[s,x],argTypes:=#[31,31]}){v:AM}{l:List Hk}(h:Yi base w v l)(U:a.eval s=v){D:Nat}{y:Hk}{i:Option Addr}{f:Nat}(O:w.heap[D]?=AF (.cells #[.int .i64 y.who,.int .u64 y.n,.int .i64 y.s.c,.slice i y.s.body.length f] 63 (0,0)))(W:a.eval x=.slice (AF ⟨D,0,AI⟩) 1 1)(V:Qv base w (.slice i y.s.body.length f) y.s.body)(Y:l.length<=1099511627776)(R:base<=w.heap.size)(P:∀H G w',Yi base w' (.slice H (l.length+1) G) (l++[y])->Xy (λb=>v.ownBlock=AF b) w w'->(∀b,(DN H (l.length+1) G).ownBlock=AF b->v.ownBlock=AF b\/w.heap.size<=b)->K (a.put o.dst (.slice H (l.length+1) G)) w'):o.wp Tryz.prog a w K Q:=by
 obtain⟨xs,M,N,I⟩:=h;obtain⟨X,B,C,E,F⟩:=info_parts JX;refine wp_append_lies w s x 31 T base 63 X _ 4 48 Tryz.underlying31 B C E F rfl (by omega) v l.length (Xu xs) U I
  ⟨D,0,AI⟩ 1 1 (Jd y (.slice i y.s.body.length f)) W rfl (EQ (cs:=#[.int .i64 y.who,.int .u64 y.n,.int .i64 y.s.c,.slice i y.s.body.length f]) (t:=63) (fr:=(0,0)) O) (by simp[Jd,ER]) (by omega) (by unfold maxLen;omega) (by omega) R w.heap.size rfl ?_
 intro g cap w' j A d S;have k:=Jr A;have hF:=Df I (BE _) (by decide);refine P _ _ _ ⟨xs++[(y,.slice i y.s.body.length f)],by simp[M],λz p=>?_,?_⟩ k (λc J=>?_)
 ·rcases CG.1 p with p|p
  ·exact(N z p).keep hF k
  ·rw[AZ.1 p];exact V.keep hF k
 ·rw[Ci,BO];have e:Xu [(y,DN i y.s.body.length f)]=Jd y (.slice i y.s.body.length f):=by simp[Xu]
  rw[e];simpa using j
 ·simp[Value.ownBlock]at J;subst J;rcases d with d|rfl
  ·exact .inl d
  ·exact .inr (BE _)
end
end Go.Proofs.YtfdmbomlkpkegaaGreat
