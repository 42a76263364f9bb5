/- Lemmas. -/
import Derived.Test.YtfdmbomlkpkegaaGreatS23
import Derived.Test.YtfdmbomlkpkegaaGreatS21
set_option maxRecDepth 100000
set_option maxHeartbeats 8000000
set_option linter.all false
set_option autoImplicit true
set_option relaxedAutoImplicit true
open Go renaming Value->AM,World->AC
open Go.Lib renaming hid->BX
open Go.Value renaming slice->DN
open List renaming all_eq_false->OX,all_eq_true->AS,getElem?_append_left->DO,getElem?_append_right->DP,getElem?_eq_getElem->BY,getElem?_eq_some_iff->BK,getElem?_map->CK,getElem?_modify->HU,length_append->BO,length_cons->AT,map_append->O5,mem_of_getElem?->FB,prefix_refl->P0,set_set->OW,take_append_of_le_length->E2,take_of_length_le->DU,take_succ_eq_append_getElem->BM,take_take->OE
open List.Sublist renaming refl->OY
open Nat renaming le_refl->BE,le_trans->BF,min_eq_left->EA,sub_self->OZ,zero_le->BW
open Option renaming none->AI,some->AF
open UInt8 renaming ofNat->D7
namespace Go.Proofs.YtfdmbomlkpkegaaGreat
section
open Go Go.RowKit Go.Dr
def told (width:Nat)(ts:List Ji):Xs:=ts.foldl Xs.step (Xs.start width)
def Xs.now (L:Xs):List (Nat×Xn):=L.ag.map (λg=>(g.floor,g.now))
structure Jc (width:Nat)(ts:List Ji)(L:Xs):Prop where
 inc:L.inc=(told width ts).inc
 recs:L.recs=(told width ts).recs
 now:L.now=(told width ts).now
 can:∀(k:Nat) r,ts[k]?=AF r->(told width (ts.take k)).can r
theorem Xs.win_now(L:Xs)(a:Nat):L.win a=((L.now[a]?).map (·.2)).getD ⟨0,0,[]⟩:=by unfold Xs.win Xs.now;rw[CK];cases L.ag[a]?<;>rfl
theorem Xs.floor_now(L:Xs)(a:Nat):L.floor a=((L.now[a]?).map (·.1)).getD 0:=by unfold Xs.floor Xs.now;rw[CK];cases L.ag[a]?<;>rfl
theorem Xs.can_of{L T:Xs}(i:L.inc=T.inc)(f:L.now=T.now)(h:L.can r):T.can r:=by
 cases r with
 | inc n=>exact⟨by rw[<- i];exact h.1,h.2⟩
 | floor a n=>exact⟨h.1,by rw[Xs.floor_now,<- f,<- Xs.floor_now];exact h.2.1,h.2.2⟩
 | put a b l=>exact⟨h.1,h.2.1,h.qc,h.qd,by rw[Xs.win_now,<- f,<- Xs.win_now];exact h.re⟩
theorem Ac{α β:Type}(f:α->β)(g:α->α)(k:β->β)(h:∀x,f (g x)=k (f x))(l:List α)(i:Nat):(l.modify i g).map f=(l.map f).modify i k:=by
 apply List.ext_getElem?;intro j;rw[CK,HU,HU,CK];by_cases e:i=j
 ·simp only[if_pos e];cases l[j]? with
  | none=>rfl
  | some x=>simp[h]
 ·simp only[if_neg e];cases l[j]?<;>simp
theorem Xs.now_step(L:Xs)(r:Ji):(L.step r).now=match r with
  | .inc _=>L.now
  | .floor a n=>L.now.modify a (λx=>(n,x.2))
  | .put a b l=>L.now.modify a (λx=>(x.1,(x.2.skip b).putAll l)):=by
 cases r with
 | inc n=>rfl
 | floor a n=>exact Ac (λg:AgS=>(g.floor,g.now)) (λg=>{g with floor:=n}) (λx=>(n,x.2)) (λ_=>rfl) L.ag a
 | put a b l=>exact Ac (λg:AgS=>(g.floor,g.now)) (λg=>{g with now:=(g.now.skip b).putAll l}) (λx=>(x.1,(x.2.skip b).putAll l)) (λ_=>rfl) L.ag a
theorem Vv(width:Nat)(ts:List Ji)(r:Ji):told width (ts++[r])=(told width ts).step r:=by simp[told]
theorem Jc.push(h:Jc width ts L)(o:L.can r):Jc width (ts++[r]) (L.step r):=by
 refine⟨?_,?_,?_,λk x f=>?_⟩
 ·rw[Vv];cases r<;>simp[Xs.step,h.inc]
 ·rw[Vv];cases r<;>simp[Xs.step,h.recs]
 ·rw[Vv,Xs.now_step,Xs.now_step,h.now]
 ·by_cases z:k<ts.length
  ·rw[DO z]at f;rw[E2 (by omega)];exact h.can k x f
  ·rw[DP (by omega)]at f;have j:=(BK.1 f).1;simp at j;have i:k-ts.length=0:=by omega
   rw[i]at f;simp at f;subst f;rw[E2 (by omega),DU (by omega)];exact Xs.can_of h.inc h.now o
theorem Jc.sync(h:Jc width ts L):Jc width ts L.sync :=
 ⟨h.inc,h.recs,by rw[<- h.now];simp[Xs.now,Xs.sync],h.can⟩
def Zk (ts:List Ji):List Qs:=ts.map Ji.bytes
section
variable [bn:Ib]{base:Nat}{w w':AC}{q g m p n s width:Nat}{lv wv sgv rlv:AM}{size:Int}{ss:List Jh}{ts:List Ji}{rs:List Qs}{d:Qr}{L:Xs}
def Qi (q g m:Nat)(lv:AM)(p n s:Nat)(wv sgv rlv:AM):Nat->Prop:=λb=>Kw q m lv b\/Kx g p n s wv sgv rlv b
end
def Qc.rightB (x:Qc):Bool:=decide (x.n<2305843009213693952)&&x.s.right
theorem Qc.rightB_iff(x:Qc):x.rightB=true↔x.Right:=by unfold Qc.rightB Qc.Right Ys.right Ys.Right;simp
def Yv (b:Nat)(l:List Qc):Bool:=l.all Qc.rightB&&decide (b<2305843009213693952)
theorem Jm(b:Nat)(l:List Qc):Yv b l=true ↔(∀x∈l,x.Right)/\b<2305843009213693952:=by unfold Yv;rw[Bool.and_eq_true,AS,decide_eq_true_eq];simp only[Qc.rightB_iff]
theorem Eh[bn:Ib](b:Nat)(h:Xr base w B v l)(hl:l.length<=1048576)(o:∀x∈l,x.s.body.length<=1073741824) :
  Calls Tryz.prog 63 #[.int .u64 b,v] w λe w'=>e=.returned (.bool (Yv b l))/\Xy No w w':=by
 obtain⟨vo,vc,rfl,_,_⟩:=h.form;obtain⟨N,K⟩:∃N,N=Yv b l:=⟨_,rfl⟩;rw[<- K];have P:=BX (A3 h o K);have aA:(l.length:Int)<=1048576:=by omega
 clear h hl o K;go_enter Tryz.func63,Tryz.ntmps63;go_wp2_with fail;go_loopw [9] (λZ wr=>∃k,Z=.int .i64 (k:Nat)/\k<=l.length/\(∀x∈l.take k,x.rightB=true)/\Xy No w wr) (λZ _=>l.length-(intOf Z).toNat);case atStart=>exact⟨0,rfl,BW _,λx C=>by simp at C,Xy.refl _ _⟩
 case round =>
  obtain⟨k,rfl,T,f,I⟩:=hrel;by_cases A:k<l.length
  ·have C:l[k]?=AF l[k]:=BY A;have i:l.take (k+1)=l.take k++[l[k]]:=BM A;generalize l[k]=z at C i;obtain⟨gi,ui,V,H,e0,e1,e2⟩:=(P.out.1.no I).cell C;obtain⟨uo,uc,rfl⟩:=H.form;subst V;have W:(k:Int)<(l.length:Int):=by omega
   have M:=P.out.2.1 z (FB C);have j:=FB C;have F:=λ(w':AC)=>Bz (w:=w') (s:=z.s) (ao:=uo) (cap:=uc) (by omega);have O:=(Xy.refl No wr).alloc (.cells #[.int .u64 z.n,.int .i64 z.s.c,.slice uo z.s.body.length uc] 111);by_cases R:z.n<2305843009213693952
   ·have X:¬(2305843009213693952:Int)<=(z.n:Int):=by omega
    cases D:z.s.right
    ·rw[D]at F;have J:Yv b l=false:=by
      unfold Yv;have:l.all Qc.rightB=false:=by rw[OX];exact⟨z,j,by unfold Qc.rightB;simp[D]⟩
      rw[this];rfl
     obtain rfl:N=false:=P.out.2.2.trans J;have E:=BX (I.then O);clear f A C i H M j O D J I T R;go_wp2_with(go_at_call 115;refine(F _).mono ?_;rintro e w2 ⟨rfl,Y⟩);go_ret;exact⟨rfl,E.out.then Y⟩
    ·rw[D]at F;have S:z.rightB=true:=by unfold Qc.rightB;simp[R,D]
     have E:=BX (A3 (I.then O) A (show ∀x∈l.take (k+1),x.rightB=true by
      rw[i];intro x C;rcases List.mem_append.1 C with C|C
      ·exact f x C
      ·rw[List.mem_singleton.1 C];exact S))
     clear f A C i H M j O D S I T R;go_wp2_with(go_at_call 115;refine(F _).mono ?_;rintro e w2 ⟨rfl,Y⟩);go_roundw;case rel=>exact⟨k+1,by congr 1,by have:=E.out.2.1;omega,E.out.2.2,E.out.1.then Y⟩
     case measure=>have:=E.out.2.1;simp[intOf];omega
   ·have X:(2305843009213693952:Int)<=(z.n:Int):=by omega
    have J:Yv b l=false:=by
     unfold Yv;have:l.all Qc.rightB=false:=by rw[OX];exact⟨z,j,by unfold Qc.rightB;simp[R]⟩
     rw[this];rfl
    obtain rfl:N=false:=P.out.2.2.trans J;have E:=BX (I.then O);clear f A C i H M j O J I T R F;go_wp2_with fail;go_ret;exact⟨rfl,E.out⟩
  ·have Q:k=l.length:=by omega
   have W:¬(k:Int)<(l.length:Int):=by omega
   rw[Q,DU (BE _)]at f;have J:Yv b l=decide (b<2305843009213693952):=by unfold Yv;rw[AS.2 f];rfl
   have E:=BX I;have G:N=decide (b<2305843009213693952):=P.out.2.2.trans J;clear I f T A Q J;by_cases o:b<2305843009213693952
   ·have U:(b:Int)<2305843009213693952:=by omega
    obtain rfl:N=true:=G.trans (decide_eq_true o);clear G o;go_wp2_with fail;go_ret;exact⟨rfl,E.out⟩
   ·have U:¬(b:Int)<2305843009213693952:=by omega
    obtain rfl:N=false:=G.trans (decide_eq_false o);clear G o;go_wp2_with fail;go_ret;exact⟨rfl,E.out⟩
def Mh (n:Nat):AM:=.int .u64 (n:Int)
def Uo (w:AC)(B:Nat)(v:AM)(l:List Nat):Prop:=w.ownsRow B 27 1 v l.length (l.map Mh)
theorem Uo.nil(w:AC)(B:Nat):Uo w B (.slice AI 0 0) []:=World.ownsRow_nil _ _ _ _
theorem Uo.form(h:Uo w B v l):∃ao cap,v=.slice ao l.length cap/\l.length<=cap/\cap<=maxLen:=Kj h
theorem Uo.keep(h:Uo w B v l)(k:Xy F w w')(hF:∀b,v.ownBlock=AF b->¬F b):Uo w' B v l:=Yu h k hF
theorem Uo.kind(h:Uo w B v l):∀b,v.ownBlock=AF b->B<=b/\∃f,w.heap[b]?=AF (.cells f 27 (0,0)):=Qa h
theorem Wt:(Tryz.prog.info? 27).map (λi=>(i.zero,i.size,i.bytes))=AF (AF (.int .u64 0),1,8):=by kernel_rfl
theorem Np{Q:Exit->Act->AC->Prop}(N:o.guard=AI)(s x:Operand)(P:o.op=.call {callee:=.builtin .append,args:=#[s,x],argTypes:=#[52,52]}){B:Nat}(h:Uo w B v l)(R:a.eval s=v){D n:Nat}(H:w.heap[D]?=AF (.cells #[.int .u64 n] 27 (0,0)))(S:a.eval x=.slice (AF ⟨D,0,AI⟩) 1 1)(U:l.length<=1099511627776)(M:B<=w.heap.size)(I:∀G F w',Uo w' B (.slice G (l.length+1) F) (l++[n])->Xy (λb=>v.ownBlock=AF b) w w'->wpList Tryz.prog i Q rest (a.put o.dst (.slice G (l.length+1) F)) w'):wpList Tryz.prog i Q (o::rest) a w:=by
 obtain⟨T,z,A,C,E⟩:=info_parts Wt;refine wpList_plain N λK j=>?_;refine wp_append_lies w s x 52 P B 27 T _ 1 8 Tryz.underlying52 z A C E rfl (by omega) v l.length (l.map Mh) R h
  ⟨D,0,AI⟩ 1 1 [.int .u64 n] S rfl (World.news_of_block (cs:=#[.int .u64 n]) (t:=27) (fr:=(0,0)) H) (by simp[Value.oneCell']) (by omega) (by unfold maxLen;omega) (by omega) M w.heap.size rfl ?_
 intro g cap w' f k J O;refine j _ _ (I _ _ _ ?_ (Jr k));unfold Uo;rw[BO,O5];exact f
def pick:Xn->List Qc->List Qc
 | _,[]=>[]
 | w,x::l=>if w.takes x.n=true then x::pick (w.put x.n) l else pick w l
theorem Kq(w:Xn)(a b:List Qc):w.putAll (a++b)=(w.putAll a).putAll b:=by unfold Xn.putAll;rw[List.foldl_append]
theorem Uw:∀(w:Xn) (l:List Qc) (z:Qc),pick w (l++[z])=pick w l++(if(w.putAll (pick w l)).takes z.n=true then[z]else[])
 | w,[],z=>by
  show(if w.takes z.n=true then[z]else[])=[]++_;rfl
 | w,x::l,z=>by
  show(if w.takes x.n=true then x::pick (w.put x.n) (l++[z])else pick w (l++[z]))=(if w.takes x.n=true then x::pick (w.put x.n) l else pick w l)++_;by_cases h:w.takes x.n=true
  ·rw[if_pos h,if_pos h,Uw (w.put x.n) l z];have e:w.putAll (pick w (x::l))=(w.put x.n).putAll (pick (w.put x.n) l):=by show w.putAll (if w.takes x.n=true then x::pick (w.put x.n) l else pick w l)=_;rw[if_pos h];rfl
   rw[e];rfl
  ·rw[if_neg h,if_neg h,Uw w l z];have e:pick w (x::l)=pick w l:=by show(if w.takes x.n=true then x::pick (w.put x.n) l else pick w l)=_;rw[if_neg h]
   rw[e]
theorem Lv:∀(w:Xn) (l:List Qc),w.allIn (pick w l)
 | _,[]=>trivial
 | w,x::l=>by
  show w.allIn (if w.takes x.n=true then x::pick (w.put x.n) l else pick w l)
  by_cases h:w.takes x.n=true
  ·rw[if_pos h];exact⟨h,Lv _ l⟩
  ·rw[if_neg h];exact Lv w l
theorem Xi:∀(w:Xn) (l:List Qc),(pick w l).Sublist l
 | _,[]=>OY _
 | w,x::l=>by
  show(if w.takes x.n=true then x::pick (w.put x.n) l else pick w l).Sublist _
  by_cases h:w.takes x.n=true
  ·rw[if_pos h];exact(Xi _ l).cons_cons x
  ·rw[if_neg h];exact(Xi w l).cons x
def Xs.putR (L:Xs)(a b:Nat)(l:List Qc):Option Ji:=if pick ((L.win a).skip b) l=[]/\(L.win a).skip b=L.win a then AI else AF (.put a b (pick ((L.win a).skip b) l))
theorem Vo(h:∀x∈l,x.Right/\x.s.body.length<=N):(Qb l).length<=l.length*(N+21):=by
 induction l with
 | nil=>simp[Qb]
 | cons x l k =>
  have B:=k (λy j=>h y (by simp[j]));obtain⟨f,i⟩:=h x (by simp);have o:=Qp (n:=x.n) (by have:=f.1;omega);have z:=Qp (n:=x.s.body.length) (by have:=f.2.2.2;omega);have e:Qb (x::l)=x.bytes++Qb l:=by simp[Qb]
  rw[e,BO];have A:x.bytes.length<=N+21:=by unfold Qc.bytes Ys.bytes;simp only[BO,AT];omega
  rw[AT,Nat.add_mul];omega
theorem Xs.putR_can{L:Xs}(j:a<16)(o:Yv b l=true)(k:l.length<=64)(h:L.putR a b l=AF r):L.can r:=by
 unfold Xs.putR at h
 split at h
 ·cases h
 ·simp only[Option.some.injEq]at h;subst h;obtain⟨f,i⟩:=(Jm b l).1 o;exact⟨j,i,BF (Xi _ _).length_le k,λx z=>f x ((Xi _ _).subset z),Lv _ _⟩
structure Rk [bn:Ib](w wr:AC)(b11:Nat)(tv pv:AM)(y:Xn)(t:List Qc):Prop where
 nums:Uo wr w.heap.size tv (t.map (·.n))
 bytes:Kr wr w.heap.size pv (Qb t)
 box:Xf wr b11 (y.putAll t)
 k:Xy No w wr
 new:w.heap.size<=b11
theorem Rk.no[bn:Ib](h:Rk w wr b11 f pv y t)(k:Xy No wr w'):Rk w w' b11 f pv y t :=
 ⟨h.nums.keep k (λ_ _ e=>e),h.bytes.keep k (λ_ _ e=>e),h.box.keep (Zn.no _) k id,h.k.then k,h.new⟩
theorem Rk.box2[bn:Ib]{w wr w':AC}{b11:Nat}{z pv:AM}{y B:Xn}{t:List Qc}(h:Rk w wr b11 z pv y t)(A:Xf w' b11 B)(k:Xy (·=b11) wr w') :
  Uo w' w.heap.size z (t.map (·.n))/\Kr w' w.heap.size pv (Qb t)/\Xy No w w':=by
 obtain⟨_,_,o,_⟩:=h.box;refine⟨h.nums.keep k (λb i e=>?_),h.bytes.keep k (λb i e=>?_),h.k.trans k (λb i e=>?_)⟩
 ·obtain⟨_,j,f⟩:=h.nums.kind b i;rw[show b=b11 from e,o]at f;simp at f
 ·obtain⟨_,j,f⟩:=Qa h.bytes b i;rw[show b=b11 from e,o]at f;simp at f
 ·have e:b=b11:=e;have:=h.new;omega
theorem Im(u1 u2 u3:AM)(h:∀a∈ags,a.length=7)(hi:ags[i]?=AF c) :
  (((Xq g inc ags lv safe m).set (2+i*7+4) u1).set (2+i*7+5) u2).set (2+i*7+6) u3=Xq g inc (ags.set i (((c.set 4 u1).set 5 u2).set 6 u3)) lv safe m:=by
 have o:=(BK.1 hi).1;have k:=h c (FB hi);have j:∀d:List AM,d.length=7->∀a∈ags.set i d,a.length=7:=λd z a f=>by
  rcases List.mem_or_eq_of_mem_set f with f|rfl
  ·exact h a f
  ·exact z
 rw[Je u1 h hi (by decide),Je (i:=i) (a:=c.set 4 u1) u2 (j _ (by simp[k])) (by simp[o]) (by decide),OW,
  Je (i:=i) (a:=(c.set 4 u1).set 5 u2) u3 (j _ (by simp[k])) (by simp[o]) (by decide),OW]
theorem Zv.setSafe[bn:Ib]{base:Nat}{w:AC}{q g m a:Nat}{lv:AM}{L:Xs}{x:AgS}(h:Zv base w q g m lv L)(A:L.ag[a]?=AF x)(y:Xn){ao:Option Addr}{cap:Nat}(E:Zy w (.slice ao y.set.length cap) y.set) :
  Zv base (((w.setCell ⟨q,2+a*7+4,AI⟩ (.int .u64 y.low)).setCell ⟨q,2+a*7+5,AI⟩ (.int .u64 y.width)).setCell ⟨q,2+a*7+6,AI⟩ (.slice ao y.set.length cap)) q g m lv {L with ag:=L.ag.set a {x with safe:=y}} /\
   Xy (·=q) w (((w.setCell ⟨q,2+a*7+4,AI⟩ (.int .u64 y.low)).setCell ⟨q,2+a*7+5,AI⟩ (.int .u64 y.width)).setCell ⟨q,2+a*7+6,AI⟩ (.slice ao y.set.length cap)):=by
 obtain⟨hF,z,_⟩:=h.set 0 (.bool true);have k:=((Qd (g:=q) (i:=2+a*7+4) w (.int .u64 y.low)).setCell (p:=⟨q,2+a*7+5,AI⟩) (.inl rfl) (.int .u64 y.width)).setCell (p:=⟨q,2+a*7+6,AI⟩) (.inl rfl) (.slice ao y.set.length cap);obtain⟨j,o,B⟩:=h.apart;obtain⟨ags,F,f⟩:=h.blk;obtain⟨ns,ss,e,C,G⟩:=f.at' a x A;refine⟨⟨⟨ags.set a (Ki {x with safe:=y} ns (.slice ao y.set.length cap)),?_,?_⟩,h.recs.keep hF k (λb D e=>o (by rw[D,show b=q from e])),h.by'.keep k (λe=>j e.symm),h.qb,h.mb⟩,k⟩
 ·rw[Qz (Qz (Qz F)),Jq,Jq,Jq,Im _ _ _ f.seven e];rfl
 ·exact(f.keep z k).set A (y:={x with safe:=y}) (C.keep z k) (E.keep z k)
theorem Zv.setCount[bn:Ib](h:Zv base w q g m lv L)(n:Nat) :
  Zv base (w.setCell ⟨q,115,AI⟩ (.int .i64 n)) q g m lv {L with safe:=n}:=by
 obtain⟨hF,z,k⟩:=h.set 115 (.int .i64 n);obtain⟨f,i,o⟩:=h.apart;obtain⟨ags,B,j⟩:=h.blk;refine⟨⟨ags,?_,j.keep z k⟩,h.recs.keep hF k (λb A e=>i (by rw[A,show b=q from e])),h.by'.keep k (λe=>f e.symm),h.qb,h.mb⟩;rw[Qz B,Jq,If n j.seven j.len]
def Sz (g:AgS):AgS:={g with safe:=g.now}
def Xs.syncK (L:Xs)(k:Nat):Xs:={L with ag:=(L.ag.take k).map Sz++L.ag.drop k}
theorem UE{L:Xs}{k:Nat}{x:AgS}(h:L.ag[k]?=AF x):(L.syncK k).ag[k]?=AF x/\{L.syncK k with ag:=(L.syncK k).ag.set k {x with safe:=x.now}}=L.syncK (k+1):=by
 obtain⟨i,j⟩:=BK.1 h;have e:(L.syncK k).ag=(L.ag.take k).map Sz++(x::L.ag.drop (k+1)):=by show(L.ag.take k).map Sz++L.ag.drop k=_;rw[List.drop_eq_getElem_cons i,j]
 have f:((L.ag.take k).map Sz).length=k:=by simp;omega
 refine⟨?_,?_⟩
 ·rw[e,DP (by omega),f,OZ];rfl
 ·rw[e,List.set_append_right _ _ (by omega),f,OZ];unfold Xs.syncK;rw[BM i,j,O5,List.append_assoc];rfl
end
section
end
section
open Go Go.RowKit
def M8:List (Int×Nat)->Int->Option Nat
 | [],_=>AI
 | x::S,k=>if x.1=k then AF x.2 else M8 S k
theorem ZH(L:Xs)(r:Ji):L.recs <+: (L.step r).recs:=by
 cases r with
 | inc n=>exact P0 _
 | floor a n=>exact P0 _
 | put a b l=>exact List.prefix_append _ _
theorem VR(width:Nat)(a b:List Ji):told width (a++b)=b.foldl Xs.step (told width a):=by simp[told]
theorem Q2:∀(b:List Ji) (L:Xs),L.recs <+: (b.foldl Xs.step L).recs
 | [],_=>P0 _
 | r::b,L=>(ZH L r).trans (Q2 b (L.step r))
theorem Gp(width:Nat)(ts:List Ji)(f:k<=k'):(told width (ts.take k)).recs <+: (told width (ts.take k')).recs:=by
 have e:ts.take k'=ts.take k++(ts.take k').drop k:=by have h:=(List.take_append_drop k (ts.take k')).symm;rw[OE,EA f]at h;exact h
 rw[e,VR];exact Q2 _ _
theorem Jc.take(h:Jc width ts L)(k:Nat):Jc width (ts.take k) (told width (ts.take k)):=by refine⟨rfl,rfl,rfl,λi r hi=>?_⟩;have f:=(BK.1 hi).1;rw[List.length_take]at f;rw[List.getElem?_take,if_pos (by omega)]at hi;rw[OE,EA (by omega)];exact h.can i r hi
theorem Gb(C:1<=width/\width<=1024):∀{ts:List Ji},(∀(k:Nat) r,ts[k]?=AF r->(told width (ts.take k)).can r)->(told width ts).Ok width:=by
 intro ts
 induction i:ts.length generalizing ts with
 | zero=>intro _;rw[List.eq_nil_of_length_eq_zero i];exact Xs.Ok.start C
 | succ n D =>
  intro h;rcases List.eq_nil_or_concat ts with rfl|⟨f,r,rfl⟩
  ·simp at i
  ·rw[List.concat_eq_append]at h i⊢;have B:f.length=n:=by simpa using i
   have A:=D B (λk x z=>by
    have j:=(BK.1 z).1;have:=h k x (by rw[DO j];exact z)
    rwa [E2 (by omega)]at this)
   have o:=h f.length r (by simp);rw[E2 (BE _),List.take_length]at o;rw[Vv];exact A.step o
end
section
open Go Go.RowKit Go.Dr
structure Zc [bn:Ib](base:Nat)(w:AC)(q g m:Nat)(lv:AM)(p n s:Nat)(wv sgv rlv:AM)(width:Nat)(size:Int)(ss:List Jh)(ts:List Ji)(d:Qr)(L:Xs):Prop where
 led:Zv base w q g m lv L
 lg:Zd base w g p sgv rlv (Ku size ss)
 dk:Qo base w p n s wv d
 ok:L.Ok width
 tl:Jc width ts L
 mn:m≠n
 ms:m≠s
section
variable [bn:Ib]{base:Nat}{w w':AC}{q g m p n s width:Nat}{lv wv sgv rlv:AM}{size:Int}{ss:List Jh}{ts:List Ji}{d:Qr}{L:Xs}{LG:Gi}
theorem Q3(k:Zd base w g p sgv rlv LG)(f:Qo base w p n s wv d):Zn w (Kx g p n s wv sgv rlv):=by
 rintro b (i|i)⟨cs,fr,e⟩
 ·rcases i with rfl|rfl|rfl|i
  ·rw[f.blk]at e;simp at e
  ·obtain⟨es,o,h,_⟩:=f.now;rw[h]at e;cases e
  ·obtain⟨es,o,h,_⟩:=f.safe;rw[h]at e;cases e
  ·obtain⟨_,A,h⟩:=f.wait.kind b i;rw[h]at e;simp at e
 ·obtain⟨_,z,t,h,j⟩:=k.kind i;rw[h]at e;simp at e;obtain⟨_,rfl,_⟩:=e;rcases j with j|j|j<;>simp at j
theorem Y6(i:Zd base w g p sgv rlv LG)(h:Qo base w p n s wv d):Uz base w (Kx g p n s wv sgv rlv):=λb f=>by
 rcases f with f|f
 ·exact h.foot_ok b f
 ·exact i.foot b f
theorem VL(D:Zv base w q g m lv L)(A:Zd base w g p sgv rlv LG)(i:Qo base w p n s wv d)(E:m≠n)(F:m≠s):∀b,Kw q m lv b->¬Kx g p n s wv sgv rlv b:=by
 intro b o f;obtain⟨_,G⟩:=D.kind o;rcases G with⟨cs,t,h,k⟩|⟨es,clock,h⟩
 ·rcases f with f|f
  ·rcases f with rfl|rfl|rfl|f
   ·rw[i.blk]at h;simp at h;obtain⟨_,rfl⟩:=h;rcases k with k|k<;>simp at k
   ·obtain⟨_,_,e,_⟩:=i.now;rw[h]at e;cases e
   ·obtain⟨_,_,e,_⟩:=i.safe;rw[h]at e;cases e
   ·obtain⟨_,z,e⟩:=i.wait.kind b f;rw[h]at e;simp at e;obtain⟨_,rfl⟩:=e;rcases k with k|k<;>simp at k
  ·obtain⟨_,B,H,e,j⟩:=A.kind f;rw[h]at e;simp at e;obtain⟨_,rfl⟩:=e;rcases k with rfl|rfl<;>rcases j with j|j|j<;>simp at j
 ·have C:b=m:=by
   rcases o with rfl|o|o
   ·obtain⟨_,e,_⟩:=D.blk;rw[h]at e;cases e
   ·exact o
   ·obtain⟨_,z,e⟩:=D.recs.kind b o;rw[h]at e;cases e
  subst C;rcases f with f|f
  ·rcases f with rfl|f|f|f
   ·rw[i.blk]at h;cases h
   ·exact E f
   ·exact F f
   ·obtain⟨_,z,e⟩:=i.wait.kind b f;rw[h]at e;cases e
  ·obtain⟨_,B,H,e,j⟩:=A.kind f;rw[h]at e;cases e
theorem Zc.apart(h:Zc base w q g m lv p n s wv sgv rlv width size ss ts d L):∀b,Kw q m lv b->¬Kx g p n s wv sgv rlv b:=VL h.led h.lg h.dk h.mn h.ms
theorem Zc.footL(h:Zc base w q g m lv p n s wv sgv rlv width size ss ts d L):Uz base w (Kx g p n s wv sgv rlv):=Y6 h.lg h.dk
theorem Zc.footLR(h:Zc base w q g m lv p n s wv sgv rlv width size ss ts d L):Zn w (Kx g p n s wv sgv rlv):=Q3 h.lg h.dk
theorem Zc.no(h:Zc base w q g m lv p n s wv sgv rlv width size ss ts d L)(k:Xy No w w'):Zc base w' q g m lv p n s wv sgv rlv width size ss ts d L:=⟨h.led.no k,h.lg.no k,h.dk.no k,h.ok,h.tl,h.mn,h.ms⟩
theorem Zc.foot(h:Zc base w q g m lv p n s wv sgv rlv width size ss ts d L):Uz base w (Qi q g m lv p n s wv sgv rlv):=λb f=>f.elim (h.led.foot b) (h.footL b)
theorem Zc.footR(h:Zc base w q g m lv p n s wv sgv rlv width size ss ts d L):Zn w (Qi q g m lv p n s wv sgv rlv):=λb f=>f.elim (h.led.footR b) (h.footLR b)
theorem Zc.keep(h:Zc base w q g m lv p n s wv sgv rlv width size ss ts d L)(hF:Uz base w F)(j:Zn w F)(k:Xy F w w')(i:∀b,Qi q g m lv p n s wv sgv rlv b->¬F b):Zc base w' q g m lv p n s wv sgv rlv width size ss ts d L :=
 ⟨h.led.keep hF j k (λb f=>i b (.inl f)),h.lg.keep hF k (λb f=>i b (.inr (.inr f))),h.dk.keep hF k (λb f=>i b (.inr (.inl f))),h.ok,h.tl,h.mn,h.ms⟩
theorem Zc.lt(h:Zc base w q g m lv p n s wv sgv rlv width size ss ts d L):∀b,Qi q g m lv p n s wv sgv rlv b->b<w.heap.size:=λb f=>(h.foot b f).2.1
end
def Ga [bn:Ib](base:Nat)(w:AC)(q g m:Nat)(p width:Nat)(size:Int)(ss:List Jh)(ts:List Ji)(d:Qr)(L:Xs)(F:Nat->Prop)(w':AC):Prop :=
 ∃lv n s wv sgv rlv,Zc base w' q g m lv p n s wv sgv rlv width size ss ts d L/\Xy F w w'/\∀b,Qi q g m lv p n s wv sgv rlv b->F b\/w.heap.size<=b
def Ha (c:Int)(size:Int)(ss:List Jh)(ts:List Ji)(d:Qr)(L:Xs)(r:Ji)(ss':List Jh)(ts':List Ji)(d':Qr)(L':Xs):Prop :=
 d.append (Uj (Ku size ss)).n (appB (Ku size ss) r.bytes)=(d',c)/\((c=0/\(Ku size ss).append r.bytes=Ku size ss'/\ts'=ts++[r]/\L'=L.step r)\/(c=5/\ss'=ss/\ts'=ts/\L'=L))
theorem Ha.code(h:Ha c size ss ts d L r ss' ts' d' L'):c=0\/c=5:=h.2.imp (·.1) (·.1)
theorem Li[bn:Ib](h:Zc base w q g m lv p n s wv sgv rlv width size ss ts d L)(Y:Qv base w pv r.bytes)(hc:L.can r)(J:r.bytes.length<=1000000)(V:Good j l ss)(hj:j<=1000)(X:Ur d)(K:L.recs.length<=1073741824)(C:base<=w.heap.size)(hT:ban.top<=w.heap.size)(aC:Ha c size ss ts d L r ss' ts' d' L') :
  Calls Tryz.prog 58 #[.pointer (AF ⟨q,0,AI⟩),pv] w λe w'=>e=.returned (.int .i64 c)/\Ga base w q g m p width size ss' ts' d' L' (Qi q g m lv p n s wv sgv rlv) w':=by
 obtain⟨po,pc,rfl⟩:=Y.form;obtain⟨_,c0,_⟩:=h.led.incCell;obtain⟨M,F⟩:=aC;have A:=JU h.lg h.dk C hT Y (by omega) V hj X c (F.imp (·.1) (·.1)) (by rw[M]);rw[M]at A;obtain⟨rl,P⟩:∃rl,rl=r.bytes.length:=⟨_,rfl⟩;rw[<- P]at A⊢;have B:=BX (A8 h Y hc J K C hT P);clear h Y hc J V hj X K C hT P M;rcases F with⟨rfl,N,rfl,rfl⟩|⟨rfl,rfl,rfl,rfl⟩
 ·rw[if_pos rfl,if_pos rfl,N]at A;go_enter Tryz.func58,Tryz.ntmps58;go_wp2_with fail;refine A.mono ?_;rintro e w1⟨rfl,R,S,U,T,Q,o,k,D,z⟩;clear A;have f:=B.out.1.apart;have i:=B.out.1.led.keep B.out.1.footL B.out.1.footLR D f;have O:=B.out.2.1.keep B.out.1.footL D;rw[<- B.out.rh]at O;have hd:=Au (r:=r) i B.out.1.ok O B.out.qc (by have:=B.out.qd;omega) B.out.qe (BF B.out.qf D.size) (BF B.out.qg D.size);have Z:=BX (A7 o k D z i f N);clear o k D z i f O N;go_wp2_with fail;refine hd.mono ?_;rintro e w2⟨rfl,aD,aA,k2,aB⟩;clear hd;go_wp2_with fail;go_ret;obtain⟨o,k,D,z,i,f,_⟩:=Z.out;have W:=B.out.1.led.lt m (.inr (.inl rfl));have G:m≠R:=λe=>by
   rcases z R (.inl (.inr (.inl rfl)))with E|E
   ·exact f m (.inr (.inl rfl)) (by rw[e];exact E)
   ·omega
  have H:m≠S:=λe=>by
   rcases z S (.inl (.inr (.inr (.inl rfl))))with E|E
   ·exact f m (.inr (.inl rfl)) (by rw[e];exact E)
   ·omega
  have I:=VL i o k G H;refine⟨rfl,aD,R,S,U,T,Q,⟨aA,o.keep i.foot k2 (λb C V=>I b V (.inr C)),k.keep i.foot k2 (λb C V=>I b V (.inl C)),B.out.1.ok.step B.out.qc,B.out.1.tl.push B.out.qc,G,H⟩,(D.mono (λb _ e=>.inr e)).trans k2 (λb _ e=>.inl e),λb C=>?_⟩;rcases C with C|C
  ·rcases C with rfl|rfl|C
   ·exact .inl (.inl (.inl rfl))
   ·exact .inl (.inl (.inr (.inl rfl)))
   ·rcases aB b C with e|e
    ·exact .inl (.inl (.inr (.inr e)))
    ·exact .inr (BF D.size e)
  ·rcases z b C with e|e
   ·exact .inl (.inr e)
   ·exact .inr e
 ·rw[if_neg (by decide),if_neg (by decide)]at A;go_enter Tryz.func58,Tryz.ntmps58;go_wp2_with fail;refine A.mono ?_;rintro e w1⟨rfl,R,S,U,T,Q,o,k,D,z⟩;clear A;have f:=B.out.1.apart;have i:=B.out.1.led.keep B.out.1.footL B.out.1.footLR D f;have Z:=BX (A6 o k D z i f);clear o k D z i f;go_wp2_with fail;go_ret;obtain⟨o,k,D,z,i,f⟩:=Z.out;have W:=B.out.1.led.lt m (.inr (.inl rfl));have G:m≠R:=λe=>by
   rcases z R (.inl (.inr (.inl rfl)))with E|E
   ·exact f m (.inr (.inl rfl)) (by rw[e];exact E)
   ·omega
  have H:m≠S:=λe=>by
   rcases z S (.inl (.inr (.inr (.inl rfl))))with E|E
   ·exact f m (.inr (.inl rfl)) (by rw[e];exact E)
   ·omega
  refine⟨rfl,lv,R,S,U,T,Q,⟨i,o,k,B.out.1.ok,B.out.1.tl,G,H⟩,D.mono (λb _ e=>.inr e),λb C=>?_⟩;rcases C with C|C
  ·exact .inl (.inl C)
  ·rcases z b C with e|e
   ·exact .inl (.inr e)
   ·exact .inr e
def R0 (c:Int):Option Ji->Int
 | none=>0
 | some _=>c
def M6 [bn:Ib](base:Nat)(w:AC)(q g m p width:Nat)(size:Int)(ss:List Jh)(ts:List Ji)(d:Qr)(L:Xs)(F:Nat->Prop)(w':AC):Option Ji->Prop
 | none=>Xy No w w'
 | some _=>Ga base w q g m p width size ss ts d L F w'
theorem Sb[bn:Ib]{base B0:Nat}{w:AC}{q g m p n s width a b:Nat}{lv wv sgv rlv iv:AM}{size:Int}{ss ss':List Jh}{ts ts':List Ji}{d d':Qr}{L L':Xs}{l:List Qc}{c:Int}{j:Nat}{lc:List Qf}(h:Zc base w q g m lv p n s wv sgv rlv width size ss ts d L)(bx:Good j lc ss)(hj:j<=1000)(ad:Ur d)(ha:a<16)(aW:Xr base w B0 iv l)(hr:Yv b l=true)(bz:l.length<=8)(bT:∀x∈l,x.s.body.length<=40)(bN:L.recs.length<=1073741824)(hb:base<=w.heap.size)(hT:ban.top<=w.heap.size)(cF:∀r,L.putR a b l=AF r->Ha c size ss ts d L r ss' ts' d' L') :
  Calls Tryz.prog 24 #[.pointer (AF ⟨q,0,AI⟩),.int .i64 a,.int .u64 b,iv] w λe w' =>
   ∃tv,e=.returned (.tuple #[tv,.int .i64 (R0 c (L.putR a b l))])/\Uo w' w.heap.size tv (if R0 c (L.putR a b l)=0 then(pick ((L.win a).skip b) l).map (·.n)else[])/\M6 base w q g m p width size ss' ts' d' L' (Qi q g m lv p n s wv sgv rlv) w' (L.putR a b l):=by
 obtain⟨io,ic,rfl,_,_⟩:=aW.form;obtain⟨x,hx,af,bh,_⟩:=h.ok.at ha;obtain⟨ns,_,bA,_,_,a1,a2,a3,_⟩:=h.led.agCell hx;obtain⟨no,nc,rfl,_,_⟩:=bA.form;obtain⟨aX,aJ⟩:=(Jm b l).1 hr;have bs:=Vj (w:=w) q a ha;have bf:=Eh b aW (by omega) (λx hx=>by have:=bT x hx;omega);rw[hr]at bf;obtain⟨y,hy⟩:∃y,y=x.now.skip b:=⟨_,rfl⟩;have bi:=af.fine.skip (b:=b) (by omega);rw[<- hy]at bi;have au:=λ(X:AC) (kX:Xy No w X)=>Oa (w:=X) (u:=.agg #[.int .u64 x.now.low,.int .u64 x.now.width,.slice no x.now.set.length nc]) (x:=x.now) ⟨_,rfl,bA.no kX⟩ af.now.pre (λr hr=>by have:=af.below _ (af.now.set.last hr);omega) b (by omega);rw[<- hy]at au;rw[bh,<- hy];obtain⟨pr,aq⟩:∃pr,pr=L.putR a b l:=⟨_,rfl⟩;rw[<- aq];have bL:pr=if pick y l=[]/\y=x.now then AI else AF (.put a b (pick y l)):=by rw[aq];unfold Xs.putR;rw[bh,<- hy]
 have bJ:∀r,pr=AF r->L.can r:=λr e=>Xs.putR_can ha hr (by omega) (by rw[<- aq];exact e);obtain⟨cc,bU⟩:∃cc,cc=R0 c pr:=⟨_,rfl⟩;obtain⟨nl,bZ⟩:∃nl:List Nat,nl=if cc=0 then(pick y l).map (·.n)else[]:=⟨_,rfl⟩
 rw[<- bU,<- bZ];have aB:=BX (A2 bU bZ);clear bU bZ;have cY:(a:Int)<16:=by omega
 have cO:(l.length:Int)<=8:=by omega
 have J:=BX (A9 h aW (A3 bx hj ad) bN hb hT (show ∀r,pr=AF r->Ha c size ss ts d L r ss' ts' d' L' from λr e=>cF r (by rw[<- aq];exact e)) bL bJ);have HP:=BX (A8 bi aX aJ bz bT bA af ha);clear h aW hr bz bT bx hj ad bN hb hT cF bL bJ aq bi aX aJ bA af hx bh hy ha;go_enter Tryz.func24,Tryz.ntmps24;go_upto_region 7 with(first
  | (go_at_call 64;refine(au _ k1).mono ?_;rintro e w2 ⟨u2,rfl,cE,k2⟩;obtain⟨o2,c2,rfl,be⟩:=cE.form)
  | (go_at_call 63;refine bf.mono ?_;rintro e w1 ⟨rfl,k1⟩;have b1:=k1.cell a1 id;have b2:=k1.cell a2 id;have b3:=k1.cell a3 id)
  | (go_at_call 61;refine bs.mono ?_;rintro e w0 ⟨rfl,bg⟩;have bg:=bg.symm;subst bg))
 clear bs bf au;have kA:=(Xy.refl No w2).alloc (.cells #[.int .u64 y.low,.int .u64 y.width,.slice o2 y.set.length c2] 92);have hA:=Qy w2 (.cells #[.int .u64 y.low,.int .u64 y.width,.slice o2 y.set.length c2] 92);obtain⟨W3,br⟩:∃W3,W3=w2.alloc (.cells #[.int .u64 y.low,.int .u64 y.width,.slice o2 y.set.length c2] 92):=⟨_,rfl⟩;rw[<- br]at kA hA⊢;obtain⟨b11,M⟩:∃b11,b11=w2.heap.size:=⟨_,rfl⟩;rw[<- M]at hA⊢;have aD:Xy No w W3:=(k1.then k2).then kA;have bt:Xf W3 b11 y:=⟨o2,c2,hA,be.no kA⟩;have bK:w.heap.size<=b11:=by rw[M];exact BF k1.size k2.size
 have d0:=Qq hA 0;have d1:=Qq hA 1;have d2:=Qq hA 2;simp at d0 d1 d2;have a1:=aD.cell a1 id;have a2:=aD.cell a2 id;have a3:=aD.cell a3 id;have ad:=λ(X:AC) (kX:Xy No W3 X)=>Lm (w:=X) (ua:=.agg #[.int .u64 y.low,.int .u64 y.width,.slice o2 y.set.length c2]) (ub:=.agg #[.int .u64 x.now.low,.int .u64 x.now.width,.slice no x.now.set.length nc]) (x:=y) (y:=x.now) ⟨_,rfl,(be.no kA).no kX⟩ ⟨_,rfl,(HP.out.2.2.2.2.2.1.no aD).no kX⟩ HP.out.1.ok.few HP.out.2.2.2.2.2.2.1.now.few;obtain⟨sm,N⟩:∃sm,sm=decide (y=x.now):=⟨_,rfl⟩;rw[<- N]at ad;have HA:=BX (A5 aD bt bK ad N);clear br M aD bt bK ad N k1 k2 kA hA be cE b1 b2 b3;have kd:Xy No W3 W3.drew:=(Xy.refl _ _).drew;refine Ql (λw'=>Xy No W3 w') [0,1,2,3,4] [5,6,7] [] (by kernel_rfl) (by kernel_rfl) (λ_ _ _ _ _ h=>h) kd ?_;iterate 5(refine Qk (v:=?_) rfl rfl rfl ?_ ?_;rotate_left;focus(
  intro w' hS;have f0:=hS.cell d0 id;have f1:=hS.cell d1 id;have f2:=hS.cell d2 id;have g1:=hS.cell a1 id;have g2:=hS.cell a2 id;have g3:=hS.cell a3 id;go_simp
  try with_reducible rfl))
 refine Qj (Qx rfl rfl (λK hK=>?_));go_simp;refine(HA.out.qd _ kd).mono ?_;rintro e w4⟨rfl,k4⟩;have ag:=kd.then k4;refine hK _ _ ag ?_;clear hK K;refine Qx rfl rfl (λK hK=>?_);go_simp;refine hK _ _ ag ?_;clear hK K;refine Qx rfl rfl (λK hK=>?_);go_simp;refine hK _ _ ag ?_;clear hK K;refine Qh (Qm ?_);have bp:Rk w w4 b11 (.slice AI 0 0) (.slice AI 0 0) y []:=⟨Uo.nil _ _,Kr.nil _ _,HA.out.2.1.keep (Zn.no _) ag id,HA.out.1.then ag,HA.out.qc⟩;have cH:=BX bp;clear bp k4 ag kd d0 d1 d2 a1 a2 a3;go_wp2_with fail;go_loopw [13,14,49] (λcS cT bk wr=>∃k,bk=.int .i64 (k:Nat)/\k<=l.length/\Rk w wr b11 cS cT y (pick y (l.take k))) (λ_ _ bk _=>l.length-(intOf bk).toNat);case atStart=>exact⟨0,rfl,BW _,cH.out⟩
 case round =>
  obtain⟨k,rfl,hk,B⟩:=hrel;obtain⟨t,ht⟩:∃t,t=pick y (l.take k):=⟨_,rfl⟩;rw[<- ht]at B;obtain⟨cG,tc,cR,cU,cV⟩:=B.nums.form;obtain⟨po,pc,cQ⟩:=B.bytes.form;subst cR cQ;by_cases P:k<l.length
  ·have hx:l[k]?=AF l[k]:=BY P;have aG:l.take (k+1)=l.take k++[l[k]]:=BM P;generalize l[k]=z at hx aG;have bE:=FB hx;have bF:=HP.out.2.1 z bE;have bj:=HP.out.qe z bE;have aH:t.length<=8/\∀x∈t,x.Right/\x.s.body.length<=40:=by rw[ht];have hs:=(Xi y (l.take k)).trans (List.take_sublist k l);exact⟨BF hs.length_le HP.out.qd,λx hx=>⟨HP.out.2.1 x (hs.subset hx),HP.out.qe x (hs.subset hx)⟩⟩
   have Q:=Uw y (l.take k) z;rw[<- aG,<- ht]at Q;obtain⟨gi,ui,cM,bD,e0,e1,e2⟩:=(J.out.2.1.no B.k).cell hx;obtain⟨uo,uc,rfl⟩:=bD.form;subst cM;have cN:(k:Int)<(l.length:Int):=by omega
   have S:(y.putAll t).Fine width:=HP.out.1.putAll (λx hx=>(aH.2 x hx).1.1);obtain⟨T,ay⟩:∃T,T=y.putAll t:=⟨_,rfl⟩;have aC:=B.box;rw[<- ay]at Q S aC;obtain⟨bo,bc,b0,b1,b2,_,hv⟩:=aC.cells;have kA:=(Xy.refl No wr).alloc (.cells #[.int .u64 z.n,.int .i64 z.s.c,.slice uo z.s.body.length uc] 111);have cI:=λo=>((Xy.refl No wr).alloc o).cell b0 id;have cJ:=λo=>((Xy.refl No wr).alloc o).cell b1 id;have cK:=λo=>((Xy.refl No wr).alloc o).cell b2 id;have aQ:=Qy wr (.cells #[.int .u64 z.n,.int .i64 z.s.c,.slice uo z.s.body.length uc] 111);have M:=aC.lt;have aY:=Dw (hv.no kA) S.ok.pre z.n;have C:(t.map (·.n)).length=t.length:=by simp
   rw[C]at B⊢;cases bC:T.takes z.n
   ·rw[bC]at aY Q;have Q:pick y (l.take (k+1))=t:=by rw[Q];simp
    have f:=BX (A3 (B.no kA) P Q);clear B P Q hx aG bE bF bj aH bD S ay aC hv kA aQ M bC ht hk C;go_wp2_with(go_at_call 65;refine aY.mono ?_;rintro e w6 ⟨rfl,k6⟩);go_roundw;case rel=>exact⟨k+1,by congr 1,by have:=f.out.2.1;omega,by rw[f.out.2.2];exact f.out.1.no k6⟩
    case measure=>have:=f.out.2.1;simp[intOf];omega
   ·rw[bC]at aY Q;have Q:pick y (l.take (k+1))=t++[z]:=by rw[Q];simp
    have bM:=λ(w':AC) (k:Xy No (wr.alloc (.cells #[.int .u64 z.n,.int .i64 z.s.c,.slice uo z.s.body.length uc] 111)) w')=>ZN ((hv.no kA).no k) S.ok z.n (by have:=bF.1;omega);have bq:(y.putAll (t++[z]))=T.put z.n:=by rw[Kq,<- ay];rfl
    have f:=BX (A12 (B.no kA) P Q (aC.keep (Zn.no _) kA id) aQ ((bD.no kA)) bF bj aH bq bM M);clear B P Q hx aG bE bF bj aH bD S ay aC hv kA aQ M bC ht hk C bM bq;go_wp2_with(go_at_call 65;refine aY.mono ?_;rintro e w6 ⟨rfl,k6⟩;have p0:=k6.cell (cI _) id;have p1:=k6.cell (cJ _) id;have p2:=k6.cell (cK _) id;have E:=k6.heap f.out.qe id;have n0:=Qq E 0;simp at n0);refine(f.out.qk w6 k6).mono ?_;rintro e w7⟨u7,rfl,cD,k7⟩;obtain⟨o7,c7,rfl,cB⟩:=cD.form;have aw:=k6.then k7;have az:=f.out.2.2.2.1.keep (Zn.no _) aw id;obtain⟨_,_,q0,q1,q2,fq,_⟩:=az.cells;obtain⟨bB,ax⟩:=az.store cB;obtain⟨Z,hZ⟩:∃Z,((w7.setCell ⟨b11,0,AI⟩ (.int .u64 (T.put z.n).low)).setCell ⟨b11,1,AI⟩ (.int .u64 (T.put z.n).width)).setCell ⟨b11,2,AI⟩ (.slice o7 (T.put z.n).set.length c7)=Z:=⟨_,rfl⟩;rw[hZ]at bB ax;have M:=f.out.rl;have an:=ax.heap (aw.heap f.out.qe id) (show ¬wr.heap.size=b11 by omega);obtain⟨ao,aV,kZ⟩:=(f.out.1.no aw).box2 bB ax;have bR:=(f.out.2.2.2.2.2.1.no aw).keep (az.foot (BF J.out.qe f.out.1.new)) ax;have z0:=Qq an 0;have z1:=Qq an 1;have z2:=Qq an 2;simp at z0 z1 z2;have kN:=(Xy.refl No Z).alloc (.cells #[.int .u64 z.n] 27);have hN:=Qy Z (.cells #[.int .u64 z.n] 27);have bQ:=kZ.size;have HZ:=BX (A9 bB (ao.keep kN (λ_ _ e=>e)) (aV.keep kN (λ_ _ e=>e)) (kZ.then kN) (bR.no kN) hN (kN.heap an id) kN bQ);clear bB ax an ao aV kZ bR kN hN bQ az cD cB aw k7 E;have ac:=HZ.out.2.1.kind;go_wp2_with(first
     | (go_at_call 67;refine bd.mono ?_;rintro e w9 ⟨v9,rfl,bS,k9⟩;obtain⟨o9,c9,rfl⟩:=bS.form)
     | (at_builtin;refine Np rfl _ _ rfl HZ.out.2.1 rfl HZ.out.qf rfl (by have:=f.out.2.2.2.2.2.2.2.2.1.1;simp;omega) HZ.out.2.2.2.1.size ?_;intro cb cZ w8 cP k8;have am:=k8.heap HZ.out.qg (λe=>by obtain⟨_,ab,hz⟩:=ac _ e;have:=HZ.out.qg;rw[hz]at this;simp at this);have s0:=Qq am 0;have s1:=Qq am 1;have s2:=Qq am 2;simp at s0 s1 s2;have cL:Uz base (Z.alloc (.cells #[.int .u64 z.n] 27)) (λb=>(DN cG t.length tc).ownBlock=AF b):=(λc R=>by obtain⟨h1,ab,hz⟩:=ac c R;exact⟨BF J.out.qe h1,Qt hz,λcs fr e=>by rw[hz]at e;simp at e⟩);have cC:=HZ.out.2.2.2.2.1.keep cL k8;have bv:=HZ.out.2.2.1.keep k8 (λc R e=>by obtain⟨_,ab,hz⟩:=ac c e;obtain⟨_,bG,V⟩:=Qa HZ.out.qc c R;rw[hz]at V;simp at V);have bO:=HZ.out.2.2.2.1.size;have bP:=k8.size;have bd:=SM (w:=w8) (i:=z) (BF J.out.qf (BF bO bP)) cC (bv.bytes (base:=0) (λ_=>J.out.qf)) (by have:=f.out.2.2.2.2.2.2.1.1;omega) (by have h1:=f.out.qi;have h2:=Vo h1.2;omega) (by have:=f.out.qh;omega)))
    go_roundw;case rel =>
     have bm:Zn (Z.alloc (.cells #[.int .u64 z.n] 27)) (λb=>(DN cG t.length tc).ownBlock=AF b):=λc R hr=>by
      obtain⟨h1,ab,hz⟩:=ac c R;obtain⟨cs,fr,e⟩:=hr;rw[hz]at e;simp at e
     have bI:=HZ.out.1.keep (Zn.no _) HZ.out.qh id;have bu:=bI.keep bm k8 (λe=>by
      obtain⟨_,ab,hz⟩:=ac _ e;obtain⟨_,_,V,_⟩:=bI
      rw[hz]at V;simp at V)
     refine⟨k+1,by congr 1,by have:=f.out.2.1;omega,?_⟩;rw[f.out.qc];refine⟨?_,?_,?_,?_,f.out.1.new⟩
     ·have h8:=cP.keep k9 (λ_ _ e=>e);rw[List.length_map]at h8;rw[O5];exact h8
     ·have e:Qb (t++[z])=Qb t++z.bytes:=by simp[Qb]
      have h9:=bS.mono (BF bO bP);rw[BO]at h9;rw[e];exact h9
     ·rw[f.out.qj];exact bu.keep (Zn.no _) k9 id
     ·exact(HZ.out.2.2.2.1.trans k8 (λc R e=>by have:=(ac c e).1;omega)).then k9
    case measure=>have:=f.out.2.1;simp[intOf];omega
  ·have bX:k=l.length:=by omega
   have cN:¬(k:Int)<(l.length:Int):=by omega
   have ae:t=pick y l:=by rw[ht,bX,DU (BE _)]
   have C:(t.map (·.n)).length=t.length:=by simp
   have aZ:t.length<=8/\∀x∈t,x.Right/\x.s.body.length<=40:=by rw[ae];have hs:=Xi y l;exact⟨BF hs.length_le HP.out.qd,λx hx=>⟨HP.out.2.1 x (hs.subset hx),HP.out.qe x (hs.subset hx)⟩⟩
   rw[C]at B⊢;have aK:=J.out.qh;rw[<- ae]at aK;have N:=HA.out.re;by_cases aF:t=[]/\y=x.now
   ·obtain⟨h1,h2⟩:=aF;have cA:pr=AI:=by rw[aK,if_pos ⟨h1,h2⟩]
    obtain rfl:sm=true:=by rw[N];simp[h2]
    have f:=BX (A4 B cA ae h1);have bl:((t.length:Nat):Int)=0:=by rw[h1];rfl
    have cX:(((t.length:Nat):Int)==0)=true:=by rw[bl];rfl
    clear B cA ae h1 h2 aK N bX P hk ht aZ C bl;go_wp2_with fail;go_ret2;have D:cc=0:=by rw[aB.out.1,f.out.2.1];rfl
    have aE:nl=[]:=by rw[aB.out.2,if_pos D,<- f.out.qc,f.out.2.2.2];rfl
    subst D;refine⟨.slice AI 0 0,rfl,?_,?_⟩
    ·rw[aE];exact Uo.nil _ _
    ·rw[f.out.2.1];exact f.out.1.k
   ·have bb:pr=AF (.put a b t):=by rw[aK,if_neg aF]
    have aS:=J.out.qg;have bV:=J.out.ri;rw[bb]at aS bV;have bw:(((t.length:Nat):Int)==0)=false\/((((t.length:Nat):Int)==0)=true/\sm=false):=by
     by_cases h0:t=[]
     ·right;refine⟨by rw[h0];rfl,?_⟩;rw[N];simp;exact λe=>aF ⟨h0,e⟩
     ·left;have:=List.length_pos_iff.2 h0;simp;omega
    have aJ:=HP.out.qc;have bH:=HP.out.rh;have ar:(Ji.put a b t).bytes.length<=600:=by have h1:=Vo aZ.2;have h2:=Qp (n:=a) (by omega);have h3:=Qp (n:=b) (by omega);have h4:=Qp (n:=t.length) (by omega);simp only[Ji.bytes,AT,BO];omega
    have f:=BX (A9 B aS bV bb ae aZ aJ bH ar);clear B aS bV bb ae aZ aK N bX P hk ht C aJ bH ar aF;have cW:((t.length:Nat):Int)<=8:=by have:=f.out.2.2.2.2.2.1.1;omega
    rcases bw with h0|⟨h0,rfl⟩
    ·go_wp2_with fail;refine(Xk (bn:=Xl) (Vq wr 3 (by decide)) a (by have:=f.out.qh;omega) (by simp)).mono ?_;rintro e u2⟨x2,rfl,G,k2⟩;have aO:([D7 3]++numB a).length<=11:=by have:=Qp (n:=a) (by have:=f.out.qh;omega);simp;omega
     obtain⟨o2,c2,rfl⟩:=G.form;generalize ai:[D7 3]++numB a=g2 at G aO⊢;have H2:=BX (A4 G k2 ai aO);clear G k2 ai aO;go_wp2_with fail;refine(Xk (bn:=Xl) (H2.out.1.bytes (bn:=Xl) (base:=0) (λ_=>BW _)) b (by have:=f.out.qg;omega) (by have:=H2.out.2.2.2;omega)).mono ?_;rintro e u3⟨x3,rfl,H,k3⟩;have aP:(g2++numB b).length<=21:=by have:=Qp (n:=b) (by have:=f.out.qg;omega);have:=H2.out.2.2.2;simp;omega
     obtain⟨o3,c3,rfl⟩:=H.form;generalize aj:g2++numB b=g3 at H aP⊢;have H3:=BX (A4 H k3 aj aP);clear H k3 aj aP;go_wp2_with fail;refine(Xk (bn:=Xl) (H3.out.1.bytes (bn:=Xl) (base:=0) (λ_=>BW _)) t.length (by omega) (by have:=H3.out.2.2.2;omega)).mono ?_;rintro e u4⟨x4,rfl,I,k4⟩;have bY:(g3++numB t.length).length<=31:=by have:=Qp (n:=t.length) (by omega);have:=H3.out.2.2.2;simp;omega
     obtain⟨o4,c4,rfl⟩:=I.form;generalize ak:g3++numB t.length=g4 at I bY⊢;have kL:=(Xy.refl No wr).alloc (.cells #[.int .u8 3] 5);have av:Xy No wr u4:=((kL.then H2.out.2.1).then H3.out.2.1).then k4;have aN:=f.out.1.no av;have aL:w.heap.size<=u3.heap.size:=BF f.out.1.k.size ((kL.then H2.out.2.1).then H3.out.2.1).size;have ap:=aN.bytes.bytes (base:=base) (λ_=>J.out.qf);have bW:(Qb t).length<=600:=by have:=f.out.ri;simp[Ji.bytes]at this;omega
     have aI:g4++Qb t=(Ji.put a b t).bytes:=by rw[<- ak,<- H3.out.qc,<- H2.out.qc];simp[Ji.bytes]
     have O:=BX (A7 I aN aL ap aI bW k4.size);clear I aN aL ap aI av kL ak k4;go_wp2_with(at_builtin;refine Zq rfl _ _ rfl u3.heap.size O.out.1 O.out.qd rfl rfl (by have:=O.out.qf;omega) O.out.rg ?_;intro v6 w6 A k6;obtain⟨o6,c6,rfl⟩:=A.form);have al:=O.out.1.lt;have W:Xy No w w6:=O.out.2.1.k.trans k6 (λc R e=>by have:=(al c e).1;have:=O.out.qc;omega);have A:Kr w6 u3.heap.size (.slice o6 (g4.length+(Qb t).length) c6) (Ji.put a b t).bytes:=by rw[<- O.out.qe];have h6:=A;rw[BO]at h6;exact h6
     refine(Li (r:=.put a b t) (J.out.1.no W) (A.bytes (base:=base) (λ_=>BF J.out.qf O.out.qc)) (f.out.qc _ rfl) (by have:=f.out.ri;omega) J.out.2.2.1.1 J.out.2.2.1.2.1 J.out.2.2.1.2.2 J.out.qd (BF J.out.qe W.size) (BF J.out.qf W.size) (f.out.2.1 _ rfl)).mono ?_;rintro e w7⟨rfl,U⟩;have E:=O.out.2.1.nums.keep k6 (λc R e=>by
      obtain⟨_,ab,hz⟩:=O.out.2.1.nums.kind c R;obtain⟨_,bG,V⟩:=Qa O.out.1 c e
      rw[hz]at V;simp at V)
     have H5:=BX (A3 U E W);have ah:=(f.out.2.1 _ rfl).code;clear U E W A k6 al;rcases ah with rfl|rfl
     ·go_wp2_with fail;go_ret2;obtain⟨aT,n',s',aU,aA,Y,aM,kF,aR⟩:=H5.out.1;have E:=H5.out.2.1;have P:=J.out.1.lt;have D:cc=0:=by rw[aB.out.1,f.out.qd];rfl
      have aE:nl=t.map (·.n):=by rw[aB.out.2,if_pos D,<- f.out.qe]
      rw[f.out.qd];subst D;refine⟨_,rfl,?_,?_⟩
      ·rw[aE];exact E.keep kF (λc R e=>by have:=(E.kind c R).1;have:=P c e;omega)
      ·exact⟨aT,n',s',aU,aA,Y,aM,(H5.out.2.2.no (F:=Qi q g m lv p n s wv sgv rlv)).trans kF (λ_ _ e=>e),λc R=>(aR c R).elim .inl (λe=>.inr (BF H5.out.2.2.size e))⟩
     ·go_wp2_with fail;go_ret2;obtain⟨aT,n',s',aU,aA,Y,aM,kF,aR⟩:=H5.out.1;have D:cc=5:=by rw[aB.out.1,f.out.qd];rfl
      have aE:nl=[]:=by rw[aB.out.2,if_neg (by rw[D];decide)]
      rw[f.out.qd];subst D;refine⟨.slice AI 0 0,rfl,by rw[aE];exact Uo.nil _ _,?_⟩;exact⟨aT,n',s',aU,aA,Y,aM,(H5.out.2.2.no (F:=Qi q g m lv p n s wv sgv rlv)).trans kF (λ_ _ e=>e),λc R=>(aR c R).elim .inl (λe=>.inr (BF H5.out.2.2.size e))⟩
    ·go_wp2_with fail;refine(Xk (bn:=Xl) (Vq wr 3 (by decide)) a (by have:=f.out.qh;omega) (by simp)).mono ?_;rintro e u2⟨x2,rfl,G,k2⟩;have aO:([D7 3]++numB a).length<=11:=by have:=Qp (n:=a) (by have:=f.out.qh;omega);simp;omega
     obtain⟨o2,c2,rfl⟩:=G.form;generalize ai:[D7 3]++numB a=g2 at G aO⊢;have H2:=BX (A4 G k2 ai aO);clear G k2 ai aO;go_wp2_with fail;refine(Xk (bn:=Xl) (H2.out.1.bytes (bn:=Xl) (base:=0) (λ_=>BW _)) b (by have:=f.out.qg;omega) (by have:=H2.out.2.2.2;omega)).mono ?_;rintro e u3⟨x3,rfl,H,k3⟩;have aP:(g2++numB b).length<=21:=by have:=Qp (n:=b) (by have:=f.out.qg;omega);have:=H2.out.2.2.2;simp;omega
     obtain⟨o3,c3,rfl⟩:=H.form;generalize aj:g2++numB b=g3 at H aP⊢;have H3:=BX (A4 H k3 aj aP);clear H k3 aj aP;go_wp2_with fail;refine(Xk (bn:=Xl) (H3.out.1.bytes (bn:=Xl) (base:=0) (λ_=>BW _)) t.length (by omega) (by have:=H3.out.2.2.2;omega)).mono ?_;rintro e u4⟨x4,rfl,I,k4⟩;have bY:(g3++numB t.length).length<=31:=by have:=Qp (n:=t.length) (by omega);have:=H3.out.2.2.2;simp;omega
     obtain⟨o4,c4,rfl⟩:=I.form;generalize ak:g3++numB t.length=g4 at I bY⊢;have kL:=(Xy.refl No wr).alloc (.cells #[.int .u8 3] 5);have av:Xy No wr u4:=((kL.then H2.out.2.1).then H3.out.2.1).then k4;have aN:=f.out.1.no av;have aL:w.heap.size<=u3.heap.size:=BF f.out.1.k.size ((kL.then H2.out.2.1).then H3.out.2.1).size;have ap:=aN.bytes.bytes (base:=base) (λ_=>J.out.qf);have bW:(Qb t).length<=600:=by have:=f.out.ri;simp[Ji.bytes]at this;omega
     have aI:g4++Qb t=(Ji.put a b t).bytes:=by rw[<- ak,<- H3.out.qc,<- H2.out.qc];simp[Ji.bytes]
     have O:=BX (A7 I aN aL ap aI bW k4.size);clear I aN aL ap aI av kL ak k4;go_wp2_with(at_builtin;refine Zq rfl _ _ rfl u3.heap.size O.out.1 O.out.qd rfl rfl (by have:=O.out.qf;omega) O.out.rg ?_;intro v6 w6 A k6;obtain⟨o6,c6,rfl⟩:=A.form);have al:=O.out.1.lt;have W:Xy No w w6:=O.out.2.1.k.trans k6 (λc R e=>by have:=(al c e).1;have:=O.out.qc;omega);have A:Kr w6 u3.heap.size (.slice o6 (g4.length+(Qb t).length) c6) (Ji.put a b t).bytes:=by rw[<- O.out.qe];have h6:=A;rw[BO]at h6;exact h6
     refine(Li (r:=.put a b t) (J.out.1.no W) (A.bytes (base:=base) (λ_=>BF J.out.qf O.out.qc)) (f.out.qc _ rfl) (by have:=f.out.ri;omega) J.out.2.2.1.1 J.out.2.2.1.2.1 J.out.2.2.1.2.2 J.out.qd (BF J.out.qe W.size) (BF J.out.qf W.size) (f.out.2.1 _ rfl)).mono ?_;rintro e w7⟨rfl,U⟩;have E:=O.out.2.1.nums.keep k6 (λc R e=>by
      obtain⟨_,ab,hz⟩:=O.out.2.1.nums.kind c R;obtain⟨_,bG,V⟩:=Qa O.out.1 c e
      rw[hz]at V;simp at V)
     have H5:=BX (A3 U E W);have ah:=(f.out.2.1 _ rfl).code;clear U E W A k6 al;rcases ah with rfl|rfl
     ·go_wp2_with fail;go_ret2;obtain⟨aT,n',s',aU,aA,Y,aM,kF,aR⟩:=H5.out.1;have E:=H5.out.2.1;have P:=J.out.1.lt;have D:cc=0:=by rw[aB.out.1,f.out.qd];rfl
      have aE:nl=t.map (·.n):=by rw[aB.out.2,if_pos D,<- f.out.qe]
      rw[f.out.qd];subst D;refine⟨_,rfl,?_,?_⟩
      ·rw[aE];exact E.keep kF (λc R e=>by have:=(E.kind c R).1;have:=P c e;omega)
      ·exact⟨aT,n',s',aU,aA,Y,aM,(H5.out.2.2.no (F:=Qi q g m lv p n s wv sgv rlv)).trans kF (λ_ _ e=>e),λc R=>(aR c R).elim .inl (λe=>.inr (BF H5.out.2.2.size e))⟩
     ·go_wp2_with fail;go_ret2;obtain⟨aT,n',s',aU,aA,Y,aM,kF,aR⟩:=H5.out.1;have D:cc=5:=by rw[aB.out.1,f.out.qd];rfl
      have aE:nl=[]:=by rw[aB.out.2,if_neg (by rw[D];decide)]
      rw[f.out.qd];subst D;refine⟨.slice AI 0 0,rfl,by rw[aE];exact Uo.nil _ _,?_⟩;exact⟨aT,n',s',aU,aA,Y,aM,(H5.out.2.2.no (F:=Qi q g m lv p n s wv sgv rlv)).trans kF (λ_ _ e=>e),λc R=>(aR c R).elim .inl (λe=>.inr (BF H5.out.2.2.size e))⟩
end
end Go.Proofs.YtfdmbomlkpkegaaGreat
