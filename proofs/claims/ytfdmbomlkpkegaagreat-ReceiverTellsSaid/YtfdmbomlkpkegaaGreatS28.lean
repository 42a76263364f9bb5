/- Lemmas. -/
import Derived.Test.YtfdmbomlkpkegaaGreatS14
import Derived.Test.YtfdmbomlkpkegaaGreatS22
set_option maxRecDepth 100000
set_option maxHeartbeats 8000000
set_option linter.all false
set_option autoImplicit true
set_option relaxedAutoImplicit true
open Go renaming MemPlace->PF,Value->AM
open Go.Addr renaming add_lit->DZ
open Go.DataW renaming trod->PG,trod_int->PJ,trod_struct->PI
open Go.World renaming cells?_some->PH
open List renaming getElem?_eq_getElem->BY,take_take->OE
open Nat renaming min_eq_left->EA,min_eq_right->OF
open Option renaming none->AI,some->AF
namespace Go.Proofs.YtfdmbomlkpkegaaGreat
section
open Go Go.RowKit Go.ChangeShapes Go.WideShapes Go.ChangeAt Go.Deep
def VC [bn:Ib](base:Nat)(w:World)(g o:Nat)(x:Qc):Prop :=
 x.n<18446744073709551616/\∃u,Qv base w u x.s.body/\w.cell? ⟨g,o,AI⟩=AF (.int .u64 x.n)/\w.cell? ⟨g,o+1,AI⟩=AF (.int .i64 x.s.c)/\w.cell? ⟨g,o+2,AI⟩=AF u
def Gu {α:Type}(base:Nat)(c:Nat)(R:Nat->Nat->α->Prop)(v:AM)(l:List α):Prop :=
 ∃ao cap,v=.slice ao l.length cap/\l.length<=cap/\cap<=maxLen/\(l=[]\/∃g o,g<base/\ao=AF ⟨g,o,AI⟩/\∀(i:Nat) a,l[i]?=AF a->R g (o+i*c) a)
def Rw [bn:Ib](base:Nat)(w:World)(v:AM)(l:List Qc):Prop:=Gu base 3 (VC base w) v l
theorem VC.no[bn:Ib](h:VC base w g o x)(k:Xy No w d):VC base d g o x:=by obtain⟨m,u,n,f,i,j⟩:=h;exact⟨m,u,n.no k,k.cell f id,k.cell i id,k.cell j id⟩
theorem Gu.mono{α:Type}{R R':Nat->Nat->α->Prop}{v:AM}{l:List α}(h:Gu base c R v l)(m:∀g o a,R g o a->R' g o a):Gu base c R' v l:=by
 obtain⟨ao,cap,f,j,k,d⟩:=h;refine⟨ao,cap,f,j,k,?_⟩;rcases d with d|⟨g,o,p,w,q⟩
 ·exact .inl d
 ·exact .inr ⟨g,o,p,w,λi a n=>m _ _ _ (q i a n)⟩
theorem Rw.no[bn:Ib](h:Rw base w v l)(k:Xy No w d):Rw base d v l:=Gu.mono h (λ_ _ _ f=>VC.no f k)
theorem Gu.form{α:Type}{R:Nat->Nat->α->Prop}{v:AM}{l:List α}(h:Gu base c R v l):∃ao cap,v=.slice ao l.length cap/\l.length<=cap/\cap<=maxLen:=by obtain⟨ao,cap,d,f,g,_⟩:=h;exact⟨ao,cap,d,f,g⟩
theorem Gu.at{α:Type}{R:Nat->Nat->α->Prop}{ao:Option Addr}{l:List α}(h:Gu base c R (.slice ao n cap) l){i:Nat}{a:α}(hi:l[i]?=AF a):∃g o,ao=AF ⟨g,o,AI⟩/\R g (o+i*c) a:=by
 obtain⟨j,d,f,p,q,k⟩:=h;simp only[Value.slice.injEq]at f;obtain⟨rfl,_,_⟩:=f;rcases k with rfl|⟨g,o,_,rfl,m⟩
 ·simp at hi
 ·exact⟨g,o,rfl,m i a hi⟩
section
variable {H:Type}{enc:TypeId × AM->H}{W:World}
theorem Th{α:Type}(O:α)(R:Nat->Nat->α->Prop){ts L:TypeId}(X:Tryz.prog.underlying ts=AF (.slice L))(c:Nat)(G:0<c)(w:Tryz.prog.cellsOf L=c)(C:∀{d:Nat} {cs:List AM} {x:DataW H×List PF} {g o:Nat},PG enc Tryz.prog W 0 (λ_=>true) true d L cs=AF x->(∀i,i<c->W.cell? ⟨g,o+i,AI⟩=cs[i]?)->∃a:α,R g o a){d:Nat}{ao:Option Addr}{n cap:Nat}{x:DataW H×List PF}(h:PG enc Tryz.prog W 0 (λ_=>true) true d ts [.slice ao n cap]=AF x) :
  ∃l:List α,Gu W.heap.size c R (.slice ao n cap) l:=by
 rcases open_slice X h with⟨k,_⟩|⟨a,len,M,m,Z,D,Y,k,_,T,N,E,_,K⟩
 ·simp at k;obtain⟨rfl,rfl,rfl⟩:=k;exact⟨[],AI,0,rfl,Nat.le_refl _,by decide,.inl rfl⟩
 ·simp at k;obtain⟨rfl,rfl,rfl⟩:=k;simp at E;subst E;by_cases P:n=0
  ·subst P;exact⟨[],_,_,rfl,Nat.zero_le _,N,.inl rfl⟩
  ·rw[w]at K;obtain⟨b,off,F⟩:=a;obtain⟨B,p,_⟩:=K 0 (by omega);obtain⟨_,U,p⟩:=PH p;have J:B[0]?=AF B[0]:=BY (by omega);have q:=p 0 (by omega);rw[J]at q;have z:F=AI:=by simpa[Addr.add]using World.cell?_spot q
   subst z;have I:b<W.heap.size:=by simpa[Addr.add]using World.block_lt_of_cell? W _ q
   have key:∀i,i<n->∃a:α,R b (off+i*c) a:=by intro i hi;obtain⟨cs,G,V⟩:=K i (by omega);obtain⟨_,_,G⟩:=PH G;refine C V (λj S=>?_);rw[<- G j S,DZ,DZ]
   have:∃f:Nat->α,∀i,i<n->R b (off+i*c) (f i) :=
    ⟨λi=>if h:i<n then Classical.choose (key i h)else O,λi hi=>by simp only[hi,dif_pos];exact Classical.choose_spec (key i hi)⟩
   obtain⟨f,Q⟩:=this;refine⟨(List.range n).map f,AF ⟨b,off,AI⟩,m,by simp,by simpa using T,N,.inr ⟨b,off,I,rfl,λi a A=>?_⟩⟩;rw[List.getElem?_map]at A;have hi:i<n:=by
    rcases Nat.lt_or_ge i n with h|h
    ·exact h
    ·rw[List.getElem?_eq_none (by simpa using h)]at A;cases A
   rw[List.getElem?_range hi]at A;simp at A;subst A;exact Q i hi
theorem Jw(d:k.min=0)(w:(Lit.int k n).wf=true):∃m:Nat,n=m:=⟨n.toNat,(Int.toNat_of_nonneg (by have:=(Jt w).1;omega)).symm⟩
theorem Tm{v:AM}{f:Nat}{ts j:TypeId}(i:Tryz.prog.underlying ts=AF (.slice j)){x:DataW H×List PF}(h:PG enc Tryz.prog W 0 (λ_=>true) true f ts [v]=AF x):∃ao n cap,v=.slice ao n cap:=by
 rcases open_slice i h with⟨d,_⟩|⟨a,len,g,m,o,D,k,d,_⟩
 ·simp at d;exact⟨_,_,_,d⟩
 ·simp at d;exact⟨_,_,_,d⟩
theorem ZS{cs:List AM}(h:cs.length=2):∃a b,cs=[a,b]:=by
 match cs,h with
 | [a,b],_=>exact⟨a,b,rfl⟩
theorem VG{cs:List AM}(h:cs.length=3):∃a b c,cs=[a,b,c]:=by
 match cs,h with
 | [a,b,c],_=>exact⟨a,b,c,rfl⟩
theorem X6[bn:Ib](f:ban.top=0){d:Nat}{cs:List AM}{x:DataW H×List PF}(h:PG enc Tryz.prog W 0 (λ_=>true) true d 61 cs=AF x) :
  ∃(s:Ys) (u:AM),cs=[.int .i64 s.c,u]/\Qv W.heap.size W u s.body:=by
 obtain⟨xs,n,_,_,C,g,q⟩:=PI Tryz.underlying61 h;have m:cs.length=2:=C.trans (by kernel_rfl);obtain⟨F,G,rfl⟩:=ZS m;have w:∀i,i<2->∃y,xs[i]?=AF y:=λi hi=>⟨_,BY (by rw[g];exact hi)⟩;have j:=q 0 _ rfl;have k:=q 1 _ rfl;dsimp at j k;rw[show Tryz.prog.cellsOf 3=1 from by kernel_rfl]at j;rw[show Tryz.prog.cellsOf 59=1 from by kernel_rfl]at k;obtain⟨K,A⟩:=w 0 (by omega);obtain⟨L,B⟩:=w 1 (by omega);rw[A]at j;rw[B]at k;obtain⟨E,o,_,J⟩:=PJ Tryz.underlying3 j;obtain⟨I,D,p,z⟩:=Iv f k;simp at o p;subst o p;exact⟨⟨E,D⟩,_,rfl,z⟩
theorem XY[bn:Ib](f:ban.top=0){d:Nat}{cs:List AM}{x:DataW H×List PF}{g o:Nat}(h:PG enc Tryz.prog W 0 (λ_=>true) true d 111 cs=AF x)(A:∀i,i<3->W.cell? ⟨g,o+i,AI⟩=cs[i]?):∃a:Qc,VC W.heap.size W g o a:=by obtain⟨xs,n,_,_,M,j,E⟩:=PI Tryz.underlying111 h;have B:cs.length=3:=M.trans (by kernel_rfl);obtain⟨Q,R,S,rfl⟩:=VG B;have F:∀i,i<2->∃y,xs[i]?=AF y:=λi hi=>⟨_,BY (by rw[j];exact hi)⟩;have k:=E 0 _ rfl;have p:=E 1 _ rfl;dsimp at k p;rw[show Tryz.prog.cellsOf 27=1 from by kernel_rfl]at k;rw[show Tryz.prog.cellsOf 61=2 from by kernel_rfl]at p;obtain⟨U,J⟩:=F 0 (by omega);obtain⟨V,K⟩:=F 1 (by omega);rw[J]at k;rw[K]at p;obtain⟨T,C,_,G⟩:=PJ Tryz.underlying27 k;obtain⟨s,u,D,I⟩:=X6 f p;simp at C D;obtain⟨q,w⟩:=D;subst C q w;have N:=A 0 (by omega);have O:=A 1 (by omega);have P:=A 2 (by omega);have z:=Jt G;have L:IntKind.u64.max=18446744073709551615:=rfl;obtain⟨m,rfl⟩:=Jw rfl G;exact⟨⟨m,s⟩,by show m<_;have:=z.2;omega,_,I,N,O,P⟩
end
end
section
open Go Go.RowKit Go.Dr
def MM (x:Qc):Qc:=⟨x.n,⟨x.s.c,x.s.body.take 40⟩⟩
def My (l:List Qc):List Qc:=(l.take 8).map MM
theorem Tf(l:List Qc):(My l).length<=8:=by unfold My;simp;omega
theorem QA(l:List Qc):∀x∈My l,x.s.body.length<=40:=by intro x d;obtain⟨y,_,rfl⟩:=List.mem_map.1 d;show(y.s.body.take 40).length<=40;rw[List.length_take];omega
theorem G4{l:List Qc}(f:l[k]?=AF x)(h:k<8):My (l.take (k+1))=My (l.take k)++[MM x]:=by obtain⟨d,rfl⟩:=List.getElem?_eq_some_iff.1 f;unfold My;rw[OE,OE,OF (by omega),OF (by omega),List.take_succ_eq_append_getElem d,List.map_append];rfl
theorem G7{l:List Qc}(h:8<=k):My (l.take (k+1))=My (l.take k):=by unfold My;rw[OE,OE,EA (by omega),EA (by omega)]
end
end Go.Proofs.YtfdmbomlkpkegaaGreat
