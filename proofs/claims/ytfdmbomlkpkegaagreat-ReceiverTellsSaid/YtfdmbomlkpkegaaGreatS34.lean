/- Lemmas. -/
import Derived.Test.YtfdmbomlkpkegaaGreatS33
set_option maxRecDepth 100000
set_option maxHeartbeats 8000000
set_option linter.all false
set_option autoImplicit true
set_option relaxedAutoImplicit true
open Go renaming Calls->DJ,Value->AM,World->AC,undef->LW,yielded->AW
open Go.Act renaming put->AQ
open Go.Lib renaming hid->BX
open Go.Region renaming wanted->AV
open Go.Value renaming int->DA,pointer->PY
open Go.World renaming ownsRow_nil->FI,size_alloc->FE
open List renaming getElem?_eq_getElem->BY,replicate->BT
open Nat renaming add_comm->BC,le_refl->BE,le_trans->BF,zero_le->BW
open Option renaming none->AI,some->AF
namespace Go.Proofs.YtfdmbomlkpkegaaGreat
open Go Go.RowKit Go.Dr Go.Shelf
def Ui [bn:Ib](base:Nat)(w:AC)(q p width:Nat)(size:Int)(S:S16)(F:Nat->Prop):Prop :=
 ∃g m lv n s wv h f,Zc base w q g m lv p n s wv h f width size S.ss S.ts S.d S.L/\F=Qi q g m lv p n s wv h f
def Hv [bn:Ib](base:Nat)(w:AC)(r xq width:Nat)(size:Int)(S:S16)(F:Nat->Prop):Prop :=
 ∃d,Jg base w r xq d S.x width size S.cnt/\F=Vx r xq d
def YS [bn:Ib](base:Nat)(w:AC)(q p width:Nat)(size:Int)(S:S16)(F:Nat->Prop)(w':AC):Prop :=
 ∃d,Ui base w' q p width size S d/\Xy F w w'/\∀b,d b->F b\/w.heap.size<=b
def SB [bn:Ib](base:Nat)(w:AC)(r xq width:Nat)(size:Int)(S:S16)(F:Nat->Prop)(w':AC):Prop :=
 ∃d,Hv base w' r xq width size S d/\Xy F w w'/\∀b,d b->F b\/w.heap.size<=b
section
variable [bn:Ib]{base B0:Nat}{w w':AC}{q p r xq width j:Nat}{size:Int}{S S':S16}{F G:Nat->Prop}
theorem Ui.no(h:Ui base w q p width size S F)(k:Xy No w w'):Ui base w' q p width size S F:=by obtain⟨g,m,lv,n,s,wv,f,d,i,z⟩:=h;exact⟨g,m,lv,n,s,wv,f,d,i.no k,z⟩
theorem Hv.no(h:Hv base w r xq width size S F)(k:Xy No w w'):Hv base w' r xq width size S F:=by obtain⟨d,f,g⟩:=h;exact⟨d,f.no k,g⟩
theorem Ui.still(h:Ui base w q p width size S F)(k:Xy No w w'):YS base w q p width size S F w':=⟨F,h.no k,k.no,λ_ d=>.inl d⟩
theorem Hv.still(h:Hv base w r xq width size S F)(k:Xy No w w'):SB base w r xq width size S F w':=⟨F,h.no k,k.no,λ_ d=>.inl d⟩
theorem Ui.foot(h:Ui base w q p width size S F):Uz base w F:=by obtain⟨g,m,lv,n,s,wv,i,f,d,rfl⟩:=h;exact d.foot
theorem Hv.foot(h:Hv base w r xq width size S F):Uz base w F:=by obtain⟨f,d,rfl⟩:=h;exact d.footD
theorem Ui.footR(h:Ui base w q p width size S F):Zn w F:=by obtain⟨g,m,lv,n,s,wv,i,f,d,rfl⟩:=h;exact d.footR
theorem Hv.footR(h:Hv base w r xq width size S F):Zn w F:=by obtain⟨f,d,rfl⟩:=h;exact d.footDR
theorem Ui.apart(h:Ui base w q p width size S F)(i:Hv base w r xq width size S' G):∀b,G b->¬F b:=by obtain⟨g,m,lv,n,s,wv,B,A,d,rfl⟩:=h;obtain⟨z,f,rfl⟩:=i;exact Rc d f
theorem Ui.keep(h:Ui base w q p width size S F)(hF:Uz base w H)(z:Zn w H)(k:Xy H w w')(A:∀b,F b->¬H b):Ui base w' q p width size S F:=by obtain⟨g,m,lv,n,s,wv,f,d,i,rfl⟩:=h;exact⟨g,m,lv,n,s,wv,f,d,i.keep hF z k A,rfl⟩
theorem Hv.keep(h:Hv base w r xq width size S F)(hF:Uz base w H)(k:Xy H w w')(g:∀b,F b->¬H b):Hv base w' r xq width size S F:=by obtain⟨d,f,rfl⟩:=h;exact⟨d,f.keepD hF k g,rfl⟩
theorem Ui.cellsAt(h:Ui base w q p width size S F){b:Nat}{cs:Array AM}{t:TypeId}(A:w.heap[b]?=AF (.cells cs t (0,0)))(z:t≠126/\t≠63/\t≠135/\t≠137/\t≠130/\t≠265/\t≠59)(B:t≠5)(E:t≠96)(C:base<=b)(k:Xy (·=b) w w'):Ui base w' q p width size S F/\¬F b:=by obtain⟨g,m,lv,n,s,wv,f,d,i,rfl⟩:=h;exact⟨⟨g,m,lv,n,s,wv,f,d,i.cellsAt A z B E C k,rfl⟩,i.notCells A z⟩
theorem Hv.cellsAt(h:Hv base w r xq width size S F){b:Nat}{cs:Array AM}{t:TypeId}(z:w.heap[b]?=AF (.cells cs t (0,0)))(f:t≠157/\t≠119/\t≠244)(B:t≠5)(C:base<=b)(k:Xy (·=b) w w'):Hv base w' r xq width size S F/\¬F b:=by
 obtain⟨d,i,rfl⟩:=h;have m:¬Vx r xq d b:=λH=>by
  obtain⟨_,A,I,e,g⟩:=i.kindD H;rw[z]at e;simp at e;obtain⟨_,rfl⟩:=e;rcases g with e|e|e
  ·exact f.1 e
  ·exact f.2.1 e
  ·exact f.2.2 e
 exact⟨⟨d,i.keepD (Td z C B) k (λc E e=>by
  have e:c=b:=e;subst e
  exact m E),rfl⟩,m⟩
theorem Ga.led(h:Ga base w q g m p width size S.ss S.ts S.d S.L F w'):YS base w q p width size S F w':=by obtain⟨lv,n,s,wv,i,f,z,k,A⟩:=h;exact⟨_,⟨g,m,lv,n,s,wv,i,f,z,rfl⟩,k,A⟩
theorem Ho.doc(h:Ho base w r xq f S.x width size S.cnt w'):SB base w r xq width size S (Vx r xq f) w':=by
 obtain⟨g,i,k,m⟩:=h;refine⟨_,⟨g,i,rfl⟩,k.mono (λb _ e=>.inr (.inl e)),λb d=>?_⟩;rcases d with d|d|d
 ·exact .inl (.inl d)
 ·exact .inl (.inr (.inl d))
 ·exact(m b d).imp (λe=>.inr (.inr e)) id
theorem Hv.rr(h:Jg base w r xq f S.x width size S.cnt)(ok:Ue width j S)(g:j<=450):RR base w r xq f S.x width size (S.cnt:Int) S.ss S.ts S.L j S.cnt S.d:=⟨h,ok.lg7,g,ok.tls,ok.okL,ok.few⟩
theorem Ui.raise(h:Ui base w q p width size S F)(ok:Ue width j S)(T:j+1<=450)(O:Sp size S a e c S')(N:base<=w.heap.size)(M:ban.top<=w.heap.size) :
  DJ Tryz.prog 22 #[.pointer (AF ⟨q,0,AI⟩),.int .i64 a,.int .u64 e] w λz w'=>z=.returned (.int .i64 c)/\YS base w q p width size S' F w':=by
 have U:=ok.many (by omega);rcases O with⟨I,rfl,rfl⟩|⟨f,rfl,B,Q,⟨A,rfl,rfl⟩|⟨A,P⟩⟩
 ·by_cases B:a<0\/16<=a
  ·exact(KV w q a e B).mono (λz H ⟨d,i⟩=>⟨d,by subst i;exact h.still (Xy.refl _ _)⟩)
  ·obtain⟨f,rfl⟩:∃f:Nat,a=(f:Int):=⟨a.toNat,by omega⟩;exact(KY f e (by omega) (by omega)).mono (λz H ⟨d,i⟩=>⟨d,by subst i;exact h.still (Xy.refl _ _)⟩)
 ·have L:=h;obtain⟨g,m,lv,n,s,wv,E,C,d,_⟩:=L;exact(KJ d.led d.ok f e B (by omega) A).mono (λz H ⟨d,i⟩=>⟨d,by subst i;exact h.still (Xy.refl _ _)⟩)
 ·obtain⟨g,m,lv,n,s,wv,E,C,d,rfl⟩:=h;exact(TU d f e B (by omega) (by omega) ok.lg7.good (by omega) (ok.lg7.small (by omega)) (by omega) N M P.1).mono (λz H ⟨J,K⟩=>⟨J,K.led⟩)
theorem Hv.raise(h:Hv base w r xq width size S F)(ok:Ue width j S)(Q:j+1<=450)(O:Sp size S a e c S')(H:base<=w.heap.size)(C:ban.top<=w.heap.size) :
  DJ Tryz.prog 69 #[.pointer (AF ⟨r,0,AI⟩),.int .i64 a,.int .u64 e] w λz w'=>z=.returned (.int .i64 c)/\SB base w r xq width size S' F w':=by
 rcases O with⟨I,rfl,rfl⟩|⟨m,rfl,E,P,⟨f,rfl,rfl⟩|⟨f,J⟩⟩
 ·exact(XC _ a e (by omega)).mono (λz K ⟨g,N⟩=>⟨g,by subst N;exact h.still (Xy.refl _ _)⟩)
 ·have M:=h;obtain⟨B,g,_⟩:=M;obtain⟨i,A⟩:∃i,S'.x.append (Uj (Ku size S'.ss)).n (appB (Ku size S'.ss) (Ji.floor m e).bytes)=i:=⟨_,rfl⟩;refine(Fs (x':=i.1) (c:=i.2) (Hv.rr g ok (by omega)) m e E (by omega) H C A).mono ?_;rintro z K⟨d,_⟩;obtain⟨d,k⟩:=d f;exact⟨d,h.still k⟩
 ·obtain⟨B,g,rfl⟩:=h;refine(Fs (Hv.rr g ok (by omega)) m e E (by omega) H C J.2.1).mono ?_;rintro z K⟨_,d⟩;obtain⟨d,L⟩:=d f;refine⟨d,Ho.doc ?_⟩;rw[J.2.2];exact L
theorem Ui.put(h:Ui base w q p width size S F)(ok:Ue width j S)(hj:j+1<=450)(hr:Tz size S a b l c Z S')(W:base<=w.heap.size)(V:ban.top<=w.heap.size)(f:Xr base w B0 iv l)(K:l.length<=8)(B:∀x∈l,x.s.body.length<=40) :
  DJ Tryz.prog 24 #[.pointer (AF ⟨q,0,AI⟩),.int .i64 a,.int .u64 b,iv] w λz w'=>∃C,z=.returned (.tuple #[C,.int .i64 c])/\Uo w' w.heap.size C Z/\YS base w q p width size S' F w':=by
 have hm:=ok.many (by omega);rcases hr with⟨I,rfl,rfl,rfl⟩|⟨O,rfl,P,A,rfl,⟨i,rfl,rfl⟩|⟨rc,i,hw⟩⟩
 ·by_cases P:a<0\/16<=a
  ·exact(TK w q a b iv P).mono (λz Q ⟨H,h2⟩=>⟨_,H,Uo.nil _ _,by subst h2;exact h.still (Xy.refl _ _)⟩)
  ·obtain⟨O,rfl⟩:∃O:Nat,a=(O:Int):=⟨a.toNat,by omega⟩;have A:Yv b l=false:=by
    rcases I with h|h|h
    ·omega
    ·omega
    ·exact h
   exact(KX q O b (by omega) f (by omega) (λx hx=>by have:=B x hx;omega) A).mono (λz Q Y=>⟨_,Y.1,Uo.nil _ _,h.still Y.2⟩)
 ·have h':=h;obtain⟨g,m,lv,n,s,wv,N,M,H,_⟩:=h';have J:=Sb (c:=0) (ss':=S'.ss) (ts':=S'.ts) (d':=S'.d) (L':=S'.L) H ok.lg7.good (by omega) (ok.lg7.small (by omega)) P f A K B (by omega) W V (λr e=>by rw[i]at e;cases e);rw[i]at J;exact J.mono (λz Q ⟨C,T,U,E⟩=>⟨C,T,U,h.still E⟩)
 ·obtain⟨g,m,lv,n,s,wv,N,M,H,rfl⟩:=h;have J:=Sb H ok.lg7.good (by omega) (ok.lg7.small (by omega)) P f A K B (by omega) W V (λr e=>by rw[i]at e;cases e;exact hw.1);rw[i]at J;refine J.mono ?_;rintro z Q⟨C,T,U,E⟩;have E:Ga base w q g m p width size S'.ss S'.ts S'.d S'.L (Qi q g m lv p n s wv N M) Q:=E;exact⟨C,T,U,E.led⟩
theorem Hv.put(h:Hv base w r xq width size S F)(ok:Ue width j S)(hj:j+1<=450)(Y:Tz size S a b l c U S')(P:base<=w.heap.size)(O:ban.top<=w.heap.size)(d:Gs base w iv l)(H:l.length<=8)(i:∀x∈l,x.s.body.length<=40) :
  DJ Tryz.prog 72 #[.pointer (AF ⟨r,0,AI⟩),.int .i64 a,.int .u64 b,iv] w λz w'=>∃A,z=.returned (.tuple #[A,.int .i64 c])/\Uo w' w.heap.size A U/\SB base w r xq width size S' F w':=by
 have hm:=ok.many (by omega);rcases Y with⟨C,rfl,rfl,rfl⟩|⟨L,rfl,J,g,rfl,⟨f,rfl,rfl⟩|⟨rc,f,Q⟩⟩
 ·by_cases J:a<0\/15<a\/2305843009213693952<=b
  ·exact(K5 _ a b iv J).mono (λz K ⟨B,W⟩=>⟨_,B,Uo.nil _ _,by subst W;exact h.still (Xy.refl _ _)⟩)
  ·obtain⟨L,rfl⟩:∃L:Nat,a=(L:Int):=⟨a.toNat,by omega⟩;have g:Yv b l=false:=by
    rcases C with h|h|h
    ·omega
    ·omega
    ·exact h
   exact(XM (by omega) (by omega) d (by omega) (λx Z=>by have:=i x Z;omega) g).mono (λz K T=>⟨_,T.1,Uo.nil _ _,h.still T.2⟩)
 ·have V:=h;obtain⟨I,B,_⟩:=V;have E:=Ew (c:=0) (x':=S'.x) (Hv.rr B ok (by omega)) J d g H i (by omega) P O (λr e=>by rw[f]at e;cases e);rw[f]at E;exact E.mono (λz K ⟨A,M,N,m⟩=>⟨A,M,N,h.still m⟩)
 ·obtain⟨I,B,rfl⟩:=h;have E:=Ew (Hv.rr B ok (by omega)) J d g H i (by omega) P O (λr e=>by rw[f]at e;cases e;exact Q.2.1);rw[f]at E;refine E.mono ?_;rintro z K⟨A,M,N,m⟩;have m:Ho base w r xq I S'.x width size (S.cnt:Int) K:=m;rw[<- Q.2.2]at m;exact⟨A,M,N,m.doc⟩
def S16.sync (S:S16):S16:={S with d:=S.d.sync,x:=S.x.sync,L:=S.L.sync,cnt:=S.ts.length}
theorem Ue.sync(h:Ue width j S):Ue width j S.sync:=by
 have f:(Zk S.ts).length=S.ts.length:=by simp[Zk]
 have g:=h.lg7.sync;rw[f]at g;have d:=h.tls;refine⟨g,⟨d.inc,d.recs,?_,d.can⟩,h.okL.sync,h.few,Gr.sync d,BE _,h.lit⟩;show S.L.sync.now=(told width S.ts).now;rw[<- d.now];show((S.L.ag.map _).map _)=(S.L.ag.map _);rw[List.map_map];rfl
theorem Ui.sync(h:Ui base w q p width size S F)(E:base<=w.heap.size):DJ Tryz.prog 23 #[.pointer (AF ⟨q,0,AI⟩)] w λz w'=>z=.returned (.int .i64 0)/\YS base w q p width size S.sync F w':=by obtain⟨g,m,lv,n,s,wv,L,J,B,rfl⟩:=h;refine(GJ B E).mono ?_;rintro z M⟨rfl,i,I,K,A,f,d,C,k,H⟩;exact⟨rfl,_,⟨g,m,i,I,K,A,f,d,C,rfl⟩,k,H⟩
theorem Hv.sync(h:Hv base w r xq width size S F)(ok:Ue width j S)(J:j<=450)(i:base<=w.heap.size)(I:ban.top<=w.heap.size):DJ Tryz.prog 70 #[.pointer (AF ⟨r,0,AI⟩)] w λz w'=>(∃v,z=.returned v)/\SB base w r xq width size S.sync F w':=by
 obtain⟨A,E,rfl⟩:=h;have d:=ok.lg7.good;have B:=d.len;have C:=d.sum;have m:=ok.many J;have g:(Qw S.ss).length=S.ts.length:=by rw[ok.lg7.recs];simp[Zk]
 have f:=Pv E i I (by omega) (by omega) d.map (d.segsOk (by omega)) (by omega);rw[g]at f;refine f.mono ?_;rintro z L⟨K,H,k⟩;exact⟨K,_,⟨A,H,rfl⟩,k.mono (λb _ e=>e.imp id .inl),λb i=>.inl i⟩
end
def Sm (q:Nat)(o:List Nat):Array AM:=(PY (AF ⟨q,0,AI⟩)::o.map (λn:Nat=>DA .u8 n)).toArray
structure Su (base:Nat)(w:AC)(R q:Nat)(o:List Nat):Prop where
 blk:w.heap[R]?=AF (.cells (Sm q o) 193 (0,0))
 len:o.length=16
 pb:base<=R
section
variable {base:Nat}{w w':AC}{R q:Nat}{o:List Nat}
theorem Su.keep(h:Su base w R q o)(k:Xy G w w')(d:¬G R):Su base w' R q o:=⟨k.heap h.blk d,h.len,h.pb⟩
theorem Su.no(h:Su base w R q o)(k:Xy No w w'):Su base w' R q o:=h.keep k id
theorem Su.led(h:Su base w R q o):w.cell? ⟨R,0,AI⟩=AF (.pointer (AF ⟨q,0,AI⟩)):=by rw[Qq h.blk 0];rfl
theorem Su.owes(h:Su base w R q o)(a:Nat)(d:a<16):∃n,o[a]?=AF n/\w.cell? ⟨R,1+a,AI⟩=AF (.int .u8 n):=by have f:=h.len;refine⟨o[a],BY (by omega),?_⟩;rw[Qq h.blk (1+a)];simp[Sm,BC 1 a];exact⟨_,BY (by omega),rfl⟩
theorem Su.set(h:Su base w R q o)(a n:Nat):Su base (w.setCell ⟨R,1+a,AI⟩ (.int .u8 n)) R q (o.set a n):=by have e:=Qz (i:=1+a) (u:=.int .u8 n) h.blk;refine⟨?_,by simp[h.len],h.pb⟩;rw[e];congr 2;simp[Sm,BC 1 a,List.map_set]
end
section
variable [bn:Ib]{base:Nat}{w w':AC}{R q p width j:Nat}{size:Int}{o:List Nat}{S S':S16}{F:Nat->Prop}
theorem Su.byLed(h:Su base w R q o)(f:Ui base w q p width size S F):¬F R:=by obtain⟨g,m,lv,n,s,wv,z,i,d,rfl⟩:=f;exact d.notCells h.blk (by simp)
end
theorem Ou(q:Nat)(d:base<=w.heap.size):DJ Tryz.prog 30 #[.pointer (AF ⟨q,0,AI⟩)] w λe w'=>e=.returned (.pointer (AF ⟨w.heap.size,0,AI⟩))/\Su base w' w.heap.size q (BT 16 0)/\Xy No w w':=by go_enter Tryz.func30,Tryz.ntmps30;go_wp2_with fail;go_ret;exact⟨rfl,⟨Qy _ _,rfl,d⟩,(Xy.refl _ _).alloc _⟩
theorem Ei{R q a n:Nat}(h:Su base w R q o)(f:a<16)(g:o[a]?=AF n):DJ Tryz.prog 33 #[.pointer (AF ⟨R,0,AI⟩),.int .i64 a] w λe w'=>e=.returned (.int .u8 n)/\w'=w:=by
 obtain⟨A,d,c⟩:=h.owes a f;rw[g]at d;simp only[Option.some.injEq]at d;subst d;have i:¬(a:Int)<0:=by omega
 have m:¬(16:Int)<=(a:Int):=by omega
 have z:(a:Int)<16:=by omega
 clear h g f;go_enter Tryz.func33,Tryz.ntmps33;go_wp2_with fail;go_ret;exact⟨rfl,rfl⟩
theorem Rl(h:Su base w R q o):DJ Tryz.prog 34 #[.pointer (AF ⟨R,0,AI⟩)] w λe w'=>e=.returned (.pointer (AF ⟨q,0,AI⟩))/\w'=w:=by have c:=h.led;clear h;go_enter Tryz.func34,Tryz.ntmps34;go_wp2_with fail;go_ret;exact⟨rfl,rfl⟩
section
variable [bn:Ib]{base:Nat}{w w':AC}{p n s width j k y:Nat}{wv yv:AM}{size:Int}{D d2:Qr}{X x2:Qn}{ss2:List Jh}{ts2:List Ji}{L2:Xs}
theorem Sr.led0(h:Sr base width size j D X 0 k ss2 ts2 d2 x2 L2)(H:Qo base w p n s wv D)(E:base<=w.heap.size)(C:ban.top<=w.heap.size) :
  DJ Tryz.prog 20 #[.pointer (AF ⟨p,0,AI⟩),.agg #[.int .u64 width,.int .i64 size]] w λz w'=>∃q F,z=.returned (.tuple #[.pointer (AF ⟨q,0,AI⟩),.int .i64 0])/\w.heap.size<=q/\Ui base w' q p width size ⟨ss2,ts2,d2.sync,x2.sync,L2.sync,k⟩ F/\Xy (foot p n s wv) w w'/\∀b,F b->foot p n s wv b\/w.heap.size<=b:=by
 refine(h.1 w p n s wv H E C).mono ?_;rintro z N⟨v,rfl,⟨_,q,g,m,rfl,K,lv,L,M,i,f,d,B,I,J⟩|⟨A,_⟩⟩
 ·exact⟨q,_,rfl,K,⟨g,m,lv,L,M,i,f,d,B,rfl⟩,I,J⟩
 ·exact absurd A (by decide)
theorem Sr.doc0(h:Sr base width size j D X 0 k ss2 ts2 d2 x2 L2)(B:Zs base w y yv X)(d:base<=w.heap.size)(A:ban.top<=w.heap.size) :
  DJ Tryz.prog 50 #[.pointer (AF ⟨y,0,AI⟩),.int .u64 width,.int .i64 size] w λz w'=>∃r G,z=.returned (.tuple #[.pointer (AF ⟨r,0,AI⟩),.int .i64 0])/\w.heap.size<=r/\Hv base w' r y width size ⟨ss2,ts2,d2.sync,x2.sync,L2.sync,k⟩ G/\Xy (·=y) w w'/\∀b,G b->b=y\/yv.ownBlock=AF b\/w.heap.size<=b:=by
 refine(h.2.1 w y yv B d A).mono ?_;rintro z H⟨v,rfl,C,⟨_,r,f,rfl,g,m,E⟩|⟨i,_⟩⟩
 ·refine⟨r,_,rfl,g,⟨f,m,rfl⟩,C,λb d=>?_⟩;rcases d with rfl|rfl|d
  ·exact .inr (.inr g)
  ·exact .inl rfl
  ·exact .inr (E b d)
 ·exact absurd i (by decide)
theorem Sr.ok0(h:Sr base width size j D X 0 k ss2 ts2 d2 x2 L2)(B:Ui base w q p width size ⟨ss2,ts2,d2.sync,x2.sync,L2.sync,k⟩ F):Ue width (j+1) ⟨ss2,ts2,d2.sync,x2.sync,L2.sync,k⟩:=by obtain⟨g,m,lv,I,J,H,E,C,d,_⟩:=B;obtain⟨f,i,z,A⟩:=h.2.2 rfl;exact⟨f,d.tl,d.ok,A,i,BE _,z⟩
end
def Se (q:Nat)(o:List Nat):Array AM:=(PY (AF ⟨q,0,AI⟩)::o.map (λn:Nat=>DA .i64 n)).toArray
structure Tj (base:Nat)(w:AC)(X r:Nat)(o:List Nat):Prop where
 blk:w.heap[X]?=AF (.cells (Se r o) 190 (0,0))
 len:o.length=16
 pb:base<=X
structure P17 [bn:Ib](base:Nat)(w:AC)(P R X q p r xq width:Nat)(size:Int)(S:S16)(o:List Nat)(F G:Nat->Prop):Prop where
 blk:w.heap[P]?=AF (.cells #[.pointer (AF ⟨R,0,AI⟩),.pointer (AF ⟨X,0,AI⟩),.int .u64 width,.int .i64 size] 81 (0,0))
 rcv:Su base w R q o
 rdv:Tj base w X r o
 led:Ui base w q p width size S F
 dcl:Hv base w r xq width size S G
 pb:base<=P
def KQ (P R X:Nat)(F G:Nat->Prop):Nat->Prop:=λb=>b=P\/b=R\/b=X\/F b\/G b
theorem Dc[bn:Ib](wd sg:Nat)(C:base<=w.heap.size)(hT:ban.top<=w.heap.size) :
  DJ Tryz.prog 29 #[.int .u16 wd,.int .u16 sg] w λe w'=>∃P R X q p r xq S F G,e=.returned (.pointer (AF ⟨P,0,AI⟩))/\P17 base w' P R X q p r xq (1+wd%30) (1+sg%300:Nat) S (BT 16 0) F G/\Ue (1+wd%30) 1 S/\(S.d.full=false/\S.d.room=60000/\msum S.d.now<=60)/\S.L=((Xs.start (1+wd%30)).step (.inc 1)).sync/\S.ts=[.inc 1]/\(∀b,KQ P R X F G b->w.heap.size<=b)/\Xy No w w':=by
 obtain⟨width,A⟩:∃n:Nat,n=1+wd%30:=⟨_,rfl⟩;obtain⟨size,N⟩:∃n:Nat,n=1+sg%300:=⟨_,rfl⟩;rw[<- A,<- N];have e1:1+(wd:Int)%30=(width:Int):=by omega
 have e2:1+(sg:Int)%300=(size:Int):=by omega
 have hw:1<=width/\width<=1024:=by omega
 have hz:(1:Int)<=(size:Int):=by omega
 obtain⟨ss2,d2,x2,aF,hf,hr,hm⟩:=TI (bn:=bn) base width (size:Int) 60000 (by decide) hw hz;have z:=BX (A6 C hT aF hf hr hm);clear C hT hw hz A N aF hf hr hm;go_enter Tryz.func29,Tryz.ntmps29;go_upto_region 2 with fail;obtain⟨Q,U⟩:∃Q,Q=w.alloc (.cells #[.int .u64 width,.int .i64 size] 35):=⟨_,rfl⟩;have W:Q.heap[w.heap.size]?=AF (.cells #[.int .u64 width,.int .i64 size] 35 (0,0)):=by rw[U];exact Qy _ _
 have k0:Xy No w Q:=by rw[U];exact(Xy.refl _ _).alloc _
 rw[<- U];clear U;have f:=Qq W 0;have g:=Qq W 1;simp at f g;have HA:=BX (A2 k0 W);clear W k0;have kd:Xy No Q Q.drew:=(Xy.refl _ _).drew;refine Vr (λw'=>Xy No Q w') [([1],[0,2]),([3,4,5],[6,7])] (by kernel_rfl) (by kernel_rfl) (λ_ _ _ _ _ h=>h) kd ?_;iterate 1(refine Qk (v:=?_) rfl rfl rfl ?_ ?_;rotate_left;focus(
  intro w' hS;have f0:=hS.cell f id;have f1:=hS.cell g id;go_simp
  try with_reducible rfl))
 refine Qj (Qx rfl rfl (λK E=>?_));go_simp;refine(Sl (w:=Q.drew) base 60000 (BF z.out.1 (BF HA.out.1.size kd.size))).mono ?_;rintro e w3⟨p,dn,ds,wv,rfl,hD,k3,I⟩;refine E _ _ (kd.then k3) ?_;clear E K;have aC:=HA.out.1.then (kd.then k3);refine Qx rfl rfl (λK E=>?_);go_simp;refine(z.out.2.2.1.led0 hD (BF z.out.1 aC.size) (BF z.out.2.1 aC.size)).mono ?_;rintro e w4⟨q,F,rfl,M,hL,k4,aG⟩;have i:Xy No Q w4:=(kd.then k3).trans k4 (λb C hf=>by have:=I b hf;have:=kd.size;omega);refine E _ _ i ?_;clear E K;refine Qh ?_;iterate 3(refine Qk (v:=?_) rfl rfl rfl ?_ ?_;rotate_left;focus(
  intro w' hS;go_simp
  try with_reducible rfl))
 refine Qj (Qx rfl rfl (λK E=>?_));go_simp;refine E _ _ i ?_;clear E K;refine Qx rfl rfl (λK E=>?_);go_simp;refine E _ _ i ?_;clear E K;refine Qh ?_;unfold Vp;have aD:∀b,F b->w.heap.size<=b:=λb C=>by
  have h1:=HA.out.1.size;have h2:=kd.size;have h3:=k3.size;rcases aG b C with h|h
  ·have:=I b h;omega
  ·omega
 have O:=HA.out.1.then i;have aL:w.heap.size<w4.heap.size:=Nat.lt_of_lt_of_le (Qt HA.out.2) i.size;have f:=i.cell f id;have g:=i.cell g id;obtain⟨W5,V⟩:∃W5,W5=w4.alloc (.cells #[.int .i64 60000,.bool false,.slice AI 0 0,.int .i64 0] 119):=⟨_,rfl⟩;have m:Xy No w4 W5:=by rw[V];exact(Xy.refl _ _).alloc _
 have aB:Zs base W5 w4.heap.size (.slice AI 0 0) {room:=60000,full:=false,l:=[],safe:=0}:=⟨by rw[V];exact Qy _ _,LAt.nil _ _,BF z.out.1 O.size⟩;have aH:=z.out.2.2.1.doc0 aB (BF z.out.1 (O.then m).size) (BF z.out.2.1 (O.then m).size);have f:=m.cell f id;have g:=m.cell g id;have aA:w4.heap.size<W5.heap.size:=by rw[V];simp
 have HB:=BX (A5 (hL.no m) (O.then m) aD aA aB);clear hL O m aD i k4 aC aG I hD k3 kd M aA aB;subst V;go_upto_region 4 with(go_at_call 50;refine aH.mono ?_;rintro e w6 ⟨r,G,rfl,Y,T,k6,J⟩);have M:¬w.heap.size=w4.heap.size:=by omega
 have f:=k6.cell f M;have g:=k6.cell g M;have B:Xy No w w6:=HB.out.2.1.trans k6 (λb C e=>by have e:b=w4.heap.size:=e;omega);have H:=(HB.out.1.cellsAt HB.out.2.2.2.2.blk (by simp) (by simp) (by simp) HB.out.2.2.2.2.qb k6).1;have aI:=Ou (base:=base) (w:=w6) q (BF z.out.1 B.size);have HC:=BX (A5 H B T Y J);clear T k6 Y H aH B J M;go_upto_region 5 with(go_at_call 30;refine aI.mono ?_;rintro e w7 ⟨rfl,Z,k7⟩);have f:=k7.cell f id;have g:=k7.cell g id;have HD:=BX (A2 Z k7);have aM:=λo=>((Xy.refl No w7).alloc o).cell f id;have aN:=λo=>((Xy.refl No w7).alloc o).cell g id;clear Z k7 aI;go_wp2_with fail;go_ret;obtain⟨H,B,T,Y,J⟩:=HC.out;obtain⟨Z,k7⟩:=HD.out;have aK:=(Xy.refl No w7).alloc (.cells (Se r (BT 16 0)) 190);have aJ:=(Xy.refl No (w7.alloc (.cells (Se r (BT 16 0)) 190))).alloc (.cells #[.pointer (AF ⟨w6.heap.size,0,AI⟩),.pointer (AF ⟨w7.heap.size,0,AI⟩),.int .u64 width,.int .i64 size] 81);have kz:=aK.then aJ;have hX:=aJ.heap (Qy w7 (.cells (Se r (BT 16 0)) 190)) id;have aE:=Qy (w7.alloc (.cells (Se r (BT 16 0)) 190)) (.cells #[.pointer (AF ⟨w6.heap.size,0,AI⟩),.pointer (AF ⟨w7.heap.size,0,AI⟩),.int .u64 width,.int .i64 size] 81);rw[FE]at aE;have hs:=HB.out.qd;simp only[FE]at Y J;have aP:=B.size;have aQ:=k7.size;have aO:=z.out.1;refine⟨_,w6.heap.size,w7.heap.size,q,p,r,w4.heap.size,_,F,G,rfl,⟨aE,Z.no kz,⟨hX,rfl,by omega⟩,(H.no k7).no kz,(T.no k7).no kz,by omega⟩,z.out.2.2.1.ok0 H,⟨z.out.qd,z.out.qe,z.out.rf⟩,rfl,rfl,λb C=>?_,(B.then k7).then kz⟩;rcases C with rfl|rfl|rfl|C|C
 ·omega
 ·omega
 ·omega
 ·exact HB.out.qc b C
 ·rcases J b C with h|h|h
  ·omega
  ·simp[Value.ownBlock]at h
  ·omega
theorem Tu(hi:d.toList[i]?=AF o)(g:AV o (AW d a.tmps)=false)(f:S w)(h:Ru P d Q S K r (a.put o.dst LW) w):Ru P d Q S K (i::r) a w:=by unfold Ru;refine⟨o,hi,?_⟩;rw[if_neg (by rw[g];simp)];exact⟨f,h⟩
structure Vy where
 kind:Nat
 agent:Int
 epoch:Nat
 inc:Nat
 base:Nat
 cum:Nat
 limit:Nat
 runs:List Xc
 items:List Qc
def Vy.cells (f:Vy)(d iv:AM):Array AM:=#[.int .u8 f.kind,.int .i64 f.agent,.int .u64 f.epoch,.int .u64 f.inc,.int .u64 f.base,.int .u64 f.cum,.int .u64 f.limit,d,iv]
def So [bn:Ib](base:Nat)(w:AC)(R q p width:Nat)(size:Int)(S:S16)(o:List Nat)(F:Nat->Prop)(w':AC):Prop :=
 ∃d,Ui base w' q p width size S d/\Su base w' R q o/\Xy (λb=>F b\/b=R) w w'/\∀b,d b->F b\/w.heap.size<=b
theorem YS.rcv[bn:Ib](h:YS base w q p width size S F w')(g:Ui base w q p width size S0 F)(d:Su base w R q o):So base w R q p width size S o F w':=by obtain⟨f,i,k,m⟩:=h;exact⟨f,i,d.keep k (d.byLed g),k.mono (λb _ e=>.inl e),m⟩
theorem So.then[bn:Ib](m:Xy (λb=>F b\/b=R) w w')(z:∀b,g b->F b\/w.heap.size<=b)(h:So base w' R q p width size S' A g d):So base w R q p width size S' A F d:=by
 obtain⟨B,C,E,H,f⟩:=h;refine⟨B,C,E,m.trans H (λb i e=>?_),λb i=>?_⟩
 ·rcases e with e|e
  ·exact(z b e).elim .inl (λe=>by omega)
  ·exact .inr e
 ·rcases f b i with e|e
  ·exact z b e
  ·exact .inr (BF m.size e)
def Tb (width j:Nat)(size:Int)(S:S16)(a e b:Nat)(ok:Bool)(S2:S16):Prop :=
 (e<S.L.floor a/\ok=false/\S2=S) \/
 (S.L.floor a<e/\(∃c,c≠0/\Sp size S a e c S2)/\ok=false) \/
 (ok=true/\∃S1 c d,((e=S.L.floor a/\S1=S)\/(S.L.floor a<e/\Sp size S a e 0 S1))/\Ue width (j+1) S1/\Tz size S1 a b [] c d S2)
section
variable [bn:Ib]{base:Nat}{w w':AC}{R q p width j:Nat}{size:Int}{o:List Nat}{S S':S16}{F:Nat->Prop}
theorem Ui.floorOf(h:Ui base w q p width size S F){a:Nat}(f:a<16):DJ Tryz.prog 39 #[.pointer (AF ⟨q,0,AI⟩),.int .i64 a] w λe w'=>e=.returned (.int .u64 (S.L.floor a))/\w'=w:=by obtain⟨g,m,lv,n,s,wv,B,A,d,_⟩:=h;obtain⟨x,z,_,_,i⟩:=d.ok.at f;rw[i];exact H0 d.led f z
theorem Ph(hl:Ui base w q p width size S F)(hr:Su base w R q o)(ok:Ue width j S)(hj:j+2<=450)(f:Vy)(rv iv:AM)(a:Nat)(af:f.agent=a)(ha:a<16)(hh:Tb width j size S a f.epoch f.base Z S')(M:base<=w.heap.size)(hT:ban.top<=w.heap.size) :
  DJ Tryz.prog 85 #[.pointer (AF ⟨R,0,AI⟩),.agg (f.cells rv iv)] w λz w'=>z=.returned (.bool Z)/\So base w R q p width size S' (if Z then o.set a 2 else o) F w':=by
 obtain⟨W,hW⟩:∃W,W=w.alloc (.cells #[.int .u8 f.kind,.int .i64 a,.int .u64 f.epoch,.int .u64 f.inc,.int .u64 f.base,.int .u64 f.cum,.int .u64 f.limit,rv,iv] 69):=⟨_,rfl⟩;have kW:Xy No w W:=by rw[hW];exact(Xy.refl _ _).alloc _
 have hA:W.heap[w.heap.size]?=AF (.cells #[.int .u8 f.kind,.int .i64 a,.int .u64 f.epoch,.int .u64 f.inc,.int .u64 f.base,.int .u64 f.cum,.int .u64 f.limit,rv,iv] 69 (0,0)):=by rw[hW];exact Qy _ _
 have U:=Qq hA 1;have c2:=Qq hA 2;have c4:=Qq hA 4;simp at U c2 c4;have r0:=(hr.no kW).led;have T:Xy No W W.drew:=(Xy.refl _ _).drew;have aQ:=((hl.no kW).no T).floorOf ha;obtain⟨fl,aH⟩:∃fl,fl=S.L.floor a:=⟨_,rfl⟩;rw[<- aH]at aQ;have ak:(a:Int)<16:=by omega
 have aV:=hr.byLed hl;have aW:¬F w.heap.size:=λe=>by have:=(hl.foot _ e).2.1;omega
 have ad:¬R=w.heap.size:=λe=>by have:=Qt hr.blk;omega
 have aB:¬w.heap.size=R:=λe=>ad e.symm;have d:=BX (A9 (hl.no kW) (hr.no kW) ok hj (BF M kW.size) (BF hT kW.size) kW aV aW);have HO:=BX hh;have aT:=BX (show w.heap.size<W.heap.size by rw[hW];simp);have HL:=BX aH;have aS:f.epoch<fl\/f.epoch=fl\/fl<f.epoch:=by omega
 clear hl hr ok hj M hT kW hA hh ha aV aW aH;unfold Vy.cells;rw[af];go_enter Tryz.func85,Tryz.ntmps85;go_upto_region 1 with fail;rw[<- hW];clear hW;refine Ql (λw'=>Xy No W w') [0,1,2,3,4,5] [6] [7] (by kernel_rfl) (by kernel_rfl) (λ_ _ _ _ _ h=>h) T ?_;iterate 6(refine Qk (v:=?_) rfl rfl rfl ?_ ?_;rotate_left;focus(
  intro w' i;have f0:=i.cell r0 id;have f1:=i.cell U id;go_simp
  try with_reducible rfl))
 refine Qj (Qx rfl rfl (λK A=>?_));go_simp;refine aQ.mono ?_;rintro e w1⟨rfl,e1⟩;subst e1;refine A _ _ T ?_;clear A K;refine Qh (Qu rfl (Qm ?_));go_upto_region 2 with fail;have r0:=T.cell r0 id;have U:=T.cell U id;have c2:=T.cell c2 id;have c4:=T.cell c4 id;have m:Xy No W.drew W.drew.drew:=(Xy.refl _ _).drew;have HK:=BX (T.then m);rcases aS with ah|ae|ag
 ·have q1:(f.epoch:Int)<(fl:Int):=by omega
  have Q:Z=false/\S'=S:=by
   rcases HO.out with⟨_,H,h2⟩|⟨H,_⟩|⟨_,S1,c,nl,H,_⟩
   ·exact⟨H,h2⟩
   ·have:=HL.out;omega
   ·have:=HL.out;rcases H with⟨H,_⟩|⟨H,_⟩<;>omega
  obtain⟨rfl,rfl⟩:=Q;clear ah;refine Vr (λw'=>Xy No W.drew w') [([0,1,2,3,4],[]),([5,6,7,8,9],[]),([10,11,12,13,14,15,16,17],[18]),([19,20],[21])] (by kernel_rfl) (by kernel_rfl) (λ_ _ _ _ _ h=>h) m ?_;iterate 5(refine Qe (v:=?_) rfl rfl (by first|kernel_rfl|simp[AV,AW,AQ,LW]) ?_ ?_;rotate_left;focus(
   intro w' i;have f0:=i.cell c2 id;go_simp
   try with_reducible rfl))
  refine Qj (Qh ?_);iterate 5(refine Sh rfl rfl (by first|kernel_rfl|simp[AV,AW,AQ,LW]) ?_)
  refine Qj (Qh ?_);iterate 8(refine Sh rfl rfl (by first|kernel_rfl|simp[AV,AW,AQ,LW]) ?_)
  refine Qj (Tu rfl (by first|kernel_rfl|simp[AV,AW,AQ,LW]) m (Qh ?_));iterate 2(refine Sh rfl rfl (by first|kernel_rfl|simp[AV,AW,AQ,LW]) ?_)
  refine Qj ?_;refine Qx rfl rfl (λK A=>?_);go_simp;refine A _ _ m ?_;clear A K;refine Qh ?_;unfold Vp;go_wp2_with fail;go_ret;have k:=d.out.2.2.2.2.2.2.1.then HK.out;exact⟨rfl,(Ui.still d.out.1 HK.out).rcv d.out.1 d.out.2.1 |> So.then d.out.2.2.2.2.2.2.1.no (λb M=>.inl M)⟩
 ·have q1:¬(f.epoch:Int)<(fl:Int):=by omega
  have q2:¬(fl:Int)<(f.epoch:Int):=by omega
  have Q:Z=true/\∃c nl,Tz size S a f.base [] c nl S':=by
   rcases HO.out with⟨H,_⟩|⟨H,_⟩|⟨h0,S1,c,nl,H,_,h3⟩
   ·have:=HL.out;omega
   ·have:=HL.out;omega
   ·rcases H with⟨_,rfl⟩|⟨H,_⟩
    ·exact⟨h0,c,nl,h3⟩
    ·have:=HL.out;omega
  obtain⟨rfl,c,nl,O⟩:=Q;clear ae;refine Vr (λw'=>Xy No W.drew w') [([0,1,2,3,4],[]),([5,6,7,8,9],[]),([10,11,12,13,14,15,16,17],[18]),([19,20],[21])] (by kernel_rfl) (by kernel_rfl) (λ_ _ _ _ _ h=>h) m ?_;iterate 5(refine Qe (v:=?_) rfl rfl (by first|kernel_rfl|simp[AV,AW,AQ,LW]) ?_ ?_;rotate_left;focus(
   intro w' i;have f0:=i.cell c2 id;go_simp
   try with_reducible rfl))
  refine Qj (Qh ?_);iterate 5(refine Qe (v:=?_) rfl rfl (by first|kernel_rfl|simp[AV,AW,AQ,LW]) ?_ ?_;rotate_left;focus(
   intro w' i;have f0:=i.cell c2 id;go_simp
   try with_reducible rfl))
  refine Qj (Qh ?_);iterate 8(refine Sh rfl rfl (by first|kernel_rfl|simp[AV,AW,AQ,LW]) ?_)
  refine Qj (Tu rfl (by first|kernel_rfl|simp[AV,AW,AQ,LW]) m (Qh ?_));iterate 1(refine Sh rfl rfl (by first|kernel_rfl|simp[AV,AW,AQ,LW]) ?_)
  iterate 1(refine Qe (v:=?_) rfl rfl (by first|kernel_rfl|simp[AV,AW,AQ,LW]) ?_ ?_;rotate_left;focus(
   intro w' i;go_simp
   try with_reducible rfl))
  refine Qj ?_;refine Qx rfl rfl (λK A=>?_);go_simp;refine A _ _ m ?_;clear A K;refine Qh ?_;unfold Vp;have HP:=BX O;clear O q1 q2 aQ;go_upto_region 4 with fail;have r0:=m.cell r0 id;have U:=m.cell U id;have c4:=m.cell c4 id;generalize W.drew.drew=C at *;have aI:=d.out.1.no HK.out;have B:=d.out.2.1.no HK.out;have aO:=d.out.2.2.1.mono (Nat.le_succ j);have aE:∀b,F b->F b\/W.heap.size<=b:=λb M=>.inl M;have aN:Xy (λb=>F b\/b=R) W C:=HK.out.no;obtain⟨on,ai,e0⟩:=B.owes a (by omega);have f0:=Qg B.blk (1+a);have kS:Xy (·=R) C (C.setCell ⟨R,1+a,AI⟩ (.int .u8 2)):=Qd _ _;have P:=B.set a 2;have N:=(aI.cellsAt B.blk (by simp) (by simp) (by simp) B.pb kS).1;have I:Xy No (C.setCell ⟨R,1+a,AI⟩ (.int .u8 2)) (C.setCell ⟨R,1+a,AI⟩ (.int .u8 2)).drew:=(Xy.refl _ _).drew;have kT:=kS.then I;have V:=P.no I;have aJ:=N.no I;have aP:=V.led;have aC:=kT.cell U aB;have aD:=kT.cell c4 aB;have J:Xy (λb=>F b\/b=R) W (C.setCell ⟨R,1+a,AI⟩ (.int .u8 2)).drew:=aN.trans kT (λb _ e=>.inr e);have aG:base<=(C.setCell ⟨R,1+a,AI⟩ (.int .u8 2)).drew.heap.size:=BF d.out.qe J.size;have aF:ban.top<=(C.setCell ⟨R,1+a,AI⟩ (.int .u8 2)).drew.heap.size:=BF d.out.qf J.size;have E:=BX (A7 V aJ J aG aF aE aO);clear B aI P N V aJ aN J aG aF aE aO I;refine Ql (λw'=>Xy (·=R) C w') [0,1,2,3,4,5] [6] [] (by kernel_rfl) (by kernel_rfl) (λ_ _ _ _ _ h=>h) ((Xy.refl No C).drew.no) ?_;iterate 6(refine Qk (v:=?_) rfl rfl rfl ?_ ?_;rotate_left;focus(
   intro w' i;have g1:=i.cell U aB;go_simp
   try with_reducible rfl))
  refine Qj (Qx rfl rfl (λK A=>?_));go_simp;refine A _ _ kT ?_;clear A K e0 f0 r0 U c4;refine Qh (Qm ?_);generalize (C.setCell ⟨R,1+a,AI⟩ (.int .u8 2)).drew=W4 at *;go_upto_region 5 with fail;have g:Xy No W4 W4.drew:=(Xy.refl _ _).drew;have aM:=(E.out.2.1.no g).put (B0:=base) (iv:=.slice AI 0 0) E.out.rg (by have:=d.out.qd;omega) HP.out (BF E.out.qd g.size) (BF E.out.qe g.size) ⟨[],rfl,λx hx=>by simp at hx,FI _ _ _ _⟩ (BW _) (λx hx=>by simp at hx);have nR:¬F R:=λe=>by
   rcases E.out.qf R e with h|h
   ·exact d.out.qh h
   ·have:=Qt d.out.2.1.blk;omega
  have nW:¬F w.heap.size:=λe=>by
   rcases E.out.qf _ e with h|h
   ·exact d.out.ri h
   ·have:=aT.out;omega
  refine Ql (λw'=>Xy F W4 w') [0,1,2,3,4,5,6,7] [8] [] (by kernel_rfl) (by kernel_rfl) (λ_ _ _ _ _ h=>h) g.no ?_;iterate 8(refine Qk (v:=?_) rfl rfl rfl ?_ ?_;rotate_left;focus(
   intro w' i;have g0:=i.cell aP nR;have g1:=i.cell aC nW;have g2:=i.cell aD nW;go_simp
   try with_reducible rfl))
  refine Qj (Qx rfl rfl (λK A=>?_));go_simp;refine aM.mono ?_;rintro e w6⟨tv,rfl,_,F6,aK,k6,aL⟩;refine A _ _ (g.no.trans k6 (λ_ _ e=>e)) ?_;clear A K;have Y:Xy F W4 w6:=g.no.trans k6 (λ_ _ e=>e);have HX:So base W R q p width size S' (o.set a 2) F w6:=So.then E.out.qc E.out.qf ⟨F6,aK,E.out.1.keep Y nR,Y.mono (λb _ e=>.inl e),λb M=>(aL b M).imp id (λe=>BF g.size e)⟩;have HX:=BX HX;clear aK k6 aL Y aP aC aD nR nW aM g kT kS;refine Qh (Qm ?_);show wpList _ _ _ [] _ _;go_wp2_with fail;go_ret;exact⟨rfl,So.then d.out.2.2.2.2.2.2.1.no (λb M=>.inl M) HX.out⟩
 ·have q1:¬(f.epoch:Int)<(fl:Int):=by omega
  have q2:(fl:Int)<(f.epoch:Int):=by omega
  have Q:∃(c:Int) (S1:S16),Sp size S a f.epoch c S1/\((c≠0/\Z=false/\S'=S1)\/(c=0/\Z=true/\Ue width (j+1) S1/\∃c nl,Tz size S1 a f.base [] c nl S')):=by
   rcases HO.out with⟨H,_⟩|⟨_,⟨c,H,h2⟩,h3⟩|⟨h0,S1,c,nl,H,h2,h3⟩
   ·have:=HL.out;omega
   ·exact⟨c,S',h2,.inl ⟨H,h3,rfl⟩⟩
   ·rcases H with⟨H,_⟩|⟨_,H⟩
    ·have:=HL.out;omega
    ·exact⟨0,S1,H,.inr ⟨rfl,h0,h2,c,nl,h3⟩⟩
  obtain⟨c,S1,aZ,aX⟩:=Q;have aA:=(d.out.1.no HK.out).raise d.out.qc (by have:=d.out.qd;omega) aZ (BF d.out.qe HK.out.size) (BF d.out.qf HK.out.size);have HC:=BX aX;clear ag aZ aX;refine Vr (λw'=>Xy F W.drew w') [([0,1,2,3,4],[]),([5,6,7,8,9],[]),([10,11,12,13,14,15,16,17],[18]),([19,20],[21])] (by kernel_rfl) (by kernel_rfl) (λ_ _ _ _ _ h=>h) m.no ?_;iterate 5(refine Qe (v:=?_) rfl rfl (by first|kernel_rfl|simp[AV,AW,AQ,LW]) ?_ ?_;rotate_left;focus(
   intro w' i;have f0:=i.cell c2 (λe=>d.out.ri e);go_simp
   try with_reducible rfl))
  refine Qj (Qh ?_);iterate 5(refine Qe (v:=?_) rfl rfl (by first|kernel_rfl|simp[AV,AW,AQ,LW]) ?_ ?_;rotate_left;focus(
   intro w' i;have f0:=i.cell c2 (λe=>d.out.ri e);go_simp
   try with_reducible rfl))
  refine Qj (Qh ?_);iterate 8(refine Qe (v:=?_) rfl rfl (by first|kernel_rfl|simp[AV,AW,AQ,LW]) ?_ ?_;rotate_left;focus(
   intro w' i;have f0:=i.cell r0 (λe=>d.out.qh e);have f1:=i.cell U (λe=>d.out.ri e);have f2:=i.cell c2 (λe=>d.out.ri e);go_simp
   try with_reducible rfl))
  refine Qj ?_;refine Za rfl (by first|kernel_rfl|simp[AV,AW,AQ,LW]) (λK A=>?_);go_simp;refine aA.mono ?_;rintro e w3⟨rfl,F3,N,k3,aY⟩;refine A _ _ (m.no.trans k3 (λ_ _ e=>e)) ?_;clear A K;refine Qh ?_;have aU:=BX (m.no.trans k3 (λ_ _ e=>e):Xy F W.drew w3);have P:=d.out.2.1.no HK.out |>.keep k3 d.out.qh;have ab:Xy (λb=>F b\/b=R) W w3:=HK.out.no.trans (k3.mono (λb _ e=>(Or.inl e:F b\/b=R))) (λ_ _ e=>e);have aR:∀b,F3 b->F b\/W.heap.size<=b:=λb M=>(aY b M).imp id (λe=>BF HK.out.size e);have U:=(m.no.trans k3 (λ_ _ e=>e):Xy F W.drew w3).cell U (λe=>d.out.ri e);have c4:=(m.no.trans k3 (λ_ _ e=>e):Xy F W.drew w3).cell c4 (λe=>d.out.ri e);have H3:=BX (A4 N P ab aR);clear N P ab aY aR k3 aA aQ;rcases HC.out with⟨hc,rfl,rfl⟩|⟨rfl,rfl,ac,c',nl,O⟩
  ·have al:(c==0)=false:=by simp[hc]
   have aj:(c != 0)=true:=by simp[hc]
   iterate 2(refine Qe (v:=?_) rfl rfl (by first|kernel_rfl|simp[AV,AW,AQ,LW]) ?_ ?_;rotate_left;focus(
    intro w' i;go_simp
    try with_reducible rfl))
   refine Qj ?_;refine Qx rfl rfl (λK A=>?_);go_simp;refine A _ _ aU.out ?_;clear A K;refine Qh ?_;unfold Vp;go_wp2_with fail;go_ret;exact⟨rfl,So.then d.out.2.2.2.2.2.2.1.no (λb M=>.inl M) ⟨F3,H3.out.1,H3.out.2.1,H3.out.qc,H3.out.2.2.2⟩⟩
  ·skip
   iterate 2(refine Qe (v:=?_) rfl rfl (by first|kernel_rfl|simp[AV,AW,AQ,LW]) ?_ ?_;rotate_left;focus(
    intro w' i;go_simp
    try with_reducible rfl))
   refine Qj ?_;refine Qx rfl rfl (λK A=>?_);go_simp;refine A _ _ aU.out ?_;clear A K;refine Qh ?_;unfold Vp;have HP:=BX O;clear O q1 q2;go_upto_region 4 with fail;obtain⟨aI,B,aN,aE⟩:=H3.out;have r0:=B.led;have aO:=ac;clear ac;generalize w3=C at *;obtain⟨on,ai,e0⟩:=B.owes a (by omega);have f0:=Qg B.blk (1+a);have kS:Xy (·=R) C (C.setCell ⟨R,1+a,AI⟩ (.int .u8 2)):=Qd _ _;have P:=B.set a 2;have N:=(aI.cellsAt B.blk (by simp) (by simp) (by simp) B.pb kS).1;have I:Xy No (C.setCell ⟨R,1+a,AI⟩ (.int .u8 2)) (C.setCell ⟨R,1+a,AI⟩ (.int .u8 2)).drew:=(Xy.refl _ _).drew;have kT:=kS.then I;have V:=P.no I;have aJ:=N.no I;have aP:=V.led;have aC:=kT.cell U aB;have aD:=kT.cell c4 aB;have J:Xy (λb=>F b\/b=R) W (C.setCell ⟨R,1+a,AI⟩ (.int .u8 2)).drew:=aN.trans kT (λb _ e=>.inr e);have aG:base<=(C.setCell ⟨R,1+a,AI⟩ (.int .u8 2)).drew.heap.size:=BF d.out.qe J.size;have aF:ban.top<=(C.setCell ⟨R,1+a,AI⟩ (.int .u8 2)).drew.heap.size:=BF d.out.qf J.size;have E:=BX (A7 V aJ J aG aF aE aO);clear B aI P N V aJ aN J aG aF aE aO I;refine Ql (λw'=>Xy (·=R) C w') [0,1,2,3,4,5] [6] [] (by kernel_rfl) (by kernel_rfl) (λ_ _ _ _ _ h=>h) ((Xy.refl No C).drew.no) ?_;iterate 6(refine Qk (v:=?_) rfl rfl rfl ?_ ?_;rotate_left;focus(
    intro w' i;have g1:=i.cell U aB;go_simp
    try with_reducible rfl))
   refine Qj (Qx rfl rfl (λK A=>?_));go_simp;refine A _ _ kT ?_;clear A K e0 f0 r0 U c4;refine Qh (Qm ?_);generalize (C.setCell ⟨R,1+a,AI⟩ (.int .u8 2)).drew=W4 at *;go_upto_region 5 with fail;have g:Xy No W4 W4.drew:=(Xy.refl _ _).drew;have aM:=(E.out.2.1.no g).put (B0:=base) (iv:=.slice AI 0 0) E.out.rg (by have:=d.out.qd;omega) HP.out (BF E.out.qd g.size) (BF E.out.qe g.size) ⟨[],rfl,λx hx=>by simp at hx,FI _ _ _ _⟩ (BW _) (λx hx=>by simp at hx);have nR:¬F3 R:=λe=>by
    rcases E.out.qf R e with h|h
    ·exact d.out.qh h
    ·have:=Qt d.out.2.1.blk;omega
   have nW:¬F3 w.heap.size:=λe=>by
    rcases E.out.qf _ e with h|h
    ·exact d.out.ri h
    ·have:=aT.out;omega
   refine Ql (λw'=>Xy F3 W4 w') [0,1,2,3,4,5,6,7] [8] [] (by kernel_rfl) (by kernel_rfl) (λ_ _ _ _ _ h=>h) g.no ?_;iterate 8(refine Qk (v:=?_) rfl rfl rfl ?_ ?_;rotate_left;focus(
    intro w' i;have g0:=i.cell aP nR;have g1:=i.cell aC nW;have g2:=i.cell aD nW;go_simp
    try with_reducible rfl))
   refine Qj (Qx rfl rfl (λK A=>?_));go_simp;refine aM.mono ?_;rintro e w6⟨tv,rfl,_,F6,aK,k6,aL⟩;refine A _ _ (g.no.trans k6 (λ_ _ e=>e)) ?_;clear A K;have Y:Xy F3 W4 w6:=g.no.trans k6 (λ_ _ e=>e);have HX:So base W R q p width size S' (o.set a 2) F w6:=So.then E.out.qc E.out.qf ⟨F6,aK,E.out.1.keep Y nR,Y.mono (λb _ e=>.inl e),λb M=>(aL b M).imp id (λe=>BF g.size e)⟩;have HX:=BX HX;clear aK k6 aL Y aP aC aD nR nW aM g kT kS;refine Qh (Qm ?_);show wpList _ _ _ [] _ _;go_wp2_with fail;go_ret;exact⟨rfl,So.then d.out.2.2.2.2.2.2.1.no (λb M=>.inl M) HX.out⟩
end
end Go.Proofs.YtfdmbomlkpkegaaGreat
