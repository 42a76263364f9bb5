/- Lemmas. -/
import Derived.Test.YtfdmbomlkpkegaaGreatS40
import Derived.Test.YtfdmbomlkpkegaaGreatS39
set_option maxRecDepth 100000
set_option maxHeartbeats 8000000
set_option linter.all false
set_option autoImplicit true
set_option relaxedAutoImplicit true
open Go renaming Calls->DJ,Value->AM,World->AC,wpList->AX
open Go.Act renaming put->AQ
open Go.Lib renaming hid->BX
open Go.Region renaming wanted->AV
open Go.RowKit renaming intOf->C0
open Go.Value renaming slice->DN
open Go.Value.slice renaming injEq->DB
open List renaming getElem?_eq_getElem->BY,getElem?_eq_some_iff->BK,getElem?_map->CK,length_map->D6,length_take->E9,mem_map->CP,mem_of_getElem?->FB,mem_of_mem_take->WJ,replicate->BT
open Nat renaming le_refl->BE,le_trans->BF,zero_le->BW
open Option renaming none->AI,some->AF
namespace Go.Proofs.YtfdmbomlkpkegaaGreat
open Go Go.RowKit Go.Dr Go.Shelf
def Tk (w:AC)(B:Nat)(v:AM)(l:List Vy):Prop :=
 ∃xs:List (Vy×AM),xs.map (·.1)=l/\(∀x∈xs,Gq w B x.2 x.1.runs)/\w.ownsRow B 106 9 v l.length (xs.flatMap λx=>(x.1.dcells x.2 (.slice AI 0 0)).toList)
theorem Tk.nil(w:AC)(B:Nat):Tk w B (.slice AI 0 0) []:=⟨[],rfl,λx d=>by simp at d,World.ownsRow_nil _ _ _ _⟩
theorem Tk.form(h:Tk w B v l):∃ao cap,v=.slice ao l.length cap/\l.length<=cap/\cap<=maxLen:=by obtain⟨xs,_,_,d⟩:=h;exact Kj d
theorem Tk.kind(h:Tk w B v l):∀b,v.ownBlock=AF b->B<=b/\∃d,w.heap[b]?=AF (.cells d 106 (0,0)):=by obtain⟨xs,_,_,f⟩:=h;exact Qa f
theorem Tk.keep(h:Tk w B v l)(k:Xy F w w')(hF:∀b d,F b->w.heap[b]?≠AF (.cells d 204 (0,0)))(A:∀b,v.ownBlock=AF b->¬F b):Tk w' B v l:=by
 obtain⟨xs,i,f,m⟩:=h;exact⟨xs,i,λx g=>(f x g).keep k (λb n z=>by
  obtain⟨_,d,C⟩:=(f x g).kind b n
  exact hF b d z C),Yu m k A⟩
theorem Tk.no(h:Tk w B v l)(k:Xy No w w'):Tk w' B v l:=h.keep k (λ_ _ e=>e.elim) (λ_ _ e=>e)
theorem TT:(Tryz.prog.info? 3).map (λi=>(i.zero,i.size,i.bytes))=AF (AF (.int .i64 0),1,8):=by kernel_rfl
theorem NI:(Tryz.prog.info? 106).map (λi=>(i.zero,i.size,i.bytes))=AF (AF (.agg #[.int .i64 0,.int .i64 0,.int .u64 0,.int .u64 0,.int .u64 0,.int .u64 0,.int .u64 0,.slice AI 0 0,.slice AI 0 0]),9,104):=by kernel_rfl
theorem Wi(hg:o.guard=AI)(s x:Operand)(ho:o.op=.call {callee:=.builtin .append,args:=#[s,x],argTypes:=#[199,199]})(h:Tk w B v l)(hs:a.eval s=v)(hD:w.heap[D]?=AF (.cells (y.dcells u (.slice AI 0 0)) 106 (0,0)))(hx:a.eval x=.slice (AF ⟨D,0,AI⟩) 1 1)(O:Gq w B u y.runs)(hl:l.length<=1000)(z:B<=w.heap.size)(hK:∀U T w',Tk w' B (.slice U (l.length+1) T) (l++[y])->Xy (λb=>v.ownBlock=AF b) w w'->AX Tryz.prog n Q rest (a.put o.dst (.slice U (l.length+1) T)) w'):AX Tryz.prog n Q (o::rest) a w:=by
 have W:=h;obtain⟨xs,Y,Z,h4⟩:=h;obtain⟨i0,E,I,J,f⟩:=info_parts NI;obtain⟨uo,uc,H,_,_⟩:=O.form;refine wpList_plain hg λK A=>?_;refine wp_append_lies w s x 199 ho B 106 i0 _ 9 104 Tryz.underlying199 E I J f rfl (by decide) v l.length _ hs h4
  ⟨D,0,AI⟩ 1 1 (y.dcells u (.slice AI 0 0)).toList hx (by simp[Vy.dcells]) (World.news_of_block hD) (λq d=>by
   rw[H]at d;simp[Vy.dcells]at d
   rcases d with rfl|rfl|rfl|rfl|rfl|rfl|rfl|rfl|rfl<;>rfl) (by omega) (by unfold maxLen;omega) (by omega) z w.heap.size rfl ?_
 intro g cap w' i C aA aB;have k:=Jr C;have hF:∀(M:AM) (L:List Xc),Gq w B M L->Gq w' B M L:=λM L m=>m.keep k (λb hb e=>by
  obtain⟨_,V,hz⟩:=W.kind b e;obtain⟨_,N,f⟩:=m.kind b hb;rw[hz]at f
  simp at f)
 refine A _ _ (hK _ _ _ ⟨xs++[(y,u)],by simp[Y],λq d=>?_,?_⟩ k)
 ·rcases List.mem_append.1 d with d|d
  ·exact hF _ _ (Z q d)
  ·rw[List.mem_singleton.1 d];exact hF _ _ O
 ·rw[List.flatMap_append,List.length_append];simpa using i
theorem Gq.front(h:Gq w B (.slice ao n cap) l)(M:m<=l.length):Gq w B (.slice ao m cap) (l.take m):=by
 have i:(l.take m).length=m:=by rw[E9];omega
 have C:Yd l=Yd (l.take m)++Yd (l.drop m):=by rw[<- Nm,List.take_append_drop]
 have A:(Yd (l.take m)).length=m*2:=by rw[Tv,i]
 have K:Yd (l.take m)=(Yd l).take (m*2):=by rw[C,<- A,List.take_left]
 refine⟨by rw[Tv],?_⟩;rcases h.2 with⟨e,D⟩|⟨g,d,f,e,J,L,N,E,H,I⟩
 ·simp only[DB]at e;have k:=List.eq_nil_of_length_eq_zero D;subst k;have z:m=0:=by simpa using M
  subst z;exact .inl ⟨by rw[e.1,e.2.2],rfl⟩
 ·simp only[DB]at e;refine .inr ⟨g,d,f,by rw[e.1,e.2.2,i],J,L,by omega,E,H,?_⟩;rw[K,<- I,List.take_take,i,Nat.min_eq_left (by omega)]
def Tg (l:List Nat):List Xc:=l.map λn=>(n,n)
theorem XQ(l:List Nat)(n:Nat):Ux (Tg l) n↔n∈l:=by
 unfold Ux Tg;constructor
 ·rintro⟨r,g,d,f⟩;obtain⟨x,i,rfl⟩:=CP.1 g;have:x=n:=by have d:x<=n:=d;have f:n<=x:=f;omega
  rw[<- this];exact i
 ·exact λh=>⟨(n,n),CP.2 ⟨n,h,rfl⟩,BE _,BE _⟩
section
variable [bn:Ib]{base:Nat}{w w' w'':AC}{X r xq width j:Nat}{size:Int}{o:List Nat}{S S':S16}{G G':Nat->Prop}
def Tt (w:AC)(X:Nat):AC:=(((((((((((((((w.setCell ⟨X,1,AI⟩ (.int .i64 0)).setCell ⟨X,2,AI⟩ (.int .i64 0)).setCell ⟨X,3,AI⟩ (.int .i64 0)).setCell ⟨X,4,AI⟩ (.int .i64 0)).setCell ⟨X,5,AI⟩ (.int .i64 0)).setCell ⟨X,6,AI⟩ (.int .i64 0)).setCell ⟨X,7,AI⟩ (.int .i64 0)).setCell ⟨X,8,AI⟩ (.int .i64 0)).setCell ⟨X,9,AI⟩ (.int .i64 0)).setCell ⟨X,10,AI⟩ (.int .i64 0)).setCell ⟨X,11,AI⟩ (.int .i64 0)).setCell ⟨X,12,AI⟩ (.int .i64 0)).setCell ⟨X,13,AI⟩ (.int .i64 0)).setCell ⟨X,14,AI⟩ (.int .i64 0)).setCell ⟨X,15,AI⟩ (.int .i64 0)).setCell ⟨X,16,AI⟩ (.int .i64 0)
theorem QM(d:Tj base w X r o):Tj base (Tt w X) X r (BT 16 0):=by have h:=(((((((((((((((d.set 0 0).set 1 0).set 2 0).set 3 0).set 4 0).set 5 0).set 6 0).set 7 0).set 8 0).set 9 0).set 10 0).set 11 0).set 12 0).set 13 0).set 14 0).set 15 0;have f:=d.len;obtain⟨A,n1,B,C,D,E,H,I,J,K,g,i,k,m,n,z,rfl⟩:=XG f;exact h
omit bn in
theorem Iy(w:AC)(X:Nat):Xy (·=X) w (Tt w X):=by unfold Tt;exact Xy.setCell (F:=(·=X)) (Xy.setCell (F:=(·=X)) (Xy.setCell (F:=(·=X)) (Xy.setCell (F:=(·=X)) (Xy.setCell (F:=(·=X)) (Xy.setCell (F:=(·=X)) (Xy.setCell (F:=(·=X)) (Xy.setCell (F:=(·=X)) (Xy.setCell (F:=(·=X)) (Xy.setCell (F:=(·=X)) (Xy.setCell (F:=(·=X)) (Xy.setCell (F:=(·=X)) (Xy.setCell (F:=(·=X)) (Xy.setCell (F:=(·=X)) (Xy.setCell (F:=(·=X)) (Xy.setCell (F:=(·=X)) (Xy.refl _ w) (p:=⟨X,1,AI⟩) (.inl rfl) _) (p:=⟨X,2,AI⟩) (.inl rfl) _) (p:=⟨X,3,AI⟩) (.inl rfl) _) (p:=⟨X,4,AI⟩) (.inl rfl) _) (p:=⟨X,5,AI⟩) (.inl rfl) _) (p:=⟨X,6,AI⟩) (.inl rfl) _) (p:=⟨X,7,AI⟩) (.inl rfl) _) (p:=⟨X,8,AI⟩) (.inl rfl) _) (p:=⟨X,9,AI⟩) (.inl rfl) _) (p:=⟨X,10,AI⟩) (.inl rfl) _) (p:=⟨X,11,AI⟩) (.inl rfl) _) (p:=⟨X,12,AI⟩) (.inl rfl) _) (p:=⟨X,13,AI⟩) (.inl rfl) _) (p:=⟨X,14,AI⟩) (.inl rfl) _) (p:=⟨X,15,AI⟩) (.inl rfl) _) (p:=⟨X,16,AI⟩) (.inl rfl) _
theorem XL(A:Tj base w X r (BT 16 0)):DJ Tryz.prog 89 #[.pointer (AF ⟨X,0,AI⟩)] w λz w'=>z=.returned (.slice AI 0 0)/\w'=w:=by
 have c:=λi=>Qq A.blk i;have B:=c 1;have C:=c 2;have D:=c 3;have E:=c 4;have H:=c 5;have I:=c 6;have J:=c 7;have K:=c 8;have L:=c 9;have d:=c 10;have f:=c 11;have g:=c 12;have h:=c 13;have k:=c 14;have m:=c 15;have n:=c 16;simp[Se]at B C D E H I J K L d f g h k m n;have M:=λ(w:AC)=>show(Op.equalIn 10000 188 (.agg #[.int .i64 0,.int .i64 0,.int .i64 0,.int .i64 0,.int .i64 0,.int .i64 0,.int .i64 0,.int .i64 0,.int .i64 0,.int .i64 0,.int .i64 0,.int .i64 0,.int .i64 0,.int .i64 0,.int .i64 0,.int .i64 0]) (.agg #[.int .i64 0,.int .i64 0,.int .i64 0,.int .i64 0,.int .i64 0,.int .i64 0,.int .i64 0,.int .i64 0,.int .i64 0,.int .i64 0,.int .i64 0,.int .i64 0,.int .i64 0,.int .i64 0,.int .i64 0,.int .i64 0])).run Tryz.prog w=.ok true w by kernel_rfl
 clear c A;go_enter Tryz.func89,Tryz.ntmps89;go_wp2_with fail;go_ret;exact⟨rfl,rfl⟩
theorem NH{L:Xs}(f:ZP base w cs L.sync)(ok:L.Ok width)(H:a<16) :
  (L.win a).Ok/\cs[0]?=AF (.int .u64 L.inc)/\cs[1+a]?=AF (.int .u64 (L.floor a))/\cs[17+a*3]?=AF (.int .u64 (L.win a).low)/\cs[17+a*3+1]?=AF (.int .u64 (L.win a).width) /\
   ∃v ns,cs[17+a*3+2]?=AF v/\Uo w 0 v ns/\ns.length<=L.recs.length/\∀n,n∈ns↔Ux (L.win a).set n:=by
 obtain⟨g,I,i,k,h⟩:=ok.at H;have d:L.sync.now[a]?=AF (g.floor,g.now):=by unfold Xs.now Xs.sync;rw[CK,CK,I];rfl
 obtain⟨m,z,A,v,B,ns,C,D,E⟩:=f.ags a _ d;rw[k,h];exact⟨i.now,f.inc,m,z,A,v,ns,B,C,D,E⟩
def U8 (d wr:AC)(L:Xs)(o:List Nat)(a:Nat)(v:AM):Prop:=Tk wr d.heap.size v (Sw L o a)/\Xy No d wr
theorem Tk.mono(h:Tk w B v l)(i:B'<=B):Tk w B' v l:=by obtain⟨xs,k,m,f⟩:=h;exact⟨xs,k,λx n=>(m x n).mono i,f.1,f.2.imp id (λ⟨g,cap,d,e,y,z⟩=>⟨g,cap,d,e,BF i y,z⟩)⟩
theorem JF(hd:Hv base w r xq width size S G)(hr:Tj base w X r o)(bI:o≠BT 16 0)(ok:Ue width j S)(hj:j<=450)(Z:base<=w.heap.size)(hT:ban.top<=w.heap.size) :
  DJ Tryz.prog 89 #[.pointer (AF ⟨X,0,AI⟩)] w λz w'=>∃v,z=.returned v/\Tk w' w.heap.size v (Sw S.L o 16)/\Dx base w X r xq width size S.sync (BT 16 0) G w':=by
 obtain⟨i0,bB,_⟩:=info_parts TT;obtain⟨rq,W,bK⟩:=GS (t:=188) w Tryz.underlying3 (by kernel_rfl) Tryz.underlying188 bB hr.len;obtain rfl:rq=false:=Bool.eq_false_iff.2 (λh=>bI (bK.1 h));have aY:=hr.len;have bM:=hr;obtain⟨o1,aA⟩:∃o1,o1=o:=⟨_,rfl⟩;rw[<- aA];have HO:=BX (A2 bM aA);clear bM aA;obtain⟨n0,n1,n2,n3,n4,n5,n6,n7,n8,n9,bl,bm,bo,bp,bq,br,rfl⟩:=XG aY;have W:(Op.equalIn 10000 188 (.agg #[.int .i64 (n0:Nat),.int .i64 (n1:Nat),.int .i64 (n2:Nat),.int .i64 (n3:Nat),.int .i64 (n4:Nat),.int .i64 (n5:Nat),.int .i64 (n6:Nat),.int .i64 (n7:Nat),.int .i64 (n8:Nat),.int .i64 (n9:Nat),.int .i64 (bl:Nat),.int .i64 (bm:Nat),.int .i64 (bo:Nat),.int .i64 (bp:Nat),.int .i64 (bq:Nat),.int .i64 (br:Nat)]) (.agg #[.int .i64 0,.int .i64 0,.int .i64 0,.int .i64 0,.int .i64 0,.int .i64 0,.int .i64 0,.int .i64 0,.int .i64 0,.int .i64 0,.int .i64 0,.int .i64 0,.int .i64 0,.int .i64 0,.int .i64 0,.int .i64 0])).run Tryz.prog w=.ok false w:=W;have c:=λi=>Qq hr.blk i;have c0:=c 0;have c1:=c 1;have c2:=c 2;have c3:=c 3;have c4:=c 4;have c5:=c 5;have c6:=c 6;have c7:=c 7;have c8:=c 8;have c9:=c 9;have ao:=c 10;have ap:=c 11;have aq:=c 12;have ar:=c 13;have au:=c 14;have av:=c 15;have aw:=c 16;simp[Se]at c0 c1 c2 c3 c4 c5 c6 c7 c8 c9 ao ap aq ar au av aw;have bP:=hd.sync ok hj Z hT;have ay:=hr.byDoc hd;have HH:=BX (A6 hd ok hj Z hT ay);clear c hd hr Z hT ok hj bK bI bB aY ay;go_enter Tryz.func89,Tryz.ntmps89;go_upto_region 4 with fail;clear W c1 c2 c3 c4 c5 c6 c7 c8 c9 ao ap aq ar au av aw;go_upto_region 5 with(go_at_call 70;refine bP.mono ?_;rintro e w1 ⟨⟨sv,rfl⟩,G1,ad,k1,aA⟩);have c0:=k1.cell c0 HH.out.rf;have aK:=ad.told HH.out.2.1.sync HH.out.qc (BF HH.out.qd k1.size) (BF HH.out.qe k1.size);have bN:=HO.out.1.keep k1 HH.out.rf;have H1:=BX (A4 ad k1 aA bN);clear ad k1 aA bN bP;go_upto_region 6 with(first
  | (go_at_call 74;refine aK.mono ?_;rintro e w2 ⟨cs,rfl,aI,k2⟩;have I:=aI.size;have ab:=aI.all;have aX:=aI.info;have HS:=BX aI;clear aI)
  | (refine wpList_store_row rfl 168 _ _ rfl w2.heap.size cs rfl rfl 168 Tryz.zeroCells168 (Qy _ _) aX (by rw[I];rfl) ab ?_))
 have bR:=setRow_heap _ w2.heap.size _ cs _ _ (Qy w2 (.cells Tryz.zeroCells168 168));have k3:Xy No w2 ((w2.alloc (.cells Tryz.zeroCells168 168)).setRow w2.heap.size cs):=((Xy.refl No w2).alloc _).trans (Zi _ w2.heap.size cs) (λc hc e=>by have e:c=w2.heap.size:=e;omega);generalize (w2.alloc (.cells Tryz.zeroCells168 168)).setRow w2.heap.size cs=W3 at *;have ac:ZP base W3 cs S.sync.L:=Hj.no HS.out k3;have H3:=BX (A4 bR ac (k2.then k3) (H1.out.2.2.2.no (k2.then k3)));clear bR ac k3 k2 aX ab I aK c0;generalize w2.heap.size=sb at *;go_upto_block 0 with fail;go_cut [3] (λv3 O=>U8 W3 O S.L o1 16 v3);case first =>
  go_wp2_with fail;go_loopw [3,6] (λv3 v6 wr=>∃a:Nat,v6=.int .i64 a/\a<=16/\U8 W3 wr S.L o1 a v3) (λ_ v6 _=>16-(C0 v6).toNat);case atStart=>exact⟨0,rfl,by decide,Tk.nil _ _,Xy.refl _ _⟩
  case round =>
   obtain⟨a,rfl,ha,hI⟩:=hrel;by_cases f:a<16
   ·have bg:(a:Int)<16:=by omega
    obtain⟨B,kr⟩:=hI;have aS:=H3.out.2.2.2.no kr;obtain⟨n,aQ,e0⟩:=aS.owes a f;rw[HO.out.2.symm]at aQ;have aP:o1.getD a 0=n:=by rw[List.getD_eq_getElem?_getD,aQ];rfl
    have V:=Lt S.L o1 a;rw[aP]at V;have bu:IntKind.i64.wrap ((a:Int)+1)=((a+1:Nat):Int):=by rw[IntKind.wrap_i64];omega
    have r0:=aS.led;by_cases M:n=0
    ·subst M;rw[if_pos rfl,List.append_nil]at V;have d:=BX (A4 B kr f V);clear B kr f V aQ aP aS;go_wp2_with fail;go_roundw;case rel=>exact⟨a+1,by go_num,d.out.qc,by unfold U8;rw[d.out.2.2.2];exact⟨d.out.1,d.out.2.1⟩⟩
     case measure=>have:=d.out.qc;simp[C0];omega
    ·have bj:((n:Int)==0)=false:=by simp;omega
     have bJ:¬(n:Int)=0:=by omega
     rw[if_neg M]at V;obtain⟨vo,vc,rfl,_,_⟩:=B.form;obtain⟨J,q0,q1,q2,q3,dv,nums,q4,ag,bi,af⟩:=NH (Hj.no H3.out.2.1 kr) HH.out.2.1.okL f;have aB:=kr.heap H3.out.1 id;obtain⟨y,hy⟩:∃y,y=S.L.win a:=⟨_,rfl⟩;obtain⟨fl,ae⟩:∃fl,fl=S.L.floor a:=⟨_,rfl⟩;obtain⟨inc,aE⟩:∃inc,inc=S.L.inc:=⟨_,rfl⟩;rw[<- hy]at J q2 q3 af;rw[<- ae]at q1;rw[<- aE]at q0;obtain⟨bU,bs,rfl,_,_⟩:=ag.form;have s0:=(Qq aB 0).trans q0;have s1:=(Qq aB (1+a)).trans q1;have s2:=(Qq aB (17+a*3)).trans q2;have s3:=(Qq aB (17+a*3+1)).trans q3;have s4:=(Qq aB (17+a*3+2)).trans q4;have bF:IntKind.u64.wrap ((y.low:Int)+(y.width:Int))=((y.low+y.width:Nat):Int):=by have:=J.low;have:=J.width.2;rw[IntKind.wrap_u64];omega
     obtain⟨lw,aF⟩:∃lw,lw=y.low+y.width:=⟨_,rfl⟩;rw[<- aF]at bF;have aZ:nums.length<=1048576:=by have:=(HH.out.2.1.many HH.out.qc);omega
     have d:=BX (A13 B kr f V J ag af aZ aP hy ae aE aF);clear B kr f V J ag af bi aZ aP aQ M aS q0 q1 q2 q3 q4 aB hy ae aE aF ha;go_upto_region 10 with fail;clear bj bJ;have kd:Xy No wr wr.drew:=(Xy.refl _ _).drew;have kA:=kd.alloc (.cells #[.int .i64 0,.int .i64 0,.int .u64 0,.int .u64 0,.int .u64 0,.int .u64 0,.int .u64 0,.slice AI 0 0,.slice AI 0 0] 106);refine Ql (λw'=>Xy No wr w') [0,1,2,3,4,5,6,7,8,9,10,11,12,13,14,15,16,17,18,19,20,21,22,23,24,25,26,27,28,29] [30] [31] (by kernel_rfl) (by kernel_rfl) (λ_ _ _ _ _ h=>h) kd ?_;iterate 30(refine Qk (v:=?_) rfl rfl rfl ?_ ?_;rotate_left;focus(
      intro w' hS;have g0:=hS.cell r0 id;have g1:=hS.cell e0 id;have g2:=hS.cell s0 id;have g3:=hS.cell s1 id;have g4:=hS.cell s2 id;have g5:=hS.cell s3 id;go_simp
      try with_reducible rfl))
     refine Qj ?_;refine Qx rfl rfl (λK hK=>?_);go_simp;refine hK _ _ kA ?_;clear hK K;refine Qh (Qu rfl (Qm ?_));show AX _ _ _ [_] _ _;go_upto_region 11 with fail;obtain⟨W6,aN⟩:∃W6,W6=(wr.alloc (.cells #[.int .i64 n,.int .i64 a,.int .u64 fl,.int .u64 inc,.int .u64 0,.int .u64 y.low,.int .u64 lw,.slice AI 0 0,.slice AI 0 0] 106)).drew:=⟨_,rfl⟩;have h7:W6.heap[wr.heap.size]?=AF (.cells #[.int .i64 n,.int .i64 a,.int .u64 fl,.int .u64 inc,.int .u64 0,.int .u64 y.low,.int .u64 lw,.slice AI 0 0,.slice AI 0 0] 106 (0,0)):=by rw[aN];exact Qy wr _
     have k6:Xy No wr W6:=by rw[aN];exact((Xy.refl _ _).alloc _).drew
     rw[<- aN];have s4:=k6.cell s4 id;have H6:=BX (A3 h7 k6 (d.out.2.2.2.2.2.1.no k6));clear aN h7 k6 kd kA e0 r0 s0 s1 s2 s3 bF;go_upto_block 2 with fail;go_cut [8] (λv8 O=>Gq O W6.heap.size v8 (Tg nums)/\Xy No W6 O);case first =>
      have bv:(nums.length:Int)<=1048576:=by have:=d.out.qh;omega
      go_wp2_with fail;go_loopw [8,77] (λv8 am O=>∃k:Nat,am=.int .i64 k/\k<=nums.length/\Gq O W6.heap.size v8 (Tg (nums.take k))/\Xy No W6 O) (λ_ am _=>nums.length-(C0 am).toNat);case atStart=>exact⟨0,rfl,BW _,Gq.nil _ _,Xy.refl _ _⟩
      case round =>
       obtain⟨k,rfl,hk,W,kx⟩:=hrel
       rename AC=>O
       obtain⟨qo,qc,rfl,_,_⟩:=W.form;obtain⟨t,ht⟩:∃t,t=Tg (nums.take k):=⟨_,rfl⟩;rw[<- ht]at W⊢;by_cases f:k<nums.length
       ·have hx:nums[k]?=AF nums[k]:=BY f;have U:Tg (nums.take (k+1))=t++[(nums[k],nums[k])]:=by rw[ht];unfold Tg;rw[List.take_succ_eq_append_getElem f,List.map_append];rfl
        generalize nums[k]=x at hx U;obtain⟨bT,ax,e',aO⟩:=(H6.out.2.2.no kx).nums;simp only[DB]at e';obtain⟨g,bd,hg,aO⟩:=aO (λe=>by rw[e]at f;simp at f);have hc:=aO k x hx;obtain rfl:bU=AF ⟨g,bd,AI⟩:=e'.1.trans hg;clear aO e' hg;have bh:(k:Int)<(nums.length:Int):=by omega
        have kB:=(Xy.refl No O).alloc (.cells #[.int .u64 x,.int .u64 x] 204);have hB:=Qy O (.cells #[.int .u64 x,.int .u64 x] 204);have aJ:t.length<=1099511627776:=by rw[ht];unfold Tg;rw[D6,E9];have:=d.out.qh;omega
        have I:W6.heap.size<=(O.alloc (.cells #[.int .u64 x,.int .u64 x] 204)).heap.size:=(kx.then kB).size;have Y:=BX (A7 (W.no kB) hB aJ I (kx.then kB) f U);clear W hB aJ I f U hx ht kx kB hk;go_wp2_with(at_builtin;refine Mx rfl _ _ rfl Y.out.1 rfl (y:=(x,x)) Y.out.2.1 rfl Y.out.qc Y.out.qd ?_;intro cA bx w6 aH k6;have an:=BX (A2 aH k6);clear aH k6);go_roundw;case rel=>exact⟨k+1,by go_num,Y.out.qf,by rw[Y.out.rg];simpa using an.out.1,Y.out.2.2.2.2.1.absorb an.out.2 (λb Z=>(Y.out.1.kind b Z).1)⟩
        case measure=>have:=Y.out.qf;simp[C0];omega
       ·have bD:k=nums.length:=by omega
        have bh:¬(k:Int)<(nums.length:Int):=by omega
        rw[bD,List.take_length]at ht;have Y:=BX (A3 W kx ht);clear W kx f hk bD ht;go_wp2_with fail;go_meet;exact⟨by rw[<- Y.out.2.2];exact Y.out.1,Y.out.2.1⟩
     case rest =>
      obtain⟨W,kx⟩:=hcut
      rename AC=>O
      obtain⟨qo,qc,rfl,_,_⟩:=W.form;obtain⟨qn,bL⟩:∃qn,qn=(Tg nums).length:=⟨_,rfl⟩;have bO:(Tg nums).length<=1048576:=by unfold Tg;rw[D6];exact d.out.qh
      have ah:=Pk W bO (λr hr=>by
       obtain⟨x,hx,rfl⟩:=CP.1 hr;have:=(d.out.2.2.2.2.1.above x ((d.out.qg x).1 hx)).2.2;show x<_
       omega)
      rw[<- bL]at ah⊢;clear W bO bL;go_upto_region 18 with(go_at_call 134;refine ah.mono ?_;rintro e w7 ⟨v7,m,rfl,hm,bH,bG,_,k7⟩;obtain⟨N,E,rfl,_,_⟩:=hm.form);obtain rfl:m=y.set:=Uk.ext bH d.out.2.2.2.2.1.set (λn=>by rw[bG,XQ,d.out.qg]);have aU:=kx.then k7;have h7:=aU.heap H6.out.1 id;have bS:=(d.out.2.1.then H6.out.2.1).then aU;have aV:=d.out.1.no (H6.out.2.1.then aU);have hm:=hm.mono (B':=W3.heap.size) (BF (d.out.2.1.then H6.out.2.1).size kx.size);clear ah bH bG k7 kx aU s4;rcases Nat.lt_or_ge 32 y.set.length with aM|aM;focus(
       have ak:(32:Int)<(y.set.length:Int):=by omega
       have bk:(32:Int)<=(E:Int):=by obtain⟨bT,ax,e,h1,h2⟩:=hm.form;simp only[DB]at e;omega
       go_upto_region 20 with fail;obtain⟨C,T⟩:∃C:Nat,C=32:=⟨_,rfl⟩;have aR:Gq w7 W3.heap.size (.slice N C E) (y.set.take 32):=by rw[T];exact hm.front (by omega)
       rw[show DN N 32 E=DN N C E by rw[T]]
       clear T ak bk aM hm)
      rotate_left;focus(
       have ak:¬(32:Int)<(y.set.length:Int):=by omega
       go_upto_region 20 with fail;obtain⟨C,T⟩:∃C:Nat,C=y.set.length:=⟨_,rfl⟩;have aR:Gq w7 W3.heap.size (.slice N C E) (y.set.take 32):=by rw[T,List.take_of_length_le aM];exact hm
       rw[show DN N y.set.length E=DN N C E by rw[T]]
       clear T ak aM hm)
      rotate_left;all_goals
       have be:wr.heap.size<W6.heap.size:=Qt H6.out.1;have f7:=Qg h7 7;have d7:w7.cell? ⟨wr.heap.size,7,AI⟩=AF (.slice AI 0 0):=(Qq h7 7).trans rfl;have A:=Qz (i:=7) (u:=.slice N C E) h7;have kS:Xy (·=wr.heap.size) w7 (w7.setCell ⟨wr.heap.size,7,AI⟩ (.slice N C E)):=Qd _ _;have aD:=aV.keep kS (λb aL e M=>by
        have e:b=wr.heap.size:=e;rw[e,h7]at M;simp at M) (λb Z e=>by
        obtain⟨_,aL,M⟩:=d.out.1.kind b Z;have:=Qt M;have e:b=wr.heap.size:=e
        omega)
       have aj:=aR.keep kS (λb Z e=>by
        obtain⟨_,aL,M⟩:=aR.kind b Z;have e:b=wr.heap.size:=e;rw[e,h7]at M
        simp at M)
       have aT:Xy No W3 (w7.setCell ⟨wr.heap.size,7,AI⟩ (.slice N C E)):=bS.absorb kS (λb e=>by have e:b=wr.heap.size:=e;have:=d.out.2.1.size;omega);go_upto_region 21 with fail;obtain⟨Q,az⟩:∃Q,Q=w7.setCell ⟨wr.heap.size,7,AI⟩ (.slice N C E):=⟨_,rfl⟩;rw[<- az]at A aD aj aT⊢;clear az d7 f7 h7 aR aV kS bS be;have aC:(Tq S.L o1 a).dcells (.slice N C E) (.slice AI 0 0)=#[.int .i64 n,.int .i64 a,.int .u64 fl,.int .u64 inc,.int .u64 0,.int .u64 y.low,.int .u64 lw,.slice N C E,.slice AI 0 0]:=by unfold Vy.dcells Tq;dsimp only;rw[d.out.qi,<- d.out.qk,<- d.out.ql,<- d.out.qj,<- d.out.2.2.2.2.2.2.2.2.2.2.2.2];rfl
       have bQ:(Tq S.L o1 a).runs=y.set.take 32:=by unfold Tq;dsimp only;rw[<- d.out.qj]
       have kA:=(Xy.refl No Q).alloc (.cells #[.int .i64 n,.int .i64 a,.int .u64 fl,.int .u64 inc,.int .u64 0,.int .u64 y.low,.int .u64 lw,.slice N C E,.slice AI 0 0] 106);have hA:=Qy Q (.cells #[.int .i64 n,.int .i64 a,.int .u64 fl,.int .u64 inc,.int .u64 0,.int .u64 y.low,.int .u64 lw,.slice N C E,.slice AI 0 0] 106);have aJ:=Mk S.L o1 a;have ai:=aj.no kA;rw[<- bQ]at ai;have I:W3.heap.size<=(Q.alloc (.cells #[.int .i64 n,.int .i64 a,.int .u64 fl,.int .u64 inc,.int .u64 0,.int .u64 y.low,.int .u64 lw,.slice N C E,.slice AI 0 0] 106)).heap.size:=(aT.then kA).size;have HZ:=BX (A7 (aD.no kA) hA ai aJ (aT.then kA) aC I);obtain⟨p0,p1,p2,p3,p4,p5,p6,p7,p8⟩:Q.cell? ⟨wr.heap.size,0,AI⟩=AF (.int .i64 n)/\Q.cell? ⟨wr.heap.size,1,AI⟩=AF (.int .i64 a)/\Q.cell? ⟨wr.heap.size,2,AI⟩=AF (.int .u64 fl)/\Q.cell? ⟨wr.heap.size,3,AI⟩=AF (.int .u64 inc)/\Q.cell? ⟨wr.heap.size,4,AI⟩=AF (.int .u64 0)/\Q.cell? ⟨wr.heap.size,5,AI⟩=AF (.int .u64 y.low)/\Q.cell? ⟨wr.heap.size,6,AI⟩=AF (.int .u64 lw)/\Q.cell? ⟨wr.heap.size,7,AI⟩=AF (.slice N C E)/\Q.cell? ⟨wr.heap.size,8,AI⟩=AF (.slice AI 0 0):=⟨(Qq A 0).trans rfl,(Qq A 1).trans rfl,(Qq A 2).trans rfl,(Qq A 3).trans rfl,(Qq A 4).trans rfl,(Qq A 5).trans rfl,(Qq A 6).trans rfl,(Qq A 7).trans rfl,(Qq A 8).trans rfl⟩;clear aD hA aj ai aT kA bQ aC A aJ I;go_wp2_with(at_builtin;refine Wi rfl _ _ rfl HZ.out.1 rfl (D:=Q.heap.size) (y:=Tq S.L o1 a) (u:=.slice N C E) (by rw[HZ.out.qf];exact HZ.out.2.1) rfl HZ.out.qc (by have:=HZ.out.qd;have:=d.out.qc;omega) HZ.out.rg ?_;intro bz bw w' aG bC;have HE:=BX (A2 aG bC);clear aG bC);go_roundw;case rel =>refine⟨a+1,by go_num,d.out.qc,?_⟩;unfold U8;rw[d.out.qd];exact⟨HE.out.1,HZ.out.2.2.2.2.1.absorb HE.out.2 (λb Z=>(d.out.1.kind b Z).1)⟩
       case measure=>have:=d.out.qc;simp[C0];omega
   ·have bg:¬(a:Int)<16:=by omega
    have bf:a=16:=by omega
    subst bf;have d:=BX hI;clear hI f ha;go_wp2_with fail;go_meet;exact d.out
 case rest =>
  obtain⟨B,kr⟩:=hcut
  rename AC=>O
  obtain⟨vo,vc,rfl,_,_⟩:=B.form;have H:=H3.out.2.2.2.no kr;have bt:=λi=>Qg H.blk i;have c:=λi=>Qq H.blk i;have e0:=c 0;have e1:=c 1;have e2:=c 2;have e3:=c 3;have e4:=c 4;have e5:=c 5;have e6:=c 6;have e7:=c 7;have e8:=c 8;have e9:=c 9;have bV:=c 10;have bW:=c 11;have bX:=c 12;have bY:=c 13;have bZ:=c 14;have bb:=c 15;have bc:=c 16;simp[Se]at e0 e1 e2 e3 e4 e5 e6 e7 e8 e9 bV bW bX bY bZ bb bc;have kz:=Iy O X;have M:=QM H;have al:=H3.out.2.2.1.then kr;have bA:=((H1.out.1.no al).cellsAt H.blk (by simp) (by simp) H.pb kz).1;have aW:Tk (Tt O X) w.heap.size (.slice vo (Sw S.L o1 16).length vc) (Sw S.L o1 16):=(B.keep kz (λb aL e M=>by
   have e:b=X:=e;rw[e,H.blk]at M;simp at M) (λb Z e=>by
   have e:b=X:=e;obtain⟨_,aL,e2⟩:=B.kind b Z;rw[e,H.blk]at e2
   simp at e2)).mono (BF H1.out.2.1.size H3.out.2.2.1.size)
  have bE:Xy (λb=>G b\/b=X) w (Tt O X):=((H1.out.2.1.mono (λb _ e=>(Or.inl e:G b\/b=X))).then al).trans kz (λb _ e=>.inr e);have HF:=BX (A5 aW bA M bE H1.out.qc);unfold Tt at HF;clear B kr H c kz M bA aW bE al;go_wp2_with fail;go_ret;exact⟨_,rfl,HF.out.1,G1,HF.out.2.1,HF.out.qc,HF.out.qd,HF.out.re⟩
end
structure Q17 [bn:Ib](base:Nat)(w:AC)(P R X q p r xq width:Nat)(size:Int)(S:S16)(o:List Nat)(Sd:S16)(od:List Nat)(F G:Nat->Prop):Prop where
  blk:w.heap[P]?=AF (.cells #[.pointer (AF ⟨R,0,AI⟩),.pointer (AF ⟨X,0,AI⟩),.int .u64 width,.int .i64 size] 81 (0,0))
  rcv:Su base w R q o
  rdv:Tj base w X r od
  led:Ui base w q p width size S F
  dcl:Hv base w r xq width size Sd G
  pb:base<=P
section
variable [bn:Ib]{base:Nat}{w w':AC}{P R X q p r xq width j:Nat}{size:Int}{S S' Sd Sd':S16}{o o' od od':List Nat}{F G:Nat->Prop}
theorem P17.two(h:P17 base w P R X q p r xq width size S o F G):Q17 base w P R X q p r xq width size S o S o F G:=⟨h.blk,h.rcv,h.rdv,h.led,h.dcl,h.pb⟩
theorem Q17.no(h:Q17 base w P R X q p r xq width size S o Sd od F G)(k:Xy No w w'):Q17 base w' P R X q p r xq width size S o Sd od F G:=⟨k.heap h.blk id,h.rcv.no k,h.rdv.no k,h.led.no k,h.dcl.no k,h.pb⟩
omit bn in
theorem VA{a b:Nat}{cs ds:Array AM}{t u:TypeId}(f:w.heap[a]?=AF (.cells cs t (0,0)))(d:w.heap[b]?=AF (.cells ds u (0,0)))(h:t≠u):¬a=b:=λe=>by
  subst e
  rw[f]at d
  simp at d
  exact h d.2
theorem Q17.outF(h:Q17 base w P R X q p r xq width size S o Sd od F G):(¬F P/\¬F R/\¬F X)/\(¬G P/\¬G R/\¬G X)/\¬P=R/\¬P=X/\¬X=R/\∀b,G b->¬F b :=
  ⟨⟨(h.led.cellsAt h.blk (by simp) (by simp) (by simp) h.pb (Xy.refl (·=P) w)).2,h.rcv.byLed h.led,(h.led.cellsAt h.rdv.blk (by simp) (by simp) (by simp) h.rdv.pb (Xy.refl (·=X) w)).2⟩,
   ⟨(h.dcl.cellsAt h.blk (by simp) (by simp) h.pb (Xy.refl (·=P) w)).2,(h.dcl.cellsAt h.rcv.blk (by simp) (by simp) h.rcv.pb (Xy.refl (·=R) w)).2,h.rdv.byDoc h.dcl⟩,
   VA h.blk h.rcv.blk (by simp),VA h.blk h.rdv.blk (by simp),VA h.rdv.blk h.rcv.blk (by simp),h.led.apart h.dcl⟩
omit bn in
theorem Lo(d:Uz base w F)(f:Uz base w H):Uz base w (λb=>F b\/H b):=λb g=>g.elim (d b) (f b)
omit bn in
theorem Ds(d:Zn w F)(f:Zn w H):Zn w (λb=>F b\/H b):=λb g=>g.elim (d b) (f b)
theorem Q17.ledStep(h:Q17 base w P R X q p r xq width size S o Sd od F G)(D:So base w R q p width size S' o' F w') :
    ∃d,Q17 base w' P R X q p r xq width size S' o' Sd od d G/\Xy (λb=>F b\/b=R) w w'/\∀b,d b->F b\/w.heap.size<=b:=by
  obtain⟨d,B,C,k,E⟩:=D;obtain⟨⟨n,I,z⟩,⟨J,A,K⟩,i,H,m,f⟩:=h.outF;refine⟨d,⟨k.heap h.blk (λe=>e.elim n i),C,h.rdv.keep k (λe=>e.elim z m),B,h.dcl.keep (Lo h.led.foot (Td h.rcv.blk h.rcv.pb (by simp))) k (λb g e=>e.elim (f b g) (λe=>by rw[e]at g;exact A g)),h.pb⟩,k,E⟩
theorem Q17.docStep(h:Q17 base w P R X q p r xq width size S o Sd od F G)(E:Dx base w X r xq width size Sd' od' G w') :
    ∃G',Q17 base w' P R X q p r xq width size S o Sd' od' F G'/\Xy (λb=>G b\/b=X) w w'/\∀b,G' b->G b\/w.heap.size<=b:=by
  obtain⟨G',B,C,k,H⟩:=E;obtain⟨⟨K,L,n⟩,⟨z,A,M⟩,J,i,m,f⟩:=h.outF;have D:Zn w (·=X):=λb d I=>by
    have e:b=X:=d;subst e;obtain⟨cs,fr,g⟩:=I;rw[h.rdv.blk]at g;simp at g
  refine⟨G',⟨k.heap h.blk (λe=>e.elim z i),h.rcv.keep k (λe=>e.elim A (λe=>m e.symm)),C,h.led.keep (Lo h.dcl.foot (Td h.rdv.blk h.rdv.pb (by simp))) (Ds h.dcl.footR D) k (λb d e=>e.elim (λe=>f b e d) (λe=>by rw[e]at d;exact n d)),B,h.pb⟩,k,H⟩
theorem Q17.recv(h:Q17 base w P R X q p r xq width size S o S o F G)(ok:Ue width j S)(I:j+2<=450)(f:Vy)(m:f.items.length<=8)(i:∀x∈f.items,x.s.body.length<=40)(C:f.runs.length<=1048576)(A:∀r∈f.runs,r.1<18446744073709551616/\r.2<18446744073709551616) :
    ∃g S' o',Ny width j size S o f g S' o'/\Ue width (j+2) S'/\Ns S o f g S' o' /\
      (∀d v iv,Xy No w d->Sa d v f.runs->Xr base d B0 iv f.items->base<=d.heap.size->ban.top<=d.heap.size->DJ Tryz.prog 31 #[.pointer (AF ⟨R,0,AI⟩),.agg (f.cells v iv)] d λz L=>z=.returned (.bool g)/\So base d R q p width size S' o' F L) /\
      (∀d M v iv,Q17 base d P R X q p r xq width size S' o' S o M G->Gq d B v f.runs->Gs base d iv f.items->base<=d.heap.size->ban.top<=d.heap.size->DJ Tryz.prog 43 #[.pointer (AF ⟨X,0,AI⟩),.agg (f.dcells v iv)] d λz L=>z=.returned (.bool g)/\Dx base d X r xq width size S' o' G L):=by
  obtain⟨g,S',o',H,O,n⟩:=ok.recvO I size o f m i;exact⟨g,S',o',H,O,n,λd v iv k K hi E D=>Og (h.led.no k) (h.rcv.no k) ok I f K C (λr J=>(A r J).1) hi m i H E D,
    λd M v iv N K hi E D=>Bv N.dcl N.rdv ok I f K C (λr J=>(A r J).2) hi m i H E D⟩
end
theorem Tk.at'(h:Tk w B (.slice ao n cap) l)(hi:l[i]?=AF x) :
  ∃g u,ao=AF ⟨g,0,AI⟩/\Gq w B u x.runs/\B<=g/\∀(j:Nat) z,(x.dcells u (.slice AI 0 0))[j]?=AF z->w.cell? ⟨g,i*9+j,AI⟩=AF z:=by
 obtain⟨xs,rfl,D,M,E⟩:=h;rw[CK]at hi;cases f:xs[i]? with
 | none =>
  rw[f]at hi;simp at hi
 | some y =>
  rw[f]at hi;simp at hi;subst hi;have J:=(BK.1 f).1;have T:0<(xs.map (·.1)).length:=by rw[D6];omega
  rcases E with⟨_,e⟩|⟨g,A,C,e,I,L,N,O,Q,H⟩
  ·omega
  ·simp only[DB]at e;obtain⟨rfl,_,_⟩:=e;refine⟨g,y.2,rfl,D y (FB f),I,λj z K=>?_⟩;have d:(y.1.dcells y.2 (.slice AI 0 0)).toList[j]?=AF z:=by rw[Array.getElem?_toList];exact K
   have m:j<9:=(BK.1 d).1;have k:=Bc (λx:Vy×AM=>(x.1.dcells x.2 (.slice AI 0 0)).toList) 9 (λx=>rfl) f m;rw[d,<- H,List.getElem?_take]at k
   split at k
   ·rw[Qq L];simpa using k
   ·simp at k
section
variable [bn:Ib]{base:Nat}{w w':AC}{P R X q p r xq width j:Nat}{size:Int}{S S' Sd Sd':S16}{o o' od od':List Nat}{F G:Nat->Prop}
def Nu (S:S16)(o:List Nat)(l:List Vy)(S':S16):Prop:=(o=BT 16 0/\l=[]/\S'=S)\/(o≠BT 16 0/\l=Sw S.L o 16/\S'=S.sync)
theorem Q17.tick(h:Q17 base w P R X q p r xq width size S o S o F G)(ok:Ue width j S)(C:j<=450) :
  ∃l S',Nu S o l S'/\Ue width j S' /\
   (∀d,Xy No w d->base<=d.heap.size->DJ Tryz.prog 32 #[.pointer (AF ⟨R,0,AI⟩)] d λz g=>∃v,z=.returned v/\Sg g d.heap.size v l/\So base d R q p width size S' (BT 16 0) F g) /\
   (∀d n,Q17 base d P R X q p r xq width size S' (BT 16 0) S o n G->base<=d.heap.size->ban.top<=d.heap.size->DJ Tryz.prog 89 #[.pointer (AF ⟨X,0,AI⟩)] d λz g=>∃v,z=.returned v/\Tk g d.heap.size v l/\Dx base d X r xq width size S' (BT 16 0) G g):=by
 by_cases m:o=BT 16 0
 ·subst m;refine⟨[],S,.inl ⟨rfl,rfl,rfl⟩,ok,λd k f=>(JO (h.rcv.no k)).mono (λz g ⟨e,A⟩=>?_),λd n i f B=>(XL i.rdv).mono (λz g ⟨e,A⟩=>?_)⟩
  ·subst A;exact⟨_,e,Sg.nil _ _,F,h.led.no k,h.rcv.no k,Xy.refl _ _,λb f=>.inl f⟩
  ·subst A;exact⟨_,e,Tk.nil _ _,G,i.dcl,i.rdv,Xy.refl _ _,λb f=>.inl f⟩
 ·exact⟨_,_,.inr ⟨m,rfl,rfl⟩,ok.sync,λd k f=>UT (h.led.no k) (h.rcv.no k) m f,λd n i f B=>JF i.dcl i.rdv m ok C f B⟩
theorem Nu.all(h:Nu S o l S')(A:S.L.Ok width)(B:Nj S.L o):l.length<=16/\∀x∈l,GM x/\x.items=[]/\x.runs.length<=32/\x.kind<256/\∀r∈x.runs,r.1<18446744073709551616:=by
 rcases h with⟨_,rfl,_⟩|⟨_,rfl,_⟩
 ·exact⟨BW _,λx i=>by simp at i⟩
 ·refine⟨Mk _ _ _,λx i=>?_⟩;unfold Sw at i;obtain⟨a,C,rfl⟩:=CP.1 i;obtain⟨k,m⟩:=List.mem_filter.1 C;have d:=List.mem_range.1 k;have f:o.getD a 0≠0:=by simpa using m
  refine⟨NT A B d f,rfl,by show((S.L.win a).set.take 32).length<=32;rw[E9];omega,?_,λr H=>?_⟩
  ·show o.getD a 0<256;have:=(B a f).2;omega
  ·obtain⟨g,J,n,z,D⟩:=A.at d;have I:(S.L.win a).Ok:=by rw[z];exact n.now
   have E:r∈(S.L.win a).set:=WJ H;have:=I.set.run r E;omega
omit bn in
theorem Sg.mono(h:Sg w B v l)(m:B'<=B):Sg w B' v l:=by obtain⟨xs,i,k,f⟩:=h;exact⟨xs,i,k,f.1,f.2.imp id (λ⟨g,cap,d,e,y,z⟩=>⟨g,cap,d,e,BF m y,z⟩)⟩
omit bn in
theorem Nr{T1:Prop}(h:(¬F P/\¬F R/\¬F X)/\(¬G P/\¬G R/\¬G X)/\¬P=R/\¬P=X/\T1)(e:(F P\/P=R)\/(G P\/P=X)):False:=by
 rcases e with(e|e)|(e|e)
 ·exact h.1.1 e
 ·exact h.qc e
 ·exact h.2.1.1 e
 ·exact h.qd e
def M2 [bn:Ib](base:Nat)(w:AC)(P R X q p r xq width:Nat)(size:Int)(S':S16)(l:List Vy)(F G:Nat->Prop)(z:Ending)(w':AC):Prop :=
 ∃v d G',z=.returned (.tuple #[v,.bool true])/\Sg w' w.heap.size v l/\Q17 base w' P R X q p r xq width size S' (BT 16 0) S' (BT 16 0) d G'/\Xy (λb=>(F b\/b=R)\/(G b\/b=X)) w w'/\(∀b,d b->F b\/w.heap.size<=b)/\∀b,G' b->G b\/w.heap.size<=b
theorem VH(h:Q17 base w P R X q p r xq width size S o S o F G)(ok:Ue width j S)(hj:j<=450)(aU:Nj S.L o)(O:base<=w.heap.size)(hT:ban.top<=w.heap.size) :
  ∃l S',Nu S o l S'/\Ue width j S'/\DJ Tryz.prog 36 #[.pointer (AF ⟨P,0,AI⟩)] w (M2 base w P R X q p r xq width size S' l F G):=by
 obtain⟨l,S',aC,ae,aV,aW⟩:=h.tick ok hj;refine⟨l,S',aC,ae,?_⟩;obtain⟨aP,W⟩:=aC.all ok.okL aU;have p0:=Qq h.blk 0;have p1:=Qq h.blk 1;simp at p0 p1;have Z:=h.outF;have E:=BX (A7 h O hT aV aW W Z);have ap:(l.length:Int)<=16:=by omega
 clear h ok hj aU O hT aC ae aV aW W aP Z;go_enter Tryz.func36,Tryz.ntmps36;go_upto_region 1 with fail;have kd:Xy No w w.drew:=(Xy.refl _ _).drew;refine Ql (λw'=>Xy (λb=>(F b\/b=R)\/(G b\/b=X)) w w') [0,1,2,3,5,6,7,8] [4,9] [10,11] (by kernel_rfl) (by kernel_rfl) (λ_ _ _ _ _ h=>h) kd.no ?_;iterate 8(refine Qk (v:=?_) rfl rfl rfl ?_ ?_;rotate_left;focus(
  intro w' d;have g0:=d.cell p0 (λe=>Nr E.out.rg e);have g1:=d.cell p1 (λe=>Nr E.out.rg e);go_simp
  try with_reducible rfl))
 refine Qj (Qx rfl rfl (λK n=>?_));go_simp;refine(E.out.qd _ kd (BF E.out.2.1 kd.size)).mono ?_;rintro z w1⟨v1,rfl,J,aQ⟩;obtain⟨F1,h1,k1,aS⟩:=(E.out.1.no kd).ledStep aQ;have m:Xy (λb=>(F b\/b=R)\/(G b\/b=X)) w w1:=kd.no.trans k1 (λb _ e=>.inl e);refine n _ _ m ?_;clear n K;have aM:base<=w1.heap.size:=BF E.out.2.1 m.size;have aL:ban.top<=w1.heap.size:=BF E.out.qc m.size;refine Qx rfl rfl (λK n=>?_);go_simp;refine(E.out.qe _ _ h1 aM aL).mono ?_;rintro z w2⟨v2,rfl,i,aR⟩;obtain⟨G2,h2,k2,aT⟩:=h1.docStep aR;have aE:Xy (λb=>(F b\/b=R)\/(G b\/b=X)) w w2:=m.trans k2 (λb _ e=>.inr e);refine n _ _ aE ?_;clear n K;refine Qh (Qu rfl (Qu rfl (Qm ?_)));have aY:w.heap.size<=w.drew.heap.size:=kd.size;have M:Sg w2 w.heap.size v1 l:=by
  have e1:=J.keep (F:=λb=>G b\/b=X) (Ds h1.dcl.footR (λb O hr=>by
   have e:b=X:=O;subst e;obtain⟨cs,fr,hz⟩:=hr;rw[h1.rdv.blk]at hz
   simp at hz)) k2 (λb O e=>by
   have ao:=(J.kind b O).1;rcases e with e|e
   ·have:=((E.out.1.no kd).dcl.foot b e).2.1;omega
   ·have:=Qt (E.out.1.no kd).rdv.blk
    omega)
  exact e1.mono aY
 have i:=i.mono (B':=w.heap.size) m.size;obtain⟨am,ak,rfl,_,_⟩:=M.form;obtain⟨an,al,rfl,_,_⟩:=i.form;have V:=BX (A6 M i h2 aE (show ∀b,F1 b->F b\/w.heap.size<=b from λb O=>(aS b O).imp id (λe=>BF kd.size e)) (show ∀b,G2 b->G b\/w.heap.size<=b from λb O=>(aT b O).imp id (λe=>BF m.size e)));clear J M i h1 h2 k1 k2 m aE aS aT aQ aR aM aL kd p0 p1 aY;show AX _ _ _ [_,_] _ _;go_wp2_with fail;go_loopw [25] (λaK wr=>∃k,aK=.int .i64 (k:Nat)/\k<=l.length/\Xy No w2 wr) (λaK _=>l.length-(C0 aK).toNat);case atStart=>exact⟨0,rfl,BW _,Xy.refl _ _⟩
 case round =>
  obtain⟨k,rfl,hk,kr⟩:=hrel;by_cases T:k<l.length
  ·have hx:l[k]?=AF l[k]:=BY T;generalize l[k]=x at hx;obtain⟨ac,D,ah,ag,ab⟩:=E.out.qf x (FB hx);obtain⟨g1,u1,e1,U,_,f⟩:=(V.out.1.no kr).at' hx;obtain⟨g2,u2,e2,aD,_,g⟩:=(V.out.2.1.no kr).at' hx;obtain⟨aJ,aI,rfl,_,_⟩:=U.form;obtain⟨aj,ai,rfl,_,_⟩:=aD.form;subst e1 e2;have a0:=f 0 (.int .u8 x.kind) rfl;have b0:=g 0 (.int .i64 x.kind) rfl;have a1:=f 1 (.int .i64 x.agent) rfl;have b1:=g 1 (.int .i64 x.agent) rfl;have a2:=f 2 (.int .u64 x.epoch) rfl;have b2:=g 2 (.int .u64 x.epoch) rfl;have a3:=f 3 (.int .u64 x.inc) rfl;have b3:=g 3 (.int .u64 x.inc) rfl;have a4:=f 4 (.int .u64 x.base) rfl;have b4:=g 4 (.int .u64 x.base) rfl;have a5:=f 5 (.int .u64 x.cum) rfl;have b5:=g 5 (.int .u64 x.cum) rfl;have a6:=f 6 (.int .u64 x.limit) rfl;have b6:=g 6 (.int .u64 x.limit) rfl;have a7:=f 7 (.slice aJ x.runs.length aI) rfl;have b7:=g 7 (.slice aj x.runs.length ai) rfl;have a8:=f 8 (.slice AI 0 0) rfl;have b8:=g 8 (.slice AI 0 0) rfl;rw[Nat.add_zero]at a0 b0;have af:(k:Int)<(l.length:Int):=by omega
   obtain⟨H,I⟩:∃H,H=wr.alloc (.cells (x.cells (.slice aJ x.runs.length aI) (.slice AI 0 0)) 69):=⟨_,rfl⟩;have C:Xy No wr H:=by rw[I];exact(Xy.refl _ _).alloc _
   have hA:H.heap[wr.heap.size]?=AF (.cells (x.cells (.slice aJ x.runs.length aI) (.slice AI 0 0)) 69 (0,0)):=by rw[I];exact Qy _ _
   obtain⟨c0,c1,c2,c3,c4,c5,c6,c7,c8⟩:=Si x hA;have aF:=kr.then C;have aN:base<=H.heap.size:=BF (BF E.out.2.1 V.out.2.2.2.1.size) aF.size;have kd:Xy No H H.drew:=(Xy.refl _ _).drew;have aA:=Lj (base:=base) (B:=0) (w:=H.drew) x ag ((U.no C).no kd).in' (by omega) (by rw[D];exact Xr.nil _ _ _:Xr base H.drew 0 (.slice AI 0 0) x.items) (by rw[D];exact BW _) (BF aN kd.size);have N:=λ(Y:AC) (k:Xy No H Y) (B':Nat) (rv:AM) (hq:Gq Y B' rv x.runs) (jo:Option Addr) (jc:Nat)=>JE x hq ((aD.no C).no k) (by omega) jo AI jc 0;have A:=λ(Y:AC) (k:Xy No H Y)=>Eg (base:=base) (B:=0) (w:=Y) (r:=true) x ((U.no C).no k).in' (by omega) ab (by rw[D];exact Xr.nil _ _ _:Xr base Y 0 (.slice AI 0 0) x.items) (by rw[D];exact BW _) (λy hy=>by rw[D]at hy;simp at hy) (by simp[ac]);have b0:=C.cell b0 id;have b1:=C.cell b1 id;have b2:=C.cell b2 id;have b3:=C.cell b3 id;have b4:=C.cell b4 id;have b5:=C.cell b5 id;have b6:=C.cell b6 id;have b7:=C.cell b7 id;have b8:=C.cell b8 id;have Q:=BX (A5 aF T hA A N);clear kr C aF hA aN A N U aD f g hx ac ah ab hk T;unfold Vy.cells at I;go_upto_region 7 with fail;rw[<- I];clear I a0 a1 a2 a3 a4 a5 a6 a7 a8;unfold Vy.cells at aA;refine Vr (λw'=>Xy No H w') [([0,2,3,4,5],[1,6]),([7,8,9],[10]),([11,12],[])] (by kernel_rfl) (by kernel_rfl) (λ_ _ _ _ _ h=>h) kd ?_;iterate 1(refine Qk (v:=?_) rfl rfl rfl ?_ ?_;rotate_left;focus(
    intro w' d;have g0:=d.cell c0 id;have g1:=d.cell c1 id;have g2:=d.cell c2 id;have g3:=d.cell c3 id;have g4:=d.cell c4 id;have g5:=d.cell c5 id;have g6:=d.cell c6 id;have g7:=d.cell c7 id;have g8:=d.cell c8 id;go_simp
    try with_reducible rfl))
   iterate 4(refine Qk (v:=?_) rfl rfl rfl ?_ ?_;rotate_left;focus(
    intro w' d;have g0:=d.cell b0 id;have g1:=d.cell b1 id;have g2:=d.cell b2 id;have g3:=d.cell b3 id;have g4:=d.cell b4 id;have g5:=d.cell b5 id;have g6:=d.cell b6 id;have g7:=d.cell b7 id;have g8:=d.cell b8 id;go_simp
    try with_reducible rfl))
   refine Qj ?_;refine Qx rfl rfl (λK n=>?_);go_simp;refine aA.mono ?_;rintro z w3⟨rv,iv,rfl,aB,aO,k3⟩;obtain⟨ro,rc,rfl,_,_⟩:=aB.form;obtain⟨io,ic,rfl,_,_⟩:=Us.form aO;rw[show x.items.length=0 by rw[D];rfl];have aG:=kd.then k3;have aZ:=Q.out.re w3 aG _ _ aB io ic;clear aB aO;unfold Vy.dcells at aZ⊢;refine n _ _ aG ?_;clear n K;refine Qx rfl rfl (λK n=>?_);go_simp;refine aZ.mono ?_;rintro z w4⟨rfl,k4⟩;have aH:=aG.then k4;have aX:=Q.out.qd w4 aH;unfold Vy.cells at aX;refine n _ _ aH ?_;clear n K;refine Qh ?_;iterate 2(refine Qk (v:=?_) rfl rfl rfl ?_ ?_;rotate_left;focus(
    intro w' d;go_simp
    try with_reducible rfl))
   iterate 1(refine Qe (v:=?_) rfl rfl (by first|kernel_rfl|simp[AV,yielded,AQ,undef]) ?_ ?_;rotate_left;focus(
    intro w' d;have g0:=d.cell c0 id;have g1:=d.cell c1 id;have g2:=d.cell c2 id;have g3:=d.cell c3 id;have g4:=d.cell c4 id;have g5:=d.cell c5 id;have g6:=d.cell c6 id;have g7:=d.cell c7 id;have g8:=d.cell c8 id;go_simp
    try with_reducible rfl))
   refine Qj ?_;refine Za rfl (by first|kernel_rfl|simp[AV,yielded,AQ,undef]) (λK n=>?_);go_simp;refine aX.mono ?_;rintro z w5⟨rfl,k5⟩;have ad:=aH.then k5;refine n _ _ ad ?_;clear n K;refine Qh ?_;iterate 1(refine Qe (v:=?_) rfl rfl (by first|kernel_rfl|simp[AV,yielded,AQ,undef]) ?_ ?_;rotate_left;focus(
    intro w' d;go_simp
    try with_reducible rfl))
   iterate 1(refine Qk (v:=?_) rfl rfl rfl ?_ ?_;rotate_left;focus(
    intro w' d;go_simp
    try with_reducible rfl))
   refine Qj (Qh ?_);unfold Vp;show AX _ _ _ [] _ _;go_simp;go_wp2_with fail;go_roundw;case rel=>exact⟨k+1,by go_num,Q.out.2.1,Q.out.1.then ad⟩
   case measure=>have:=Q.out.2.1;simp[C0];omega
  ·have af:¬(k:Int)<(l.length:Int):=by omega
   have Q:=BX kr;clear kr hk T;go_wp2_with fail;go_ret2;exact⟨_,F1,G2,rfl,V.out.1.no Q.out,V.out.2.2.1.no Q.out,V.out.2.2.2.1.then Q.out,V.out.qe,V.out.rf⟩
end
def Ty (kd:Nat)(f:Vy)(d fi:AM)(on:Bool)(kp g:Int):Array AM:=#[.int .u8 kd,.int .u8 f.kind,.int .i64 f.agent,.int .u64 f.epoch,.int .u64 f.inc,.int .u64 f.base,.int .u64 f.cum,.int .u64 f.limit,d,fi,.bool on,.int .i64 kp,.int .i64 g]
section
variable [bn:Ib]{base:Nat}{w0 w w':AC}{P R X q p r xq width j:Nat}{size:Int}{S S' Sd Sd':S16}{o o' od od':List Nat}{F G:Nat->Prop}
def Mz (R X:Nat)(F G:Nat->Prop):Nat->Prop:=λb=>(F b\/b=R)\/(G b\/b=X)
def QC [bn:Ib](base:Nat)(w:AC)(P R X q p r xq width:Nat)(size:Int)(S':S16)(o':List Nat)(F G:Nat->Prop)(w':AC):Prop :=
 ∃d G',Q17 base w' P R X q p r xq width size S' o' S' o' d G'/\Xy (Mz R X F G) w w'/\(∀b,d b->F b\/w.heap.size<=b)/\∀b,G' b->G b\/w.heap.size<=b
theorem Q17.logOf(h:Q17 base w P R X q p r xq width size S o Sd od F G):∃g,(∀d,Xy No w d->DJ Tryz.prog 16 #[.pointer (AF ⟨q,0,AI⟩)] d λe w'=>e=.returned (.pointer (AF ⟨g,0,AI⟩))/\w'=d)/\∀d,Xy No w d->DJ Tryz.prog 17 #[.pointer (AF ⟨g,0,AI⟩)] d λe w'=>e=.returned (.pointer (AF ⟨p,0,AI⟩))/\w'=d:=by obtain⟨g,m,lv,n,s,wv,z,i,f,_⟩:=h.led;exact⟨g,λd k=>Tp (f.led.no k),λd k=>Tc (f.lg.no k)⟩
theorem Xr.mono(h:Xr base w B v l)(m:B'<=B):Xr base w B' v l:=by obtain⟨xs,i,k,f⟩:=h;exact⟨xs,i,k,f.1,f.2.imp id (λ⟨g,cap,d,e,y,z⟩=>⟨g,cap,d,e,BF m y,z⟩)⟩
omit bn in
theorem VO(b:Bool)(w:AC):(binOp .eql 4 (.bool b) (.bool b)).run Tryz.prog w=.ok (.bool true) w:=by cases b<;>go_simp
theorem GA(h:Q17 base w P R X q p r xq width size S o S o F G)(ok:Ue width j S)(hj:j+2<=450)(k0:Xy No w0 w)(aO:∀b,Mz R X F G b->w0.heap.size<=b)(I:base<=w0.heap.size)(hT:ban.top<=w0.heap.size)(f:Vy)(aS:f.kind<256){fv fi:AM}(hv:Sa w0 fv f.runs)(aY:∀r∈f.runs,r.1<18446744073709551616/\r.2<18446744073709551616)(hi:Rw base w0 fi f.items)(kd:Nat)(hk:kd%6<=2)(on:Bool)(kp tn:Int) :
  ∃aC S' o',Ny width j size S o (Cq f) aC S' o'/\Ue width (j+2) S'/\Ns S o (Cq f) aC S' o' /\
   DJ Tryz.prog 35 #[.pointer (AF ⟨P,0,AI⟩),.agg (Ty kd f fv fi on kp tn)] w λz w'=>z=.returned (.bool true)/\QC base w P R X q p r xq width size S' o' F G w':=by
 obtain⟨aC,S',o',hh,ho,E,aZ,ab⟩:=h.recv (B:=w0.heap.size) (B0:=w0.heap.size) ok hj (Cq f) (Tf _) (QA _) (by show(f.runs.take 40).length<=_;rw[E9];omega) (λr hr=>aY r (WJ hr));refine⟨aC,S',o',hh,ho,E,?_⟩;clear hh ho E;obtain⟨fo,fc,rfl,_,_⟩:=hv.form;obtain⟨io,ic,rfl,_,_⟩:=hi.form;obtain⟨W,hW⟩:∃W,W=w.alloc (.cells (Ty kd f (.slice fo f.runs.length fc) (.slice io f.items.length ic) on kp tn) 85):=⟨_,rfl⟩;have kW:Xy No w W:=by rw[hW];exact(Xy.refl _ _).alloc _
 have hA:W.heap[w.heap.size]?=AF (.cells (Ty kd f (.slice fo f.runs.length fc) (.slice io f.items.length ic) on kp tn) 85 (0,0)):=by rw[hW];exact Qy _ _
 have c:=λi=>Qq hA i;have c0:=c 0;have c1:=c 1;have c2:=c 2;have c3:=c 3;have c4:=c 4;have c5:=c 5;have c6:=c 6;have c7:=c 7;have c8:=c 8;have c9:=c 9;have aL:=c 10;have aM:=c 11;have aN:=c 12;simp[Ty]at c0 c1 c2 c3 c4 c5 c6 c7 c8 c9 aL aM aN;have p0:=kW.cell (Qq h.blk 0) id;have p1:=kW.cell (Qq h.blk 1) id;simp at p0 p1;have r0:=(h.rcv.no kW).led;obtain⟨g,aT,aQ⟩:=h.logOf;have ad:=Rl (h.rcv.no kW);have E:=h.outF;have af:∀b,Mz R X F G b->¬b=w.heap.size:=λb I e=>by
  rcases I with(I|I)|(I|I)
  ·have:=(h.led.foot b I).2.1;omega
  ·have:=Qt h.rcv.blk;omega
  ·have:=(h.dcl.foot b I).2.1;omega
  ·have:=Qt h.rdv.blk;omega
 have aF:=λ(Y:AC) (k:Xy No w0 Y)=>Ay (base:=base) f (hv.no k) (hi.no k) (BF I k.size) (BF hT k.size);have h6:kd%6=0\/kd%6=1\/kd%6=2:=by omega
 have hm:Int.tmod (kd:Int) 6=((kd%6:Nat):Int):=rfl;have aj:¬(kd:Int)%6=3:=by omega
 have ak:¬(kd:Int)%6=4:=by omega
 have al:¬(kd:Int)%6=5:=by omega
 have d:=BX (A12 (h.no kW) kW (k0.then kW) aO I hT aF aZ ab E af aS);have HL:=BX (A3 (λw1 k=>aT w1 (kW.then k)) (λw1 k=>aQ w1 (kW.then k)) ad);clear h ok hj k0 aO I hT hv aY hi hk c hA kW aF aZ ab E af aT aQ ad h6 hm aS;unfold Ty at hW⊢;go_enter Tryz.func35,Tryz.ntmps35;go_upto_region 1 with fail;rw[<- hW];clear hW;go_upto_region 18 with(first
  | (go_at_call 34;refine HL.out.2.2.mono ?_;rintro e w1 ⟨rfl,N⟩;have N:=N.symm;subst N)
  | (go_at_call 16;refine(HL.out.1 _ (Xy.refl _ _)).mono ?_;rintro e w1 ⟨rfl,N⟩;have N:=N.symm;subst N)
  | (go_at_call 17;refine(HL.out.2.1 _ (Xy.refl _ _)).mono ?_;rintro e w1 ⟨rfl,N⟩;have N:=N.symm;subst N))
 obtain⟨rn,ae⟩:∃rn,rn=(f.runs.take 40).length:=⟨_,rfl⟩;obtain⟨aI,aG⟩:∃aI,aI=(My f.items).length:=⟨_,rfl⟩;have L:=BX (A2 ae aG);clear ae aG;clear r0 HL c0 aL aM aN aj ak al;have aB:Xy No W W.drew:=(Xy.refl _ _).drew;have aH:base<=W.heap.size:=BF d.out.qe d.out.2.2.1.size;have aP:ban.top<=W.heap.size:=BF d.out.qf d.out.2.2.1.size;refine Ql (λw'=>Xy (Mz R X F G) W w') [0,1,2,3,4,5,8,9,10,11,12,13] [6,7,14,15,16,17,18] [] (by kernel_rfl) (by kernel_rfl) (λ_ _ _ _ _ h=>h) aB.no ?_;iterate 4(refine Qk (v:=?_) rfl rfl rfl ?_ ?_;rotate_left;focus(
  intro w' m;have g0:=m.cell p0 (λe=>Nr d.out.qj e);go_simp
  try with_reducible rfl))
 iterate 2(refine Qk (v:=?_) rfl rfl rfl ?_ ?_;rotate_left;focus(
  intro w' m;have g0:=m.cell c1 (λe=>d.out.qk _ e rfl);have g1:=m.cell c2 (λe=>d.out.qk _ e rfl);have g2:=m.cell c3 (λe=>d.out.qk _ e rfl);have g3:=m.cell c4 (λe=>d.out.qk _ e rfl);have g4:=m.cell c5 (λe=>d.out.qk _ e rfl);have g5:=m.cell c6 (λe=>d.out.qk _ e rfl);have g6:=m.cell c7 (λe=>d.out.qk _ e rfl);have g7:=m.cell c8 (λe=>d.out.qk _ e rfl);have g8:=m.cell c9 (λe=>d.out.qk _ e rfl);go_simp
  try with_reducible rfl))
 iterate 4(refine Qk (v:=?_) rfl rfl rfl ?_ ?_;rotate_left;focus(
  intro w' m;have g0:=m.cell p1 (λe=>Nr d.out.qj e);go_simp
  try with_reducible rfl))
 iterate 2(refine Qk (v:=?_) rfl rfl rfl ?_ ?_;rotate_left;focus(
  intro w' m;have g0:=m.cell c1 (λe=>d.out.qk _ e rfl);have g1:=m.cell c2 (λe=>d.out.qk _ e rfl);have g2:=m.cell c3 (λe=>d.out.qk _ e rfl);have g3:=m.cell c4 (λe=>d.out.qk _ e rfl);have g4:=m.cell c5 (λe=>d.out.qk _ e rfl);have g5:=m.cell c6 (λe=>d.out.qk _ e rfl);have g6:=m.cell c7 (λe=>d.out.qk _ e rfl);have g7:=m.cell c8 (λe=>d.out.qk _ e rfl);have g8:=m.cell c9 (λe=>d.out.qk _ e rfl);go_simp
  try with_reducible rfl))
 refine Qj (Qx rfl rfl (λK n=>?_));go_simp;have A:=d.out.qg W.drew (d.out.2.2.1.then aB);unfold Vy.cells at A;dsimp only[Cq]at A;refine A.mono ?_;rintro e w2⟨aq,ag,rfl,U,O,k2⟩;clear A;have C:Xy No W w2:=aB.then k2;refine n _ _ C.no ?_;clear n K;have h7:=d.out.qh w2 aq ag (d.out.2.1.then C) U (show Xr base w2 w0.heap.size ag (My f.items)from Xr.mono O (BF d.out.2.2.1.size aB.size)) (BF aH C.size) (BF aP C.size);obtain⟨bB,az,H,_,_⟩:=U.form;obtain⟨aw,au,D,_,_⟩:=O.form;rw[<- L.out.1]at H;rw[<- L.out.2]at D;subst H D;unfold Vy.cells at h7;dsimp only[Cq]at h7;refine Qx rfl rfl (λK n=>?_);go_simp;refine h7.mono ?_;rintro z w3⟨rfl,aU⟩;obtain⟨F3,h3,k3,aW⟩:=(d.out.1.no C).ledStep aU;have aJ:Xy (Mz R X F G) W w3:=C.no.trans k3 (λb _ e=>.inl e);refine n _ _ aJ ?_;clear n K h7 aU U O;have aK:Xy No w0 w3:=(d.out.2.2.1.then C).absorb k3 (λb e=>d.out.qd b (.inl e));refine Qx rfl rfl (λK n=>?_);go_simp;have A:=d.out.qg w3 aK;unfold Vy.cells at A;dsimp only[Cq]at A;refine A.mono ?_;rintro e w4⟨bD,ay,rfl,V,Q,k4⟩;clear A;have aE:=aJ.then k4;refine n _ _ aE ?_;clear n K;have J:=Lj (base:=base) (B:=w3.heap.size) (w:=w4) (Cq f) d.out.rl V (by show(f.runs.take 40).length<=_;rw[E9];omega) Q (by have:=Tf f.items;show(My f.items).length<=_;omega) (BF aH aE.size);obtain⟨bC,bA,H,_,_⟩:=V.form;obtain⟨ax,av,D,_,_⟩:=Q.form;rw[<- L.out.1]at H;rw[<- L.out.2]at D;subst H D;unfold Vy.cells Vy.dcells at J;dsimp only[Cq]at J;refine Qx rfl rfl (λK n=>?_);go_simp;refine J.mono ?_;rintro z w5⟨ai,ah,rfl,Z,T,k5⟩;have M:=aE.then k5;refine n _ _ M ?_;clear n K J V Q;have h5:=h3.no (k4.then k5);have aD:=d.out.qi w5 F3 ai ah h5 (Z.mono (aK.then k4).size) T (BF aH M.size) (BF aP M.size);obtain⟨ap,ao,H,_,_⟩:=Z.form;obtain⟨an,am,D,_,_⟩:=Us.form T;have ac:ai=.slice ap rn ao:=by rw[H,L.out.1]
 have aR:ah=.slice an aI am:=by rw[D,L.out.2]
 clear H D;subst ac aR;unfold Vy.dcells at aD;dsimp only[Cq]at aD;refine Qx rfl rfl (λK n=>?_);go_simp;refine aD.mono ?_;rintro z w6⟨rfl,aV⟩;obtain⟨G6,h6,k6,aX⟩:=h5.docStep aV;have aA:Xy (Mz R X F G) W w6:=M.trans k6 (λb _ e=>.inr e);refine n _ _ aA ?_;clear n K aD aV Z T;have ar:=VO aC;refine Qx rfl rfl (λK n=>?_);go_simp;refine n _ _ aA ?_;clear n K;refine Qx rfl rfl (λK n=>?_);go_simp;refine n _ _ aA ?_;clear n K;have HZ:=BX (A4 h6 aA (show ∀b,F3 b->F b\/w.heap.size<=b from λb I=>(aW b I).imp id (λe=>BF (d.out.2.1.then C).size e)) (show ∀b,G6 b->G b\/w.heap.size<=b from λb I=>(aX b I).imp id (λe=>BF (d.out.2.1.size) (BF M.size e))));clear h3 h5 h6 k3 k4 k5 k6 aJ aE M aA aW aX aK C k2 aB;refine Qh (Qm ?_);show AX _ _ _ [] _ _;go_simp;go_wp2_with fail;go_ret;exact⟨rfl,F3,G6,HZ.out.1,d.out.2.1.no.trans HZ.out.2.1 (λ_ _ e=>e),HZ.out.qc,HZ.out.2.2.2⟩
end
section
variable [bn:Ib]{base:Nat}{w0 w w':AC}{P R X q p r xq width j:Nat}{size:Int}{S S' Sd Sd':S16}{o o' od od':List Nat}{F G:Nat->Prop}
theorem GO(h:Q17 base w P R X q p r xq width size S o S o F G)(ok:Ue width j S)(hj:j<=450)(I:Nj S.L o)(A:base<=w.heap.size)(Z:ban.top<=w.heap.size)(f:Vy)(Q fi:AM)(kd:Nat)(hk:kd%6=3)(on:Bool)(kp U:Int) :
  ∃l S',Nu S o l S'/\Ue width j S'/\DJ Tryz.prog 35 #[.pointer (AF ⟨P,0,AI⟩),.agg (Ty kd f Q fi on kp U)] w λz w'=>z=.returned (.bool true)/\QC base w P R X q p r xq width size S' (BT 16 0) F G w':=by
 obtain⟨W,B⟩:∃W,W=w.alloc (.cells (Ty kd f Q fi on kp U) 85):=⟨_,rfl⟩;have i:Xy No w W:=by rw[B];exact(Xy.refl _ _).alloc _
 have Y:W.heap[w.heap.size]?=AF (.cells (Ty kd f Q fi on kp U) 85 (0,0)):=by rw[B];exact Qy _ _
 obtain⟨l,S',M,N,K⟩:=VH (h.no i) ok hj I (BF A i.size) (BF Z i.size);refine⟨l,S',M,N,?_⟩;have c0:=(Qq Y 0);simp[Ty]at c0;have p0:=i.cell (Qq h.blk 0) id;simp at p0;have r0:=(h.rcv.no i).led;obtain⟨g,D,C⟩:=h.logOf;have J:=Rl (h.rcv.no i);have aA:(kd:Int)%6=3:=by omega
 have n:=BX (A5 (λm k=>D m (i.then k)) (λm k=>C m (i.then k)) J K i);clear h ok hj I A Z hk Y i M N K D C J;unfold Ty at B⊢;go_enter Tryz.func35,Tryz.ntmps35;go_upto_region 1 with fail;rw[<- B];clear B;go_wp2_with(first
  | (go_at_call 36;refine n.out.2.2.2.1.mono ?_;rintro e m ⟨v,F1,G1,rfl,T,V,k1,E,H⟩;have O:=BX (A4 V k1 E H);clear T V k1 E H)
  | (go_at_call 34;refine n.out.2.2.1.mono ?_;rintro e m ⟨rfl,d⟩;have d:=d.symm;subst d)
  | (go_at_call 16;refine(n.out.1 _ (Xy.refl _ _)).mono ?_;rintro e m ⟨rfl,d⟩;have d:=d.symm;subst d)
  | (go_at_call 17;refine(n.out.2.1 _ (Xy.refl _ _)).mono ?_;rintro e m ⟨rfl,d⟩;have d:=d.symm;subst d))
 go_ret;have hs:=n.out.2.2.2.2.size;exact⟨rfl,F1,G1,O.out.1,n.out.2.2.2.2.no.trans O.out.2.1 (λ_ _ e=>e),λb A=>(O.out.qc b A).imp id (λe=>BF hs e),λb A=>(O.out.2.2.2 b A).imp id (λe=>BF hs e)⟩
end
end Go.Proofs.YtfdmbomlkpkegaaGreat
