/- Lemmas. -/
import Derived.Test.YtfdmbomlkpkegaaGreatS27
import Derived.Test.YtfdmbomlkpkegaaGreatS28
import Derived.Test.YtfdmbomlkpkegaaGreatS11
set_option maxRecDepth 100000
set_option maxHeartbeats 8000000
set_option linter.all false
set_option autoImplicit true
set_option relaxedAutoImplicit true
open Bool renaming eq_false_iff->PN
open Go renaming Calls->DJ,Value->AM,World->AC,bodyPost_ret->FC,results->FD
open Go.IntKind renaming wrap_i64->PO,wrap_u64->F0
open Go.Lib renaming hid->BX
open Go.Result renaming andThen->BS
open Go.RowKit renaming intOf->C0
open Go.Value renaming ownBlock->DK
open Go.Value.slice renaming injEq->DB
open Go.World renaming size_alloc->FE
open List renaming drop_length->LZ,drop_zero->PP,filter_append->PM,filter_cons->PK,getElem?_cons_succ->OK,getElem?_eq_getElem->BY,getElem?_map->CK,length_append->BO,length_cons->AT,length_filter_le->PL,take_length->BZ,take_succ_eq_append_getElem->BM
open Nat renaming le_refl->BE,le_trans->BF,zero_le->BW
open Option renaming none->AI,some->AF
open UInt8 renaming ofNat->D7
namespace Go.Proofs.YtfdmbomlkpkegaaGreat
open Go Go.RowKit Go.Dr Go.Shelf
section
variable [bn:Ib]{base:Nat}{w:AC}{q p width k0:Nat}{size:Int}{ts:List Ji}{d:Qr}{L:Xs}{F:Nat->Prop}
end
section
variable [bn:Ib]{w0 wr w':AC}{P q p r width B j j':Nat}{size:Int}{ts:List Ji}{d:Qr}{L:Xs}{F:Nat->Prop}{f:Int->Nat}{sk:Nat->Nat}
end
theorem Uo.us(h:Uo w B v l):S4 w v l:=by obtain⟨ao,cap,rfl,_,_⟩:=h.form;refine⟨ao,cap,rfl,λn=>?_⟩;have o:=List.length_pos_iff.2 n;have c:=λ(k x:Nat) (i:l[k]?=AF x)=>Gy h (j:=k) (x:=Mh x) (by rw[CK,i];rfl) (by simp);obtain⟨g,rfl,_⟩:=c 0 l[0] (BY o);refine⟨g,0,rfl,λk x i=>?_⟩;obtain⟨_,e,m⟩:=c k x i;cases e;rw[Nat.zero_add];exact m
section
variable [bn:Ib]{w0 wr w':AC}{P1 q1 p1 r1 P2 q2 p2 r2 width:Nat}{size:Int}{ts1 ts2:List Ji}{d1 d2:Qr}{L1 L2 M:Xs}{F1 F2:Nat->Prop}{n1 n2 u1 u2 N:Nat}
end
section
variable [bn:Ib]{base:Nat}{w:AC}{q p width k0:Nat}{size:Int}{ts:List Ji}{d:Qr}{L:Xs}{F:Nat->Prop}
end
theorem Lc(O:o.guard=AI)(s x:Operand)(Y:o.op=.call {callee:=.builtin .append,args:=#[s,x],argTypes:=#[52,52]})(i:Uo w B v l)(n:Uo w B2 u m)(Z:a.eval s=v)(hx:a.eval x=u)(X:l.length+m.length<=1099511627776)(hb:B<=w.heap.size)(W:∀I w',Uo w' B I (l++m)->Xy (λb=>v.ownBlock=AF b) w w'->wpList Tryz.prog G Q rest (a.put o.dst I) w'):wpList Tryz.prog G Q (o::rest) a w:=by
 refine wpList_plain O λK D=>?_;obtain⟨i0,hi,T,U,V⟩:=info_parts Wt;have A:∀w',w.grownBy w' v.ownBlock->Xy (λb=>v.ownBlock=AF b) w w':=λw' O=>Jr O;have S:=n.us;obtain⟨aB,C⟩:=n;rcases C with⟨R,hn⟩|⟨g,cap,aA,R,_⟩
 ·have hm:m=[]:=List.eq_nil_of_length_eq_zero hn;subst hm;subst R;have k:=run_append_owned_none (P:=Tryz.prog) w B 52 o.type 27 i0 1 Tryz.underlying52 hi v l.length (l.map Mh) i;unfold Oper.wp;simp[execOp,Y,resolve,invoke,builtin,Z,hx,k,BS];exact D _ _ (W v w (by simpa using i) (Xy.refl _ _))
 ·subst R;obtain⟨I,w',k,h1,h2,_⟩:=run_append_own (P:=Tryz.prog) w B 52 o.type 27 i0 (.int .u64 0) 1 8 Tryz.underlying52 hi T U V rfl (by decide) v l.length (l.map Mh) i
   ⟨g,0,AI⟩ m.length cap (m.map Mh) (by simp) (λj y H=>by
    rw[CK]at H;cases h:m[j]? with
    | none=>simp[h]at H
    | some z =>
     simp[h]at H;subst H;obtain⟨_,_,he,J⟩:=S;obtain⟨g1,o1,e1,J⟩:=J (λe=>by rw[e]at h;simp at h);cases he;cases e1;have E:(⟨g,0,AI⟩:Addr).add j=⟨g,0+j,AI⟩:=by unfold Addr.add;split<;>simp_all
     rw[E]
     exact J j z h) (λy hy=>by obtain⟨z,_,rfl⟩:=List.mem_map.1 hy;rfl) (by unfold maxLen;omega) (by omega) hb
  unfold Oper.wp;simp[execOp,Y,resolve,invoke,builtin,Z,hx,k,BS];exact D _ _ (W I w' (by unfold Uo;rw[BO,List.map_append];exact h1) (A _ h2))
theorem Uo.lower(h:Uo w B v l):Uo w 0 v l:=by
 obtain⟨o,k⟩:=h;refine⟨o,?_⟩;rcases k with k|⟨g,cap,i,m,z,n⟩
 ·exact .inl k
 ·exact .inr ⟨g,cap,i,m,BW _,n⟩
theorem Uo.from'(h:Uo w B v l)(A:B'<=B):Uo w B' v l:=by
 obtain⟨z,k⟩:=h;refine⟨z,?_⟩;rcases k with k|⟨g,cap,i,m,n,o⟩
 ·exact .inl k
 ·exact .inr ⟨g,cap,i,m,BF A n,o⟩
theorem Uo.no(h:Uo w B v l)(k:Xy No w w'):Uo w' B v l:=h.keep k (λ_ _ e=>e)
theorem Hc{W:AC}{g:Nat}{n o z:AM}{t:TypeId}(h k m:AM)(A:W.heap[g]?=AF (.cells #[n,o,z] t (0,0))) :
  (((W.setCell ⟨g,0,AI⟩ h).setCell ⟨g,1,AI⟩ k).setCell ⟨g,2,AI⟩ m).heap[g]?=AF (.cells #[h,k,m] t (0,0))/\Xy (·=g) W (((W.setCell ⟨g,0,AI⟩ h).setCell ⟨g,1,AI⟩ k).setCell ⟨g,2,AI⟩ m) :=
 ⟨Qz (i:=2) (u:=m) (Qz (i:=1) (u:=k) (Qz (i:=0) (u:=h) A)),((Qd (g:=g) (i:=0) W h).setCell (p:=⟨g,1,AI⟩) (.inl rfl) k).setCell (p:=⟨g,2,AI⟩) (.inl rfl) m⟩
theorem QW(low width n:Nat)(h:Uo w 0 v l)(hl:l.length<=1048576) :
  DJ Tryz.prog 173 #[.agg #[.int .u64 low,.int .u64 width,v],.int .u64 n] w λe w'=>e=.returned (.bool (decide (n∈l) || decide (n<=low)))/\Xy No w w':=by
 obtain⟨ao,cap,rfl,_,_⟩:=h.form;have R:=h.nums;have aD:(l.length:Int)<=1048576:=by omega
 obtain⟨W,T⟩:∃W,W=w.alloc (.cells #[.int .u64 low,.int .u64 width,.slice ao l.length cap] 164):=⟨_,rfl⟩;have kW:Xy No w W:=by rw[T];exact(Xy.refl _ _).alloc _
 have Q:W.heap[w.heap.size]?=AF (.cells #[.int .u64 low,.int .u64 width,.slice ao l.length cap] 164 (0,0)):=by rw[T];exact Qy _ _
 have V:=Qq Q 0;have c1:=Qq Q 1;have c2:=Qq Q 2;simp at V c1 c2;obtain⟨S,I⟩:∃S,S=(decide (n∈l) || decide (n<=low)):=⟨_,rfl⟩;rw[<- I];have E:=BX (A4 (R.no kW) kW Q I);clear h R hl kW Q I;go_enter Tryz.func173,Tryz.ntmps173;go_upto_region 1 with fail;rw[<- T];clear T;go_wp2_with fail;go_loopw [10] (λK wr=>∃k:Nat,K=.int .i64 (k:Nat)/\k<=l.length/\n∉l.take k/\Xy No W wr) (λK _=>l.length-(C0 K).toNat);case atStart=>exact⟨0,rfl,BW _,by simp,Xy.refl _ _⟩
 case round =>
  obtain⟨k,rfl,U,H,C⟩:=hrel;by_cases m:k<l.length
  ·have O:l[k]?=AF l[k]:=BY m;have i:l.take (k+1)=l.take k++[l[k]]:=BM m;generalize l[k]=z at O i;obtain⟨aC,aB,e1,X⟩:=E.out.1;simp only[DB]at e1;obtain⟨rfl,_,rfl⟩:=e1;obtain⟨g,o,Z,Y⟩:=X (λe=>by subst e;simp at O);subst Z;have cz:=C.cell (Y k z O) id;have aA:(k:Int)<(l.length:Int):=by omega
   by_cases D:z=n
   ·have J:((z:Int)==(n:Int))=true:=by simp;omega
    obtain rfl:S=true:=by rw[E.out.2.2.2,decide_eq_true (show n∈l from D ▸ List.mem_of_getElem? O)];rfl
    have A:=BX C;clear C U H m O i Y X D;go_wp2_with fail;go_ret;exact⟨rfl,E.out.2.1.then A.out⟩
   ·have J:((z:Int)==(n:Int))=false:=by simp;omega
    have A:=BX (A3 C m (show n∉l.take (k+1)by rw[i];simp[H];omega));clear C U H m O i Y X D;go_wp2_with fail;go_roundw;case rel=>exact⟨k+1,by congr 1,by have:=A.out.2.1;omega,A.out.2.2,A.out.1⟩
    case measure=>have:=A.out.2.1;simp[C0];omega
  ·have G:k=l.length:=by omega
   have aA:¬(k:Int)<(l.length:Int):=by omega
   rw[G,BZ]at H;have V:=C.cell V id;have A:=BX C;by_cases D:n<=low
   ·have J:(n:Int)<=(low:Int):=by omega
    obtain rfl:S=true:=by rw[E.out.2.2.2,decide_eq_true D];simp
    clear C U H m G D;go_wp2_with fail;go_ret;exact⟨rfl,E.out.2.1.then A.out⟩
   ·have J:¬(n:Int)<=(low:Int):=by omega
    obtain rfl:S=false:=by rw[E.out.2.2.2,decide_eq_false D,decide_eq_false H];rfl
    clear C U H m G D;go_wp2_with fail;go_ret;exact⟨rfl,E.out.2.1.then A.out⟩
def Sj (w:AC)(b:Nat):Nat:=match w.cell? ⟨b,0,AI⟩with
 | some (.int .u64 z)=>z.toNat
 | _=>0
theorem Y4{l:List Nat}(h:a+1∈l):(l.filter (λn=>decide (a+1<n))).length<(l.filter (λn=>decide (a<n))).length:=by
 induction l with
 | nil=>simp at h
 | cons x l i =>
  have k:∀l:List Nat,(l.filter (λn=>decide (a+1<n))).length<=(l.filter (λn=>decide (a<n))).length:=λl=>by
   induction l with
   | nil=>simp
   | cons y l i =>
    rw[PK,PK];by_cases g:a+1<y
    ·rw[if_pos (by simpa using g),if_pos (by simp;omega)];simpa using i
    ·rw[if_neg (by simpa using g)]
     split
     ·simp;omega
     ·exact i
  rw[PK,PK];rcases List.mem_cons.1 h with rfl|h
  ·rw[if_neg (by simp),if_pos (by simp)];have:=k l;simp;omega
  ·have:=i h;by_cases g:a+1<x
   ·rw[if_pos (by simpa using g),if_pos (by simp;omega)];simpa using this
   ·rw[if_neg (by simpa using g)]
    split
    ·simp;omega
    ·exact this
theorem ZB(low width:Nat)(h:Uo w 0 v l)(hl:l.length<=1048576)(aC:low<4611686018427387904)(aN:∀n∈l,n<4611686018427387904) :
  DJ Tryz.prog 172 #[.agg #[.int .u64 low,.int .u64 width,v]] w λe w'=>∃(I:Nat) (v':AM),e=.returned (.agg #[.int .u64 I,.int .u64 width,v'])/\Uo w' w.heap.size v' (l.filter (λn=>decide (I<n))) /\
   low<=I/\(∀m,low<m->m<=I->m∈l)/\I+1∉l/\Xy No w w':=by
 obtain⟨ao,cap,rfl,_,_⟩:=h.form;have ad:(l.length:Int)<=1048576:=by omega
 obtain⟨W,hW⟩:∃W,W=(w.alloc (.cells #[.int .u64 low,.int .u64 width,.slice ao l.length cap] 164)).alloc (.cells #[.int .u64 0,.int .u64 0,.slice AI 0 0] 164):=⟨_,rfl⟩;have kW:Xy No w W:=by rw[hW];exact((Xy.refl _ _).alloc _).alloc _
 have hA:W.heap[w.heap.size]?=AF (.cells #[.int .u64 low,.int .u64 width,.slice ao l.length cap] 164 (0,0)):=by rw[hW];exact((Xy.refl No _).alloc _).heap (Qy _ _) id
 have hB:W.heap[w.heap.size+1]?=AF (.cells #[.int .u64 0,.int .u64 0,.slice AI 0 0] 164 (0,0)):=by rw[hW];have:=Qy (w.alloc (.cells #[.int .u64 low,.int .u64 width,.slice ao l.length cap] 164)) (.cells #[.int .u64 0,.int .u64 0,.slice AI 0 0] 164);rw[FE]at this;exact this
 obtain⟨A,aA⟩:∃A,A=w.heap.size:=⟨_,rfl⟩;obtain⟨B,X⟩:∃B,B=w.heap.size+1:=⟨_,rfl⟩;have aL:¬B=A:=by omega
 rw[<- X]at hB;rw[<- aA]at hA;have aI:∀b,(Value.slice ao l.length cap).ownBlock=AF b->¬b=A:=λb hb e=>by
  obtain⟨_,ac,J⟩:=h.kind b hb;have:=Qt J;omega
 have V:=BX (A10 (h.no kW) kW hA hB aI hl aC aN aA X);clear h hl kW hA hB aI aC aN;go_enter Tryz.func172,Tryz.ntmps172;go_upto_block 0 with fail;rw[<- hW,<- X];have aT:w.heap.size+1=B:=X.symm;rw[<- aA];clear hW X aA aT;go_wp2_with fail;go_loopw [10] (λ_ wr=>∃a:Nat,low<=a/\a<4611686018427387904/\(∀m,low<m->m<=a->m∈l)/\wr.heap[A]?=AF (.cells #[.int .u64 a,.int .u64 width,.slice ao l.length cap] 164 (0,0))/\Xy (·=A) W wr) (λ_ wr=>(l.filter (λn=>decide (Sj wr A<n))).length);case atStart=>exact⟨low,BE _,V.out.qg,λm h1 h2=>by omega,V.out.qc,Xy.refl _ _⟩
 case round =>
  obtain⟨a,aB,aM,T,J,kr⟩:=hrel;have U:=V.out.1.keep kr V.out.qe;have aX:IntKind.u64.wrap ((a:Int)+1)=((a+1:Nat):Int):=by rw[F0];omega
  have d0:=Qq J 0;have d1:=Qq J 1;have d2:=Qq J 2;have fz:=Qg J;simp at d0 d1 d2;have G:=QW a width (a+1) U V.out.qf;have aE:(decide (a+1∈l) || decide (a+1<=a))=decide (a+1∈l):=by rw[decide_eq_false (show ¬a+1<=a by omega),Bool.or_false]
  rw[aE]at G;by_cases hm:a+1∈l
  ·rw[decide_eq_true hm]at G;have aP:Sj wr A=a:=by unfold Sj;rw[d0];rfl
   have K:=BX (A7 aB (V.out.qh _ hm) (show ∀m,low<m->m<=a+1->m∈l from λm h1 h2=>by
    rcases Nat.lt_or_ge a m with h|h
    ·rw[show m=a+1 by omega];exact hm
    ·exact T m h1 h) J kr aP hm)
   clear aB aM T J kr U aE aP hm;go_wp2_with(go_at_call 173;refine G.mono ?_;rintro e w2 ⟨rfl,k2⟩;have H:=k2.heap K.out.qd id;have g0:=Qq H 0;have gf:=Qg H;simp at g0);have aR:=Qz (i:=0) (u:=.int .u64 ((a:Int)+1)) H;have S:Xy (·=A) w2 (w2.setCell ⟨A,0,AI⟩ (.int .u64 ((a:Int)+1))):=Qd _ _;go_roundw;case rel=>exact⟨a+1,by have:=K.out.1;omega,K.out.2.1,K.out.qc,by simpa using aR,(K.out.2.2.2.2.1.trans k2.no (λ_ _ e=>e)).trans S (λ_ _ e=>e)⟩
   case measure =>
    have e1:Sj (w2.setCell ⟨A,0,AI⟩ (.int .u64 ((a:Int)+1))) A=a+1:=by unfold Sj;have:=Qq aR 0;simp at this;rw[this];rfl
    rw[K.out.qf,e1];exact Y4 K.out.rg
  ·rw[decide_eq_false hm]at G;have K:=BX (A6 aB T J kr hm U);clear aB aM T J kr U aE hm;go_upto_region 3 with(go_at_call 173;refine G.mono ?_;rintro e w2 ⟨rfl,k2⟩);clear G d0 d1 d2 fz aX;have H:=k2.heap K.out.qc id;have aJ:=k2.heap (K.out.2.2.2.1.heap V.out.qd aL) id;have aS:Xy No w w2:=(V.out.2.1.absorb K.out.qd (λx e=>by have e:x=A:=e;have:=V.out.qi;omega)).then k2;have Y:=K.out.2.2.2.2.2.no k2;have d0:=Qq H 0;have d1:=Qq H 1;have d2:=Qq H 2;simp at d0 d1 d2;have HS:=BX (A4 H aJ aS Y);clear H aJ aS Y k2;go_wp2_with fail;go_loopw [3,18] (λv3 aH wr=>∃k:Nat,aH=.int .i64 (k:Nat)/\k<=l.length/\Uo wr w2.heap.size v3 ((l.take k).filter (λn=>decide (a<n)))/\Xy No w2 wr) (λ_ aH _=>l.length-(C0 aH).toNat);case atStart=>exact⟨0,rfl,BW _,Uo.nil _ _,Xy.refl _ _⟩
   case round =>
    obtain⟨k,rfl,hk,D,S⟩:=hrel;obtain⟨o3,c3,rfl,_,_⟩:=D.form;have d0:=S.cell d0 id;have d1:=S.cell d1 id;have d2:=S.cell d2 id;by_cases Q:k<l.length
    ·have hx:l[k]?=AF l[k]:=BY Q;have E:l.take (k+1)=l.take k++[l[k]]:=BM Q;generalize l[k]=z at hx E;obtain⟨ab,aZ,e1,e2⟩:=HS.out.2.2.2.nums;simp only[DB]at e1;obtain⟨rfl,_,rfl⟩:=e1;obtain⟨g,o,aU,hc⟩:=e2 (λe=>by subst e;simp at hx);subst aU;have cz:=S.cell (hc k z hx) id;have aV:(k:Int)<(l.length:Int):=by omega
     obtain⟨t,ht⟩:∃t,t=(l.take k).filter (λn=>decide (a<n)):=⟨_,rfl⟩;rw[<- ht]at D⊢;have aF:t.length<=1048576:=by rw[ht];have h1:=PL (λn=>decide (a<n)) (l.take k);have:=V.out.qf;rw[List.length_take]at h1;omega
     by_cases J:a<z
     ·have aY:(a:Int)<(z:Int):=by omega
      have hf:(l.take (k+1)).filter (λn=>decide (a<n))=t++[z]:=by rw[E,PM,<- ht];simp[J]
      have kA:=(Xy.refl No wr).alloc (.cells #[.int .u64 z] 27);have hZ:=Qy wr (.cells #[.int .u64 z] 27);have aQ:w2.heap.size<=(wr.alloc (.cells #[.int .u64 z] 27)).heap.size:=BF S.size kA.size;have C:=BX (A8 (D.no kA) (S.then kA) Q hf aF hZ aQ J);clear D S Q hf aF hZ aQ hx E hc e2 hk kA ht J;go_wp2_with(at_builtin;refine Np rfl _ _ rfl C.out.1 rfl C.out.qf rfl (by have:=C.out.qe;omega) C.out.qg ?_;intro ah ag w5 aW k5);go_roundw;case rel=>exact⟨k+1,by congr 1,by have:=C.out.qc;omega,by rw[C.out.qd];exact aW,C.out.2.1.absorb k5 (λx hx=>(C.out.1.kind x hx).1)⟩
      case measure=>have:=C.out.qc;simp[C0];omega
     ·have aY:¬(a:Int)<(z:Int):=by omega
      have hf:(l.take (k+1)).filter (λn=>decide (a<n))=t:=by rw[E,PM,<- ht];simp[J]
      have C:=BX (A4 D S Q hf);clear D S Q hf aF hx E hc e2 hk ht J;go_wp2_with fail;go_roundw;case rel=>exact⟨k+1,by congr 1,by have:=C.out.qc;omega,by rw[C.out.2.2.2];exact C.out.1,C.out.2.1⟩
      case measure=>have:=C.out.qc;simp[C0];omega
    ·have aO:k=l.length:=by omega
     have aV:¬(k:Int)<(l.length:Int):=by omega
     rw[aO,BZ]at D⊢;obtain⟨t,ht⟩:∃t,t=l.filter (λn=>decide (a<n)):=⟨_,rfl⟩;rw[<- ht]at D⊢;have aG:=S.heap HS.out.1 id;have aK:=S.heap HS.out.2.1 id;have f4:=Qg aG;have Z:=Qz (i:=2) (u:=.slice o3 t.length c3) aG;have k5:Xy (·=A) wr (wr.setCell ⟨A,2,AI⟩ (.slice o3 t.length c3)):=Qd _ _;have O:=k5.heap aK aL;have R:=D.keep k5 (λb hb e=>by have:=(D.kind b hb).1;have h2:=Qt HS.out.1;have e:b=A:=e;omega);obtain⟨W5,aD⟩:∃W5,W5=wr.setCell ⟨A,2,AI⟩ (.slice o3 t.length c3):=⟨_,rfl⟩;rw[<- aD]at Z k5 O R;have b0:=Qq Z 0;have b1:=Qq Z 1;have b2:=Qq Z 2;have q0:=Qq O 0;have q1:=Qq O 1;have q2:=Qq O 2;have fB:=Qg O;simp at b0 b1 b2 q0 q1 q2;have HF:=BX (A5 O R k5 S ht);clear aG aK Z k5 O R D S hk Q aO ht;go_upto_region 11 with fail;rw[<- aD];clear aD d0 d1 d2 f4;go_wp2_with fail;obtain⟨hZ,kZ⟩:=Hc (.int .u64 a) (.int .u64 width) (.slice o3 t.length c3) HF.out.1;have z0:=Qq hZ 0;have z1:=Qq hZ 1;have z2:=Qq hZ 2;simp at z0 z1 z2;refine FC (v:=.agg #[.int .u64 a,.int .u64 width,.slice o3 t.length c3]) (by simp[FD,Tryz.results172,go_sem,z0,z1,z2]) rfl ?_;refine⟨a,_,rfl,?_,K.out.1,K.out.2.1,K.out.qe,?_⟩
     ·rw[<- HF.out.re];exact(HF.out.2.1.keep kZ (λb hb e=>by have:=(HF.out.2.1.kind b hb).1;have h2:=Qt HS.out.2.1;have e:b=B:=e;omega)).from' HS.out.2.2.1.size
     ·have ae:=V.out.qi;have af:=V.out.rj;exact(((HS.out.2.2.1.then HF.out.qd).absorb HF.out.qc (λx e=>by have e:x=A:=e;omega)).absorb kZ (λx e=>by have e:x=B:=e;omega))
def Rq (w:AC)(v:AM)(x:Xn)(k:Nat):Prop:=∃l,Uo w 0 v l/\l.length<=k/\∀n,n∈l↔Ux x.set n
theorem Rq.no(h:Rq w v x k)(n:Xy No w w'):Rq w' v x k:=by obtain⟨l,g,i,m⟩:=h;exact⟨l,g.no n,i,m⟩
theorem Rq.block{w w':AC}{v:AM}{x:Xn}{k B:Nat}{cs:Array AM}{t:TypeId}{fr:Nat×Nat}(h:Rq w v x k)(C:w.heap[B]?=AF (.cells cs t fr))(A:t≠27)(D:Xy (·=B) w w'):Rq w' v x k:=by
 obtain⟨l,i,n,o⟩:=h;exact⟨l,i.keep D (λb z e=>by
  obtain⟨_,m,g⟩:=i.kind b z;have e:b=B:=e;rw[e,C]at g;simp at g
  exact A g.2.1),n,o⟩
theorem Rq.mono(h:Rq w v x k)(n:k<=k'):Rq w v x k':=by obtain⟨l,g,m,i⟩:=h;exact⟨l,g,by omega,i⟩
theorem Rq.form(h:Rq w v x k):∃ao n c,v=.slice ao n c:=by obtain⟨l,g,_⟩:=h;obtain⟨ao,cap,e,_⟩:=g.form;exact⟨ao,_,cap,e⟩
theorem Rq.nil(w:AC)(low width k:Nat):Rq w (.slice AI 0 0) ⟨low,width,[]⟩ k:=⟨[],Uo.nil _ _,BW _,λn=>⟨λh=>by simp at h,λh=>(Ux.nil _ h).elim⟩⟩
theorem V0{x:Xn}{l:List Nat}(D:Uk x.set)(C:∀r∈x.set,r.2<18446744073709551615)(k:∀n,n∈l↔Ux x.set n)(I:x.low<=a)(z:∀m,x.low<m->m<=a->m∈l)(A:a+1∉l) :
  x.closed.low=a/\∀n,n∈l.filter (λn=>decide (a<n))↔Ux x.closed.set n:=by
 obtain⟨E,i,o,G,H⟩:=Gw D C;have g:x.closed.low=a:=by
  rcases Nat.lt_trichotomy x.closed.low a with h|h|h
  ·exfalso;have:=z (x.closed.low+1) (by omega) (by omega);have:=(i (x.closed.low+1)).2 (.inr ((k _).1 this));rcases this with t|t
   ·omega
   ·have:=(o _ t).1;omega
  ·exact h
  ·exfalso;have:=(i (a+1)).1 (.inl (by omega));rcases this with t|t
   ·omega
   ·exact A ((k _).2 t)
 refine⟨g,λn=>?_⟩;rw[List.mem_filter,k,decide_eq_true_eq];constructor
 ·rintro⟨t1,J⟩;rcases(i n).2 (.inr t1)with t|t
  ·omega
  ·exact t
 ·intro t;have:=o n t;exact⟨this.2,by omega⟩
theorem Xn.Ok.closed_id{x:Xn}(h:x.Ok):x.closed=x:=by
 obtain⟨o,m,z,E,A⟩:=Gw h.set (λr D=>by have:=(h.above _ (h.set.last D)).2;omega);have g:x.closed.low=x.low:=by
  rcases A with e|e
  ·exact e
  ·exfalso;have C:=(h.above _ e).1;rcases(m (x.low+1)).1 (.inl (by omega))with t|t
   ·omega
   ·have:=(h.above _ t).1;omega
 have i:x.closed.set=x.set:=Uk.ext o h.set (λn=>⟨λt=>(z n t).2,λt=>by
  have C:=(h.above _ t).1;rcases(m n).2 (.inr t)with u|u
  ·omega
  ·exact u⟩)
 have k:x.closed.width=x.width:=rfl;generalize x.closed=y at g i k;cases x;cases y;simp only at g i k;rw[g,i,k]
theorem Le(h:Rq w v x k)(R:k<=1048576)(A:Uk x.set)(g:x.low<4611686018427387904)(m:∀n,Ux x.set n->n<4611686018427387904) :
  DJ Tryz.prog 172 #[.agg #[.int .u64 x.low,.int .u64 x.width,v]] w λe w'=>∃i:AM,e=.returned (.agg #[.int .u64 x.closed.low,.int .u64 x.width,i])/\Rq w' i x.closed k/\Xy No w w'/\∀b,i.ownBlock=AF b->w.heap.size<=b:=by
 obtain⟨l,C,D,o⟩:=h;refine(ZB x.low x.width C (by omega) g (λn E=>m n ((o n).1 E))).mono ?_;rintro e w'⟨a,i,rfl,z,H,I,J,Q⟩;obtain⟨K,O⟩:=V0 A (λr G=>by have:=m _ (A.last G);omega) o H I J;rw[K];exact⟨i,rfl,⟨_,z.lower,BF (PL _ _) D,O⟩,Q,λb m=>(z.kind b m).1⟩
theorem YI(h:Rq w v x k)(C:k<=1048576)(D:Uk x.set)(g:x.low<4611686018427387904)(A:∀n,Ux x.set n->n<4611686018427387904) :
  DJ Tryz.prog 172 #[.agg #[.int .u64 x.low,.int .u64 x.width,v]] w λe w'=>∃i:AM,e=.returned (.agg #[.int .u64 x.closed.low,.int .u64 x.width,i])/\Rq w' i x.closed k/\Xy No w w' :=
 (Le h C D g A).mono (λe w' ⟨i,m,o,z,_⟩=>⟨i,m,o,z⟩)
theorem Dh(h:Rq w v x k)(Z:k<=1048576)(K:x.Ok)(n:Nat) :
  DJ Tryz.prog 122 #[.agg #[.int .u64 x.low,.int .u64 x.width,v],.int .u64 n] w λe w'=>e=.returned (.bool (x.takes n))/\Xy No w w':=by
 obtain⟨l,O,Y,T⟩:=h;obtain⟨ao,cap,rfl,_,_⟩:=O.form;have E:=K.low;have I:=K.width;obtain⟨W,m⟩:∃W,W=w.alloc (.cells #[.int .u64 x.low,.int .u64 x.width,.slice ao l.length cap] 164):=⟨_,rfl⟩;have S:Xy No w W:=by rw[m];exact(Xy.refl _ _).alloc _
 have J:W.heap[w.heap.size]?=AF (.cells #[.int .u64 x.low,.int .u64 x.width,.slice ao l.length cap] 164 (0,0)):=by rw[m];exact Qy _ _
 have U:=Qq J 0;have V:=Qq J 1;have X:=Qq J 2;simp at U V X;have g:=QW x.low x.width n (O.no S) (by omega);have aA:IntKind.u64.wrap ((x.low:Int)+(x.width:Int))=(x.low:Int)+(x.width:Int):=by rw[F0];omega
 have H:=K.takes n;obtain⟨C,o⟩:∃C,C=(decide (n∈l) || decide (n<=x.low)):=⟨_,rfl⟩;have i:C=true↔x.Had n:=by rw[o];simp only[Bool.or_eq_true,decide_eq_true_eq];unfold Xn.Had;rw[T n];exact or_comm
 rw[<- o]at g;clear J O Y T K Z E I o;have z:=BX (A2 S H);clear S H;by_cases G:n<=x.low+x.width
 ·have Q:(n:Int)<=(x.low:Int)+(x.width:Int):=by omega
  by_cases A:x.Had n
  ·have e:x.takes n=false:=by rw[PN];exact λD=>(z.out.2.1 D).1 A
   rw[e];obtain rfl:C=true:=i.2 A;clear A G e i;go_enter Tryz.func122,Tryz.ntmps122;go_upto_region 1 with fail;rw[<- m];clear m;go_wp2_with(go_at_call 173;refine g.mono ?_;rintro e w2 ⟨rfl,R⟩);go_ret;exact⟨rfl,z.out.1.then R⟩
  ·have e:x.takes n=true:=z.out.2.2 ⟨A,G⟩;rw[e];obtain rfl:C=false:=by rw[PN];exact λD=>A (i.1 D)
   clear A G e i;go_enter Tryz.func122,Tryz.ntmps122;go_upto_region 1 with fail;rw[<- m];clear m;go_wp2_with(go_at_call 173;refine g.mono ?_;rintro e w2 ⟨rfl,R⟩);go_ret;exact⟨rfl,z.out.1.then R⟩
 ·have Q:¬(n:Int)<=(x.low:Int)+(x.width:Int):=by omega
  have e:x.takes n=false:=by rw[PN];exact λD=>G (z.out.2.1 D).2
  rw[e];clear G e g i;go_enter Tryz.func122,Tryz.ntmps122;go_upto_region 1 with fail;rw[<- m];clear m;go_wp2_with fail;go_ret;exact⟨rfl,z.out.1⟩
theorem Aq(h:Rq w v x k)(hk:k<=1048576)(U:x.Ok)(b:Nat)(hb:b<=4611686018427387904) :
  DJ Tryz.prog 121 #[.agg #[.int .u64 x.low,.int .u64 x.width,v],.int .u64 b] w λe w'=>∃v':AM,e=.returned (.agg #[.int .u64 (x.skip b).low,.int .u64 x.width,v'])/\Rq w' v' (x.skip b) k/\Xy No w w':=by
 obtain⟨ao,n,cap,rfl⟩:=h.form;have E:=U.low;obtain⟨z,Y⟩:∃z:Xn,z=if b<=x.low+1 then x else⟨b-1,x.width,x.set⟩:=⟨_,rfl⟩
 have Z:z.closed=x.skip b:=by
  rw[Y];unfold Xn.skip
  split
  ·exact U.closed_id
  ·rfl
 have I:z.set=x.set:=by rw[Y];split<;>rfl
 have aC:z.width=x.width:=by rw[Y];split<;>rfl
 have C:z.low=if b<=x.low+1 then x.low else b-1:=by rw[Y];split<;>rfl
 have aB:z.low<4611686018427387904:=by rw[C];split<;>omega
 have aA:Rq w (.slice ao n cap) z k:=by obtain⟨l,e1,e2,e3⟩:=h;exact⟨l,e1,e2,by rw[I];exact e3⟩
 obtain⟨W,H⟩:∃W,W=(w.alloc (.cells #[.int .u64 z.low,.int .u64 x.width,.slice ao n cap] 164)).alloc (.cells #[.int .u64 0,.int .u64 0,.slice AI 0 0] 164):=⟨_,rfl⟩;have kW:Xy No w W:=by rw[H];exact((Xy.refl _ _).alloc _).alloc _
 have hA:W.heap[w.heap.size]?=AF (.cells #[.int .u64 z.low,.int .u64 x.width,.slice ao n cap] 164 (0,0)):=by rw[H];exact((Xy.refl No _).alloc _).heap (Qy _ _) id
 have hB:W.heap[w.heap.size+1]?=AF (.cells #[.int .u64 0,.int .u64 0,.slice AI 0 0] 164 (0,0)):=by rw[H];have:=Qy (w.alloc (.cells #[.int .u64 z.low,.int .u64 x.width,.slice ao n cap] 164)) (.cells #[.int .u64 0,.int .u64 0,.slice AI 0 0] 164);rw[FE]at this;exact this
 have o:=YI (aA.no kW) hk (by rw[I];exact U.set) aB (λm hm=>by rw[I]at hm;exact(U.above _ hm).2.2);rw[Z,aC]at o;have V:=BX (A2 kW hB);obtain⟨y,hy⟩:∃y,y=x.skip b:=⟨_,rfl⟩;rw[<- hy]at o⊢;generalize z.low=zl at C H o;clear hA hB kW h aA I aC Z aB hy Y;by_cases X:b<=x.low+1
 ·rw[if_pos X]at C;subst C;by_cases h0:0<b
  ·have q1:(0:Int)<(b:Int):=by omega
   have q2:IntKind.u64.wrap ((b:Int)-1)=((b-1:Nat):Int):=by rw[F0];omega
   have q3:¬(x.low:Int)<((b-1:Nat):Int):=by omega
   clear X h0 hb U E;go_enter Tryz.func121,Tryz.ntmps121;go_wp2_with fail;rw[<- H];clear H;refine o.mono ?_;rintro e w4⟨v4,rfl,i,G⟩;clear o;obtain⟨O,K,Q,rfl⟩:=i.form;have g:=G.heap V.out.2 id;have q0:=Qq g 0;have q1:=Qq g 1;have q2:=Qq g 2;have fB:=Qg g;simp at q0 q1 q2;have A:=BX (A3 G g i);clear g G i;go_wp2_with fail;obtain⟨D,J⟩:=Hc (.int .u64 y.low) (.int .u64 x.width) (.slice O K Q) A.out.2.1;have R:=Qq D 0;have S:=Qq D 1;have T:=Qq D 2;simp at R S T;refine FC (v:=.agg #[.int .u64 y.low,.int .u64 x.width,.slice O K Q]) (by simp[FD,Tryz.results121,go_sem,R,S,T]) rfl ?_;exact⟨_,rfl,A.out.2.2.block A.out.2.1 (by decide) J,(V.out.1.then A.out.1).absorb J (λc e=>by have e:c=w.heap.size+1:=e;omega)⟩
  ·have q1:¬(0:Int)<(b:Int):=by omega
   clear X h0 hb U E;go_enter Tryz.func121,Tryz.ntmps121;go_wp2_with fail;rw[<- H];clear H;refine o.mono ?_;rintro e w4⟨v4,rfl,i,G⟩;clear o;obtain⟨O,K,Q,rfl⟩:=i.form;have g:=G.heap V.out.2 id;have q0:=Qq g 0;have q1:=Qq g 1;have q2:=Qq g 2;have fB:=Qg g;simp at q0 q1 q2;have A:=BX (A3 G g i);clear g G i;go_wp2_with fail;obtain⟨D,J⟩:=Hc (.int .u64 y.low) (.int .u64 x.width) (.slice O K Q) A.out.2.1;have R:=Qq D 0;have S:=Qq D 1;have T:=Qq D 2;simp at R S T;refine FC (v:=.agg #[.int .u64 y.low,.int .u64 x.width,.slice O K Q]) (by simp[FD,Tryz.results121,go_sem,R,S,T]) rfl ?_;exact⟨_,rfl,A.out.2.2.block A.out.2.1 (by decide) J,(V.out.1.then A.out.1).absorb J (λc e=>by have e:c=w.heap.size+1:=e;omega)⟩
 ·rw[if_neg X]at C;have q1:(0:Int)<(b:Int):=by omega
  have q2:IntKind.u64.wrap ((b:Int)-1)=(zl:Int):=by rw[F0];omega
  have q3:(x.low:Int)<(zl:Int):=by omega
  clear X C hb U E;go_enter Tryz.func121,Tryz.ntmps121;go_wp2_with fail;rw[<- H];clear H;refine o.mono ?_;rintro e w4⟨v4,rfl,i,G⟩;clear o;obtain⟨O,K,Q,rfl⟩:=i.form;have g:=G.heap V.out.2 id;have q0:=Qq g 0;have q1:=Qq g 1;have q2:=Qq g 2;have fB:=Qg g;simp at q0 q1 q2;have A:=BX (A3 G g i);clear g G i;go_wp2_with fail;obtain⟨D,J⟩:=Hc (.int .u64 y.low) (.int .u64 x.width) (.slice O K Q) A.out.2.1;have R:=Qq D 0;have S:=Qq D 1;have T:=Qq D 2;simp at R S T;refine FC (v:=.agg #[.int .u64 y.low,.int .u64 x.width,.slice O K Q]) (by simp[FD,Tryz.results121,go_sem,R,S,T]) rfl ?_;exact⟨_,rfl,A.out.2.2.block A.out.2.1 (by decide) J,(V.out.1.then A.out.1).absorb J (λc e=>by have e:c=w.heap.size+1:=e;omega)⟩
theorem tkn{x:Xn}(h:x.Ok)(g:x.takes n=true)(z:n<4611686018427387904):Uk (Yq x.set n n)/\(∀k,Ux (Yq x.set n n) k↔Ux x.set k\/k=n)/\(∀k,Ux (Yq x.set n n) k->k<4611686018427387904)/\(⟨x.low,x.width,Yq x.set n n⟩:Xn).closed=x.put n:=by
 obtain⟨t1,C⟩:=(h.takes n).1 g;have A:=h.width;have o:=h.low;obtain⟨s1,i⟩:=Oc (f:=n) (t:=n) h.set (by omega);refine⟨s1,λk=>?_,λk m=>?_,?_⟩
 ·rw[i];constructor
  ·rintro(a|a)
   ·exact .inl a
   ·exact .inr (by omega)
  ·rintro(a|a)
   ·exact .inl a
   ·exact .inr (by omega)
 ·rcases(i k).1 m with a|a
  ·have:=h.above k a;omega
  ·omega
 ·unfold Xn.put;rw[if_pos g]
theorem Bi(h:Rq w v x k)(hk:k<=1048570)(hx:x.Ok)(n:Nat)(hn:n<4611686018427387904)(ht:x.takes n=true) :
  DJ Tryz.prog 123 #[.agg #[.int .u64 x.low,.int .u64 x.width,v],.int .u64 n] w λe w'=>∃v':AM,e=.returned (.agg #[.int .u64 (x.put n).low,.int .u64 x.width,v'])/\Rq w' v' (x.put n) (k+1)/\Xy No w w'/\∀b,v'.ownBlock=AF b->w.heap.size<=b:=by
 obtain⟨l,O,T,h3⟩:=h;obtain⟨ao,cap,rfl,_,_⟩:=O.form;have S:=hx.low;obtain⟨W,hW⟩:∃W,W=(w.alloc (.cells #[.int .u64 x.low,.int .u64 x.width,.slice ao l.length cap] 164)).alloc (.cells #[.int .u64 0,.int .u64 0,.slice AI 0 0] 164):=⟨_,rfl⟩;have kW:Xy No w W:=by rw[hW];exact((Xy.refl _ _).alloc _).alloc _
 have hA:W.heap[w.heap.size]?=AF (.cells #[.int .u64 x.low,.int .u64 x.width,.slice ao l.length cap] 164 (0,0)):=by rw[hW];exact((Xy.refl No _).alloc _).heap (Qy _ _) id
 have hB:W.heap[w.heap.size+1]?=AF (.cells #[.int .u64 0,.int .u64 0,.slice AI 0 0] 164 (0,0)):=by rw[hW];have:=Qy (w.alloc (.cells #[.int .u64 x.low,.int .u64 x.width,.slice ao l.length cap] 164)) (.cells #[.int .u64 0,.int .u64 0,.slice AI 0 0] 164);rw[FE]at this;exact this
 obtain⟨p1,p2,p3,p4⟩:=tkn hx ht hn;have aA:=Dh (w:=W) ⟨l,O.no kW,T,h3⟩ (by omega) hx n;rw[ht]at aA;have c0:=Qq hA 0;have c1:=Qq hA 1;have c2:=Qq hA 2;simp at c0 c1 c2;have C:=BX (A11 kW hB hA O T h3 p1 p2 p3 S hk);clear hA hB kW O T h3 p1 p2 p3 S hx ht hn;obtain⟨y,hy⟩:∃y,y=x.put n:=⟨_,rfl⟩;rw[<- hy]at p4⊢;have HY:=BX p4;clear hy p4;go_enter Tryz.func123,Tryz.ntmps123;go_upto_region 1 with fail;rw[<- hW];clear hW;go_upto_region 3 with(go_at_call 122;refine aA.mono ?_;rintro e g ⟨rfl,k2⟩);clear aA;have D:=k2.heap C.out.qc id;have U:=k2.heap C.out.2.1 id;have aH:=(C.out.2.2.2.1.no C.out.1).no k2;have aL:=C.out.1.then k2;have c0:=Qq D 0;have c1:=Qq D 1;have c2:=Qq D 2;simp at c0 c1 c2;have kA:Xy No g (g.alloc (.cells #[] 27)):=(Xy.refl _ _).alloc _;have hE:Uo (g.alloc (.cells #[] 27)) g.heap.size (.slice (AF ⟨g.heap.size,0,AI⟩) 0 0) []:=⟨rfl,.inr ⟨g.heap.size,0,#[],rfl,BE _,Qy _ _,BE _,by decide,rfl,rfl⟩⟩;have aN:=λo=>((Xy.refl No g).alloc o).cell c0 id;have aO:=λo=>((Xy.refl No g).alloc o).cell c1 id;have aP:=λo=>((Xy.refl No g).alloc o).cell c2 id;have Q:=Qt D;have R:=Qt U;have G:=BX (A8 hE (aH.no kA) kA.size (kA.heap D id) (kA.heap U id) aL Q R);clear hE D U aH aL k2 kA c0 c1 c2 Q R;go_upto_region 4 with(first
  | (at_builtin;refine Np rfl _ _ rfl (A.no ((Xy.refl No w4).alloc _)) rfl (Qy w4 (.cells #[.int .u64 n] 27)) rfl (by have:=C.out.qe;omega) aJ ?_;intro J I w5 Z k5;have z:=k5.heap (((Xy.refl No w4).alloc (.cells #[.int .u64 n] 27)).heap aC id) (λe=>by have O:=(A.kind _ e).1;have T:=G.out.qg;omega);have g2:=Qq z 2;have g0:=Qq z 0;have g1:=Qq z 1;have gf:=Qg z;simp at g0 g1 g2)
  | (at_builtin;refine Lc rfl _ _ rfl G.out.1 G.out.2.1 rfl rfl (by have:=C.out.qe;simp;omega) G.out.qc ?_;intro v4 w4 A k4;rw[List.nil_append]at A;obtain⟨o4,c4,rfl,_,_⟩:=A.form;have aJ:g.heap.size<=(w4.alloc (.cells #[.int .u64 n] 27)).heap.size:=BF G.out.qc (BF k4.size ((Xy.refl No w4).alloc _).size));have aC:=k4.heap G.out.qd (λe=>by have e:g.heap.size=w.heap.size:=(by simpa[DK]using e);have T:=G.out.qg;omega))
 have aD:=k4.heap G.out.qe (λe=>by
  have e:g.heap.size=w.heap.size+1:=by simpa[DK]using e
  have T:=G.out.rh
  omega)
 have aE:=k5.heap (((Xy.refl No w4).alloc (.cells #[.int .u64 n] 27)).heap aD id) (λe=>by have O:=(A.kind _ e).1;have T:=G.out.rh;omega);have aK:Xy No g w5:=by
  have O:Xy No g w4:=((Xy.refl No g).alloc (.cells #[] 27)).absorb k4 (λb e=>by
   have e:g.heap.size=b:=by simpa[DK]using e
   omega)
  exact(O.alloc (.cells #[.int .u64 n] 27)).absorb k5 (λb e=>(A.kind b e).1)
 have aQ:w.heap.size<g.heap.size:=G.out.qg;have aM:Xy No w w5:=G.out.2.2.2.2.2.1.then aK;have H:=Qz (i:=2) (u:=.slice J (l.length+1) I) z;have k6:Xy (·=w.heap.size) w5 (w5.setCell ⟨w.heap.size,2,AI⟩ (.slice J (l.length+1) I)):=Qd _ _;have V:=k6.heap aE (λe=>by have e:w.heap.size+1=w.heap.size:=e;omega);have aI:=Z.lower.keep k6 (λb hb e=>by
  obtain⟨_,aR,hz⟩:=Z.kind b hb;have e:b=w.heap.size:=e;rw[e,z]at hz
  simp at hz)
 have aB:=aM.absorb k6 (λb e=>by have e:b=w.heap.size:=e;omega);have aF:Rq (w5.setCell ⟨w.heap.size,2,AI⟩ (.slice J (l.length+1) I)) (.slice J (l.length+1) I) ⟨x.low,x.width,Yq x.set n n⟩ (k+1):=by refine⟨l++[n],aI,by have:=C.out.qe;simp;omega,λm=>?_⟩;rw[C.out.qh,<- C.out.qf];simp
 have K:=Le aF (by omega) C.out.qg C.out.qj C.out.qi;rw[HY.out]at K;obtain⟨W6,X⟩:∃W6,W6=w5.setCell ⟨w.heap.size,2,AI⟩ (.slice J (l.length+1) I):=⟨_,rfl⟩;rw[<- X]at K H V aB;have z0:=Qq H 0;have z1:=Qq H 1;have z2:=Qq H 2;simp at z0 z1 z2;have H6:=BX (A2 V aB);clear H V aB k6 aI aF aM aK aE aD aQ g0 g1 g2 gf aN aO aP z aC A k4 Z k5 aJ;rw[<- X];clear X;go_wp2_with fail;refine K.mono ?_;rintro e w7⟨v7,rfl,Y,k7,aG⟩;clear K z0 z1 z2;obtain⟨o7,n7,p7,rfl⟩:=Y.form;have E:=k7.heap H6.out.1 id;have q0:=Qq E 0;have q1:=Qq E 1;have q2:=Qq E 2;have fB:=Qg E;simp at q0 q1 q2;have H7:=BX (A4 (H6.out.2.then k7) E Y (λb hb=>BF H6.out.2.size (aG b hb)));clear E k7 Y aG;go_wp2_with fail;obtain⟨hZ,kZ⟩:=Hc (.int .u64 y.low) (.int .u64 x.width) (.slice o7 n7 p7) H7.out.2.1;have z0:=Qq hZ 0;have z1:=Qq hZ 1;have z2:=Qq hZ 2;simp at z0 z1 z2;refine FC (v:=.agg #[.int .u64 y.low,.int .u64 x.width,.slice o7 n7 p7]) (by simp[FD,Tryz.results123,go_sem,z0,z1,z2]) rfl ?_;exact⟨_,rfl,H7.out.2.2.1.block H7.out.2.1 (by decide) kZ,H7.out.1.absorb kZ (λc e=>by have e:c=w.heap.size+1:=e;omega),H7.out.2.2.2⟩
theorem GE(h:Rq w v x k)(z:k<=1048570)(D:x.Ok)(n:Nat)(A:n<4611686018427387904)(C:x.takes n=true) :
  DJ Tryz.prog 123 #[.agg #[.int .u64 x.low,.int .u64 x.width,v],.int .u64 n] w λe w'=>∃g:AM,e=.returned (.agg #[.int .u64 (x.put n).low,.int .u64 x.width,g])/\Rq w' g (x.put n) (k+1)/\Xy No w w' :=
 (Bi h z D n A C).mono (λe w' ⟨g,i,m,o,_⟩=>⟨g,i,m,o⟩)
def Mr:List UInt8->Nat
 | []=>0
 | b::l=>b.toNat%128+128*Mr l
structure MA (n:Nat)(l:List UInt8):Prop where
 pos:1<=l.length
 val:Mr l=n
 mid:∀(i:Nat) b,i+1<l.length->l[i]?=AF b->128<=b.toNat
 low:∀b,l[l.length-1]?=AF b->b.toNat<128
 nz:∀b,0<n->l[l.length-1]?=AF b->b.toNat≠0
theorem GG(n:Nat):MA n (numB n):=by
 induction n using Nat.strongRecOn with
 | ind n A =>
  by_cases z:n<128
  ·rw[Yb z];refine⟨by simp,by simp[Mr];omega,λi b hi=>by simp at hi,λb g=>?_,λb g m=>?_⟩
   ·simp at g;rw[<- g];simp;omega
   ·simp at m;rw[<- m];simp;omega
  ·have h:=A (n/128) (by omega);rw[Rv (by omega)];generalize numB (n/128)=l at h;have D:=h.pos;have o:(D7 (n%128+128)).toNat=n%128+128:=Gl _ (by omega);have k:((D7 (n%128+128))::l)[((D7 (n%128+128))::l).length-1]?=l[l.length-1]?:=by rw[AT,Nat.add_sub_cancel];rw[List.getElem?_cons,if_neg (by omega)]
   refine⟨by simp,?_,λi b hi g=>?_,λb g=>?_,λb C g=>?_⟩
   ·show(D7 (n%128+128)).toNat%128+128*Mr l=n;rw[o,h.val];omega
   ·cases i with
    | zero=>rw[List.getElem?_cons_zero]at g;cases g;omega
    | succ i =>
     rw[OK]at g;rw[AT]at hi;exact h.mid i b (by omega) g
   ·rw[k]at g;exact h.low b g
   ·rw[k]at g;exact h.nz b (by omega) g
theorem GN:∀(l:List UInt8) (i:Nat) (b:UInt8),l[i]?=AF b->(b.toNat%128)*128^i<=Mr l
 | [],i,b,h=>by simp at h
 | c::l,0,b,h=>by
  simp at h
  subst h
  show c.toNat%128*1<=c.toNat%128+128*Mr l
  omega
 | c::l,i+1,b,h=>by
  rw[OK]at h
  have g:=GN l i b h
  show _<=c.toNat%128+128*Mr l
  rw[Nat.pow_succ,<- Nat.mul_assoc]
  omega
theorem Fj:∀(l:List UInt8) (i:Nat) (b:UInt8),l[i]?=AF b->Mr (l.drop i)=b.toNat%128+128*Mr (l.drop (i+1))
 | [],i,b,h=>by simp at h
 | c::l,0,b,h=>by
  simp at h
  subst h
  rfl
 | c::l,i+1,b,h=>by
  rw[OK]at h
  exact Fj l i b h
theorem T2(o:n<18446744073709551616)(m:(numB n).length=10)(i:(numB n)[9]?=AF b):b.toNat<=1:=by
 have h:=GG n;have g:=GN _ _ _ i;have k:=h.low b (by rw[m];exact i);rw[h.val,Nat.mod_eq_of_lt k]at g;have:(128:Nat)^9=9223372036854775808:=by decide
 rw[this]at g;omega
theorem Mu:∀(l:List UInt8) (i:Nat),Mr (l.drop i)<=Mr l
 | [],i=>by simp[Mr]
 | c::l,0=>BE _
 | c::l,i+1=>by
  have g:=Mu l i
  show Mr (l.drop i)<=c.toNat%128+128*Mr l
  omega
theorem Eb[bn:Ib]{p rest:List UInt8}(hp:Qv base w pv p)(aK:at_<=p.length)(hd:p.drop at_=numB n++rest)(hn:n<18446744073709551616)(aP:p.length<=1099511627776) :
  DJ Tryz.prog 208 #[pv,.int .i64 at_] w λe w'=>e=.returned (.tuple #[.int .u64 n,.int .i64 (numB n).length,.int .i64 0])/\w'=w:=by
 obtain⟨ao,cap,rfl⟩:=hp.form;have D:=Qp hn;have aG:=λb=>T2 (b:=b) hn;have hI:=GG n;have g:(numB n).length+at_<=p.length:=by have:=congrArg List.length hd;rw[List.length_drop,BO]at this;omega
 have X:∀(i:Nat) b,(numB n)[i]?=AF b->p[at_+i]?=AF b:=λi b O=>by
  have h0:=(List.getElem?_eq_some_iff.1 O).1;rw[<- List.getElem?_drop,hd,List.getElem?_append_left h0,O]
 have aE:1<(numB n).length->0<n:=λh=>by
  rcases Nat.eq_zero_or_pos n with e|e
  ·rw[e,Yb (by decide)]at h;simp at h
  ·exact e
 generalize numB n=l at *;obtain⟨L,hL⟩:∃L,L=l.length:=⟨_,rfl⟩;rw[<- hL]at D g⊢;have aF:1<=L:=by rw[hL];exact hI.pos
 obtain⟨ad,aJ,W⟩:∃ad,ao=AF ad/\∀(i:Nat) b,l[i]?=AF b->w.cell? (ad.add (at_+i))=AF (.int .u8 b.toNat):=by obtain⟨_,_,hq,_,_,_,C⟩:=hp;simp only[DB]at hq;obtain⟨rfl,_,rfl⟩:=hq;obtain⟨b0,aL⟩:∃b,l[0]?=AF b:=⟨_,BY (by omega)⟩;obtain⟨ad,e,_,_⟩:=C _ _ (X 0 b0 aL);refine⟨ad,e,λi b O=>?_⟩;obtain⟨aS,e',_,aM⟩:=C _ _ (X i b O);rw[e]at e';cases e';exact aM
 subst aJ;have aU:(p.length:Int)<=1099511627776:=by omega
 have aQ:(at_:Int)<=1099511627776:=by omega
 have aV:IntKind.i64.wrap ((at_:Int)+9)=(at_:Int)+9:=by rw[PO];omega
 have m:=BX (A9 hI W hL D g aF aG hn aE);have aR:(at_:Int)<(p.length:Int):=by omega
 clear hp hd X hI W D aG g aF hn aK aP hL aE;go_enter Tryz.func208,Tryz.ntmps208;go_upto_block 0 with fail;go_wp2_with fail;go_loopw [7] (λv7 wr=>∃i:Nat,v7=.int .i64 ((at_+i:Nat):Int)/\i<L/\wr=w) (λv7 _=>at_+L-(C0 v7).toNat);case atStart=>exact⟨0,rfl,m.out.qf,rfl⟩
 case round =>
  obtain⟨i,rfl,hi,o⟩:=hrel;have o:=o.symm;subst o;obtain⟨b,O⟩:∃b,l[i]?=AF b:=⟨_,BY (by rw[<- m.out.qc];exact hi)⟩;have C:=m.out.2.1 i b O;have R:=b.toNat_lt;have g:=m.out.qe;have D:=m.out.qd;have aC:=m.out.qc;have q1:((at_+i:Nat):Int)<(p.length:Int):=by omega
  by_cases hm:i+1<L
  ·have aI:=m.out.1.mid i b (by omega) O;have q2:((at_+i:Nat):Int)<(at_:Int)+9:=by omega
   have q3:(128:Int)<=(b.toNat:Int):=by omega
   have q4:IntKind.i64.wrap (((at_+i:Nat):Int)+1)=((at_+(i+1):Nat):Int):=by rw[PO];omega
   have G:=BX (A2 hm hi);clear hm hi O R g D aC aI;go_wp2_with fail;go_roundw;case rel=>exact⟨i+1,rfl,G.out.1,trivial⟩
   case measure=>have:=G.out.1;simp[C0];omega
  ·have aD:i+1=L:=by omega
   have K:=m.out.1.low b (by rw[<- aC,<- aD];exact O);have aO:=m.out.1.nz b;have aA:l[l.length-1]?=AF b:=by rw[<- aC,<- aD];exact O
   have HB:=BX (A3 O aD K);have aT:=m.out.1.val;have I:0<i->b.toNat≠0:=λh=>m.out.1.nz b (m.out.ri (by omega)) aA;have E:i=9->b.toNat<=1:=λh=>m.out.qg b (by omega) (by rw[<- h];exact O);have q4:IntKind.i64.wrap (((at_+i:Nat):Int)-(at_:Int))=(i:Int):=by rw[PO];omega
   have q5:IntKind.i64.wrap ((i:Int)+1)=(L:Int):=by rw[PO];omega
   have q6:¬(p.length:Int)<=((at_+i:Nat):Int):=by omega
   have aH:(i=9)\/(0<i/\i<9)\/i=0:=by omega
   clear hm hi R g D aC aO aA O aD;rcases aH with h9|⟨h0,h9⟩|h0
   ·subst h9;have r1:True:=trivial;have r2:True:=trivial;have r3:¬(1:Int)<(b.toNat:Int):=by have:=E rfl;omega
    have r4:(at_:Int)<(at_:Int)+9:=by omega
    have r5:((b.toNat:Int)==0)=false:=by have:=I (by omega);simp;omega
    have aN:w.cell? {block:=ad.block,off:=ad.off+(at_+8+1)}=AF (.int .u8 b.toNat):=by have C:=C;rw[show at_+9=at_+8+1 by omega]at C;simpa[Addr.add]using C
    clear K I E;go_upto_block 2 with fail;clear q1 q6 C aN r1 r2 r3 r4 r5;go_wp2_with fail;go_loopw [8,9] (λv8 v9 wr=>∃j:Nat,v9=.int .i64 ((at_:Int)+(j:Int)-1)/\v8=.int .u64 (Mr (l.drop j))/\j<=L/\wr=w) (λ_ v9 _=>(C0 v9-(at_:Int)+1).toNat);case atStart=>exact⟨L,by congr 1;have:=HB.out.2.1;omega,by rw[m.out.qc,LZ];rfl,BE _,rfl⟩
    case round =>
     obtain⟨j,rfl,rfl,Y,o⟩:=hrel;have o:=o.symm;subst o;by_cases z:1<=j
     ·obtain⟨c,C⟩:∃c,l[j-1]?=AF c:=⟨_,BY (by rw[<- m.out.qc];omega)⟩;have T:=m.out.2.1 (j-1) c C;have hv:=Fj l (j-1) c C;rw[show j-1+1=j by omega]at hv;have A:=Mu l (j-1);rw[m.out.1.val]at A;have aB:=m.out.qh;have g:=m.out.qe;have S:=c.toNat_lt;obtain⟨V,Q⟩:∃V,V=Mr (l.drop j):=⟨_,rfl⟩;obtain⟨U,J⟩:∃U,U=Mr (l.drop (j-1)):=⟨_,rfl⟩;rw[<- Q,<- J]at hv;rw[<- J]at A;rw[<- Q];obtain⟨k,Z⟩:∃k:Nat,k=at_+(j-1):=⟨_,rfl⟩;rw[<- Z]at T;have H:(at_:Int)+(j:Int)-1=(k:Int):=by omega
      have r1:(at_:Int)<=(k:Int):=by omega
      have r2:IntKind.u64.wrap (128*(V:Int))=128*(V:Int):=by rw[F0];omega
      have r3:IntKind.u64.wrap (128*(V:Int)+(c.toNat:Int)%128)=(U:Int):=by rw[F0];omega
      have r4:IntKind.i64.wrap ((k:Int)-1)=(at_:Int)+((j-1:Nat):Int)-1:=by rw[PO];omega
      have r5:(k:Int)<(p.length:Int):=by omega
      rw[H];have G:=BX (A4 Y z J Z);clear Y z J Z H hv A aB g C Q q4 q5;go_wp2_with fail;go_roundw;case rel=>exact⟨j-1,rfl,by rw[<- G.out.qc],by have:=G.out.1;omega,trivial⟩
      case measure=>have:=G.out.2.1;have:=G.out.2.2.2;simp[C0];omega
     ·obtain rfl:j=0:=by omega
      have r1:¬(at_:Int)<=(at_:Int)+((0:Nat):Int)-1:=by omega
      rw[PP,m.out.1.val];clear Y z;go_wp2_with fail;refine FC (v:=.tuple #[.int .u64 n,.int .i64 L,.int .i64 0]) (by simp[FD,Tryz.results208,go_sem];have:=HB.out.2.1;omega) rfl ?_;exact⟨rfl,rfl⟩
   ·have r1:(((at_+i:Nat):Int)==(at_:Int)+9)=false:=by simp;omega
    have r2:((at_+i:Nat):Int)<(at_:Int)+9:=by omega
    have r3:¬(128:Int)<=(b.toNat:Int):=by omega
    have r4:(at_:Int)<((at_+i:Nat):Int):=by omega
    have r5:((b.toNat:Int)==0)=false:=by have:=I (by omega);simp;omega
    clear K I E h9 h0;go_upto_block 2 with fail;clear q1 q6 C r1 r2 r3 r4 r5;go_wp2_with fail;go_loopw [8,9] (λv8 v9 wr=>∃j:Nat,v9=.int .i64 ((at_:Int)+(j:Int)-1)/\v8=.int .u64 (Mr (l.drop j))/\j<=L/\wr=w) (λ_ v9 _=>(C0 v9-(at_:Int)+1).toNat);case atStart=>exact⟨L,by congr 1;have:=HB.out.2.1;omega,by rw[m.out.qc,LZ];rfl,BE _,rfl⟩
    case round =>
     obtain⟨j,rfl,rfl,Y,o⟩:=hrel;have o:=o.symm;subst o;by_cases z:1<=j
     ·obtain⟨c,C⟩:∃c,l[j-1]?=AF c:=⟨_,BY (by rw[<- m.out.qc];omega)⟩;have T:=m.out.2.1 (j-1) c C;have hv:=Fj l (j-1) c C;rw[show j-1+1=j by omega]at hv;have A:=Mu l (j-1);rw[m.out.1.val]at A;have aB:=m.out.qh;have g:=m.out.qe;have S:=c.toNat_lt;obtain⟨V,Q⟩:∃V,V=Mr (l.drop j):=⟨_,rfl⟩;obtain⟨U,J⟩:∃U,U=Mr (l.drop (j-1)):=⟨_,rfl⟩;rw[<- Q,<- J]at hv;rw[<- J]at A;rw[<- Q];obtain⟨k,Z⟩:∃k:Nat,k=at_+(j-1):=⟨_,rfl⟩;rw[<- Z]at T;have H:(at_:Int)+(j:Int)-1=(k:Int):=by omega
      have r1:(at_:Int)<=(k:Int):=by omega
      have r2:IntKind.u64.wrap (128*(V:Int))=128*(V:Int):=by rw[F0];omega
      have r3:IntKind.u64.wrap (128*(V:Int)+(c.toNat:Int)%128)=(U:Int):=by rw[F0];omega
      have r4:IntKind.i64.wrap ((k:Int)-1)=(at_:Int)+((j-1:Nat):Int)-1:=by rw[PO];omega
      have r5:(k:Int)<(p.length:Int):=by omega
      rw[H];have G:=BX (A4 Y z J Z);clear Y z J Z H hv A aB g C Q q4 q5;go_wp2_with fail;go_roundw;case rel=>exact⟨j-1,rfl,by rw[<- G.out.qc],by have:=G.out.1;omega,trivial⟩
      case measure=>have:=G.out.2.1;have:=G.out.2.2.2;simp[C0];omega
     ·obtain rfl:j=0:=by omega
      have r1:¬(at_:Int)<=(at_:Int)+((0:Nat):Int)-1:=by omega
      rw[PP,m.out.1.val];clear Y z;go_wp2_with fail;refine FC (v:=.tuple #[.int .u64 n,.int .i64 L,.int .i64 0]) (by simp[FD,Tryz.results208,go_sem];have:=HB.out.2.1;omega) rfl ?_;exact⟨rfl,rfl⟩
   ·have r1:(((at_+i:Nat):Int)==(at_:Int)+9)=false:=by simp;omega
    have r2:((at_+i:Nat):Int)<(at_:Int)+9:=by omega
    have r3:¬(128:Int)<=(b.toNat:Int):=by omega
    have r4:¬(at_:Int)<((at_+i:Nat):Int):=by omega
    clear K I E h0;go_upto_block 2 with fail;clear q1 q6 C r1 r2 r3 r4;go_wp2_with fail;go_loopw [8,9] (λv8 v9 wr=>∃j:Nat,v9=.int .i64 ((at_:Int)+(j:Int)-1)/\v8=.int .u64 (Mr (l.drop j))/\j<=L/\wr=w) (λ_ v9 _=>(C0 v9-(at_:Int)+1).toNat);case atStart=>exact⟨L,by congr 1;have:=HB.out.2.1;omega,by rw[m.out.qc,LZ];rfl,BE _,rfl⟩
    case round =>
     obtain⟨j,rfl,rfl,Y,o⟩:=hrel;have o:=o.symm;subst o;by_cases z:1<=j
     ·obtain⟨c,C⟩:∃c,l[j-1]?=AF c:=⟨_,BY (by rw[<- m.out.qc];omega)⟩;have T:=m.out.2.1 (j-1) c C;have hv:=Fj l (j-1) c C;rw[show j-1+1=j by omega]at hv;have A:=Mu l (j-1);rw[m.out.1.val]at A;have aB:=m.out.qh;have g:=m.out.qe;have S:=c.toNat_lt;obtain⟨V,Q⟩:∃V,V=Mr (l.drop j):=⟨_,rfl⟩;obtain⟨U,J⟩:∃U,U=Mr (l.drop (j-1)):=⟨_,rfl⟩;rw[<- Q,<- J]at hv;rw[<- J]at A;rw[<- Q];obtain⟨k,Z⟩:∃k:Nat,k=at_+(j-1):=⟨_,rfl⟩;rw[<- Z]at T;have H:(at_:Int)+(j:Int)-1=(k:Int):=by omega
      have r1:(at_:Int)<=(k:Int):=by omega
      have r2:IntKind.u64.wrap (128*(V:Int))=128*(V:Int):=by rw[F0];omega
      have r3:IntKind.u64.wrap (128*(V:Int)+(c.toNat:Int)%128)=(U:Int):=by rw[F0];omega
      have r4:IntKind.i64.wrap ((k:Int)-1)=(at_:Int)+((j-1:Nat):Int)-1:=by rw[PO];omega
      have r5:(k:Int)<(p.length:Int):=by omega
      rw[H];have G:=BX (A4 Y z J Z);clear Y z J Z H hv A aB g C Q q4 q5;go_wp2_with fail;go_roundw;case rel=>exact⟨j-1,rfl,by rw[<- G.out.qc],by have:=G.out.1;omega,trivial⟩
      case measure=>have:=G.out.2.1;have:=G.out.2.2.2;simp[C0];omega
     ·obtain rfl:j=0:=by omega
      have r1:¬(at_:Int)<=(at_:Int)+((0:Nat):Int)-1:=by omega
      rw[PP,m.out.1.val];clear Y z;go_wp2_with fail;refine FC (v:=.tuple #[.int .u64 n,.int .i64 L,.int .i64 0]) (by simp[FD,Tryz.results208,go_sem];have:=HB.out.2.1;omega) rfl ?_;exact⟨rfl,rfl⟩
end Go.Proofs.YtfdmbomlkpkegaaGreat
