/- Lemmas. -/
import Derived.Test.YtfdmbomlkpkegaaGreatS35
set_option maxRecDepth 100000
set_option maxHeartbeats 8000000
set_option linter.all false
set_option autoImplicit true
set_option relaxedAutoImplicit true
open Bool renaming eq_false_iff->PN,eq_iff_iff->WA
open Go renaming Calls->DJ,Value->AM,World->AC,undef->LW,yielded->AW
open Go.Act renaming put->AQ
open Go.IntKind renaming wrap_i64->PO
open Go.Lib renaming hid->BX
open Go.Proofs renaming enters_of->WC
open Go.Region renaming wanted->AV
open Go.Value renaming int->DA
open Go.Value.slice renaming injEq->DB
open Go.World.ownsRow renaming lt->BL
open List renaming getD_eq_getElem?_getD->WD,getElem?_eq_getElem->BY,getElem?_eq_some_iff->BK,take_length->BZ
open Nat renaming le_trans->BF
open Option renaming none->AI,some->AF
namespace Go.Proofs.YtfdmbomlkpkegaaGreat
open Go Go.RowKit Go.Dr Go.Shelf
theorem KI(h:Uk l):Nq l=true:=by
 refine Aw λi hi=>?_;have f:l[i]?=AF l[i]:=BY hi;have k:=h.run l[i] (List.getElem_mem hi);by_cases g:i=0
 ·subst g;rw[ZY f];simp[k.1]
 ·have d:i-1<l.length:=by omega
  have m:l[i-1]?=AF l[i-1]:=BY d;have n:=(List.pairwise_iff_getElem.1 h.gap) (i-1) i d hi (by omega);rw[ZX f m (by omega)];simp only[Bool.and_eq_true,decide_eq_true_eq];omega
def ZF (f:Vy):Prop:=Nq f.runs=true/\f.base=0/\f.items.length=0/\f.runs.length<=32/\f.cum<=f.limit/\(∀r,f.runs[0]?=AF r->2<=r.1/\f.cum<=r.1-2)/\∀r,f.runs[f.runs.length-1]?=AF r->r.2<=f.limit
theorem Z3(f:Vy)(h:Sa w v f.runs)(io:Option Addr)(ic:Nat)(hl:f.runs.length<=1048576)(hb:∀r∈f.runs,r.1<18446744073709551616)(hi:(f.items.length:Int)<=1048576)(hr:r=true↔ZF f) :
  DJ Tryz.prog 138 #[.agg (f.cells v (.slice io f.items.length ic))] w λz w'=>z=.returned (.bool r)/\Xy No w w':=by
 obtain⟨ao,cap,rfl,_,_⟩:=h.form;obtain⟨W,hW⟩:∃W,W=w.alloc (.cells (f.cells (.slice ao f.runs.length cap) (.slice io f.items.length ic)) 69):=⟨_,rfl⟩;have kW:Xy No w W:=by rw[hW];exact(Xy.refl _ _).alloc _
 have hA:W.heap[w.heap.size]?=AF (.cells (f.cells (.slice ao f.runs.length cap) (.slice io f.items.length ic)) 69 (0,0)):=by rw[hW];exact Qy _ _
 obtain⟨c0,c1,c2,c3,c4,c5,c6,c7,c8⟩:=Si f hA;have P:=UU (h.no kW) hl hb;obtain⟨l,M⟩:∃l,l=f.runs:=⟨_,rfl⟩;rw[<- M]at h hl hb P c7;obtain⟨ni,Q⟩:∃ni,ni=f.items.length:=⟨_,rfl⟩;rw[<- Q]at hi c8;have aR:(l.length:Int)<=1048576:=by omega
 have B:=BX (A6 (h.no kW) hb kW hA M Q);obtain⟨rb,aB⟩:∃rb,rb=Nq l:=⟨_,rfl⟩;rw[<- aB]at P;have I:=BX (A2 aB hr);unfold Vy.cells at hW⊢;rw[<- M,<- Q]at hW⊢;clear h hl hb kW hA aB M Q hr;go_enter Tryz.func138,Tryz.ntmps138;go_upto_region 1 with fail;rw[<- hW];clear hW;go_upto_region 2 with(go_at_call 189;refine P.mono ?_;rintro z w1 ⟨so,sn,sc,rfl,ho,k1⟩);have T:=BX ho;have kA:=k1.alloc (.cells #[.slice so sn sc] 90);have n:=Qy w1 (.cells #[.slice so sn sc] 90);have aM:w1.heap.size<(w1.alloc (.cells #[.slice so sn sc] 90)).heap.size:=Qt n;have s0:(w1.alloc (.cells #[.slice so sn sc] 90)).cell? ⟨w1.heap.size,0,AI⟩=AF (.slice so sn sc):=(Qq n 0).trans rfl;obtain⟨c0,c1,c2,c3,c4,c5,c6,c7,c8⟩:=Si f (kA.heap B.out.qd id);rw[<- B.out.qe]at c7;rw[<- B.out.rf]at c8;have J:=BX (A4 (B.out.2.2.1.then kA) kA n ((Xy.refl No w1).alloc (.cells #[.slice so sn sc] 90)));clear ho kA n k1 aM P;generalize w1.alloc (.cells #[.slice so sn sc] 90)=V at *;cases rb with
 | false =>
  clear T s0;obtain rfl:r=false:=PN.2 (λh=>absurd (I.out.2.1 h) (by unfold ZF;rw[<- B.out.qe,<- I.out.1];simp));go_wp2_with fail;go_ret;exact⟨rfl,J.out.1⟩
 | true =>
  by_cases h1:f.base=0
  ·have i1:(f.base:Int)=0:=by omega
   by_cases h2:ni=0
   ·have i2:¬(0:Int)<(ni:Int):=by omega
    by_cases h3:l.length<=32
    ·have i3:¬(32:Int)<(l.length:Int):=by omega
     by_cases h4:f.cum<=f.limit
     ·have i4:¬(f.limit:Int)<(f.cum:Int):=by omega
      go_upto_region 5 with fail;clear i1 i2 i3 i4;have kd:Xy No V V.drew:=(Xy.refl _ _).drew;by_cases h5:l.length=0
      ·have i5:(l.length:Int)=0:=by omega
       clear T;obtain rfl:r=true:=I.out.2.2 ⟨by rw[<- B.out.qe,<- I.out.1],h1,by rw[<- B.out.rf];exact h2,by rw[<- B.out.qe];exact h3,h4,λr h=>(by rw[<- B.out.qe]at h;have:=(BK.1 h).1;omega),λr h=>(by rw[<- B.out.qe]at h;have:=(BK.1 h).1;omega)⟩;refine Vr (λw'=>Xy No V w') [([0,1,2,3],[4,5,6,7,8,9]),([10,16,17],[11,12,13,14,15,18,19,20]),([21,22,23,24,25,26,27,28,29,30,31,32],[33])] (by kernel_rfl) (by kernel_rfl) (λ_ _ _ _ _ h=>h) kd ?_;iterate 3(refine Qk (v:=?_) rfl rfl rfl ?_ ?_;rotate_left;focus(
        intro w' n;go_simp
        try with_reducible rfl))
       iterate 1(refine Sh rfl rfl (by first|kernel_rfl|simp[AV,AW,AQ,LW]) ?_)
       refine Qj ?_;iterate 6(refine Tu rfl (by first|kernel_rfl|simp[AV,AW,AQ,LW]) kd ?_)
       refine Qh ?_;iterate 3(refine Sh rfl rfl (by first|kernel_rfl|simp[AV,AW,AQ,LW]) ?_)
       refine Qj ?_;iterate 8(refine Tu rfl (by first|kernel_rfl|simp[AV,AW,AQ,LW]) kd ?_)
       refine Qh ?_;iterate 11(refine Sh rfl rfl (by first|kernel_rfl|simp[AV,AW,AQ,LW]) ?_)
       iterate 1(refine Qk (v:=?_) rfl rfl rfl ?_ ?_;rotate_left;focus(
        intro w' n;go_simp
        try with_reducible rfl))
       refine Qj (Qx rfl rfl (λK d=>?_));go_simp;refine d _ _ kd ?_;clear d K;refine Qh ?_;unfold Vp;go_wp2_with fail;go_ret;exact⟨rfl,J.out.1.then kd⟩
      ·have i5:¬(l.length:Int)=0:=by omega
       have Y:l≠[]:=λe=>h5 (by rw[e];rfl);have ho:=T.out rfl;have aN:sn=l.length:=by obtain⟨_,_,e,_⟩:=ho.form;simp only[DB]at e;exact e.2.1
       obtain⟨D,Z⟩:∃r,l[0]?=AF r:=⟨l[0],BY (by omega)⟩;obtain⟨r1,aA⟩:∃r,l[l.length-1]?=AF r:=⟨l[l.length-1],BY (by omega)⟩;have aG:=ho.runs.no J.out.2.2.2;have aE:=λ(X:AC) (k:Xy No V X)=>Oj (aG.no k) (by omega);have U:=B.out.1.no J.out.2.1;obtain⟨ga,gb,aK,hr⟩:=U.row Y;subst aK;have e1:=(hr _ r1 aA).2;have aD:IntKind.i64.wrap ((l.length:Int)-1)=((l.length-1:Nat):Int):=by rw[PO];omega
       have aL:((l.length-1:Nat):Int)<(l.length:Int):=by omega
       have aC:=B.out.2.1 D (List.mem_of_getElem? Z);have C:=BX (A4 Z aA Y aE);have aS:0<l.length:=by omega
       have aU:((l.length:Int)==0)=false:=by simp;omega
       have HL:=BX aC;have HQ:=BX (show f.base=0/\f.items.length=0/\f.runs.length<=32/\f.cum<=f.limit from⟨h1,by rw[<- B.out.rf];exact h2,by rw[<- B.out.qe];exact h3,h4⟩);subst aN;clear ho aG aE U hr Z aA aC Y h1 h2 h3 h4 h5 T;have N:∃m,m=l.length-1:=⟨_,rfl⟩;obtain⟨m,N⟩:=N;have HM:=BX N.symm;rw[<- N]at aD aL e1 C;clear N;by_cases h6:2<=D.1
       ·have i6:¬(D.1:Int)<2:=by omega
        have aT:IntKind.u64.wrap ((D.1:Int)-2)=((D.1-2:Nat):Int):=by have:=HL.out;rw[IntKind.wrap_u64];omega
        generalize aF:D.1-2=rz at *;have HZ:=BX aF;clear aF;have aO:(2:Int)<=(D.1:Int):=by omega
        have aJ:=BX h6;clear h6;by_cases h7:f.cum<=rz
        ·have i7:(f.cum:Int)<=(rz:Int):=by omega
         have HD:=BX (show decide (r1.2<=f.limit)=r from by
          rw[WA,I.out.2,decide_eq_true_iff];constructor
          ·intro M;refine⟨by rw[<- B.out.qe,<- I.out.1],HQ.out.1,HQ.out.2.1,HQ.out.qc,HQ.out.2.2.2,λx hx=>?_,λx hx=>?_⟩
           ·rw[<- B.out.qe,C.out.1]at hx;cases hx;have:=HZ.out;exact⟨aJ.out,by omega⟩
           ·rw[<- B.out.qe]at hx;have h:=HM.out;rw[h,C.out.2.1]at hx;cases hx;omega
          ·intro h;have:=h.rg r1 (by rw[<- B.out.qe,HM.out];exact C.out.2.1)
           omega)
         refine Vr (λw'=>Xy No V w') [([0,1,2,3],[4,5,6,7,8,9]),([10,16,17],[11,12,13,14,15,18,19,20]),([21,22,23,24,25,26,27,28,29,30,31,32],[33])] (by kernel_rfl) (by kernel_rfl) (λ_ _ _ _ _ h=>h) kd ?_;iterate 3(refine Qk (v:=?_) rfl rfl rfl ?_ ?_;rotate_left;focus(
          intro w' n;go_simp
          try with_reducible rfl))
         iterate 1(refine Qe (v:=?_) rfl rfl (by first|kernel_rfl|simp[AV,AW,AQ,LW]) ?_ ?_;rotate_left;focus(
          intro w' n;have g0:=n.cell s0 id;go_simp
          try with_reducible rfl))
         refine Qj ?_;refine Za rfl (by first|kernel_rfl|simp[AV,AW,AQ,LW]) (λK d=>?_);go_simp;refine(C.out.2.2.2 _ kd).mono ?_;rintro z w3⟨v3,rfl,A,k3⟩;obtain⟨aI,aH,rfl,_,_⟩:=A.form;have g:=kd.then k3;obtain⟨g3,o3,E,G⟩:=A.runs.row C.out.qc;subst E;have e3:w3.cell? ⟨g3,o3,AI⟩=AF (.int .u64 D.1):=by simpa using(G 0 D C.out.1).1
         clear A G;refine d _ _ g ?_;clear d K;refine Za rfl (by first|kernel_rfl|simp[AV,AW,AQ,LW]) (λK d=>?_);go_simp;refine d _ _ g ?_;clear d K;refine Za rfl (by first|kernel_rfl|simp[AV,AW,AQ,LW]) (λK d=>?_);go_simp;refine d _ _ g ?_;clear d K;refine Za rfl (by first|kernel_rfl|simp[AV,AW,AQ,LW]) (λK d=>?_);go_simp;refine d _ _ g ?_;clear d K;refine Za rfl (by first|kernel_rfl|simp[AV,AW,AQ,LW]) (λK d=>?_);go_simp;refine d _ _ g ?_;clear d K;refine Za rfl (by first|kernel_rfl|simp[AV,AW,AQ,LW]) (λK d=>?_);go_simp;refine d _ _ g ?_;clear d K;refine Qh ?_;iterate 3(refine Qe (v:=?_) rfl rfl (by first|kernel_rfl|simp[AV,AW,AQ,LW]) ?_ ?_;rotate_left;focus(
          intro w' n;have g0:=n.cell s0 id;have g1:=n.cell c5 id;go_simp
          try with_reducible rfl))
         refine Qj ?_;refine Za rfl (by first|kernel_rfl|simp[AV,AW,AQ,LW]) (λK d=>?_);go_simp;refine(C.out.2.2.2 _ g).mono ?_;rintro z w4⟨v4,rfl,H,k4⟩;obtain⟨aQ,aP,rfl,_,_⟩:=H.form;have i:=g.then k4;obtain⟨g4,o4,L,O⟩:=H.runs.row C.out.qc;subst L;have e4:w4.cell? ⟨g4,o4,AI⟩=AF (.int .u64 D.1):=by simpa using(O 0 D C.out.1).1
         clear H O;refine d _ _ i ?_;clear d K;refine Za rfl (by first|kernel_rfl|simp[AV,AW,AQ,LW]) (λK d=>?_);go_simp;refine d _ _ i ?_;clear d K;refine Za rfl (by first|kernel_rfl|simp[AV,AW,AQ,LW]) (λK d=>?_);go_simp;refine d _ _ i ?_;clear d K;refine Za rfl (by first|kernel_rfl|simp[AV,AW,AQ,LW]) (λK d=>?_);go_simp;refine d _ _ i ?_;clear d K;refine Za rfl (by first|kernel_rfl|simp[AV,AW,AQ,LW]) (λK d=>?_);go_simp;refine d _ _ i ?_;clear d K;refine Za rfl (by first|kernel_rfl|simp[AV,AW,AQ,LW]) (λK d=>?_);go_simp;refine d _ _ i ?_;clear d K;refine Za rfl (by first|kernel_rfl|simp[AV,AW,AQ,LW]) (λK d=>?_);go_simp;refine d _ _ i ?_;clear d K;refine Za rfl (by first|kernel_rfl|simp[AV,AW,AQ,LW]) (λK d=>?_);go_simp;refine d _ _ i ?_;clear d K;refine Qh ?_;iterate 10(refine Qe (v:=?_) rfl rfl (by first|kernel_rfl|simp[AV,AW,AQ,LW]) ?_ ?_;rotate_left;focus(
          intro w' n;have g0:=n.cell c7 id;have g1:=n.cell e1 id;have g2:=n.cell c6 id;go_simp
          try with_reducible rfl))
         iterate 1(refine Qe (v:=?_) rfl rfl (by first|kernel_rfl|simp[AV,AW,AQ,LW]) ?_ ?_;rotate_left;focus(
          intro w' n;go_simp
          try with_reducible rfl))
         iterate 1(refine Qk (v:=?_) rfl rfl rfl ?_ ?_;rotate_left;focus(
          intro w' n;go_simp
          try with_reducible rfl))
         have hq:decide (r1.2<=f.limit)=r:=HD.out;refine Qj (Qx rfl rfl (λK d=>?_));go_simp;refine d _ _ i ?_;clear d K;refine Qh ?_;unfold Vp;go_wp2_with fail;go_ret;exact⟨rfl,J.out.1.then i⟩
        ·have i7:¬(f.cum:Int)<=(rz:Int):=by omega
         refine Vr (λw'=>Xy No V w') [([0,1,2,3],[4,5,6,7,8,9]),([10,16,17],[11,12,13,14,15,18,19,20]),([21,22,23,24,25,26,27,28,29,30,31,32],[33])] (by kernel_rfl) (by kernel_rfl) (λ_ _ _ _ _ h=>h) kd ?_;iterate 3(refine Qk (v:=?_) rfl rfl rfl ?_ ?_;rotate_left;focus(
          intro w' n;go_simp
          try with_reducible rfl))
         iterate 1(refine Qe (v:=?_) rfl rfl (by first|kernel_rfl|simp[AV,AW,AQ,LW]) ?_ ?_;rotate_left;focus(
          intro w' n;have g0:=n.cell s0 id;go_simp
          try with_reducible rfl))
         refine Qj ?_;refine Za rfl (by first|kernel_rfl|simp[AV,AW,AQ,LW]) (λK d=>?_);go_simp;refine(C.out.2.2.2 _ kd).mono ?_;rintro z w3⟨v3,rfl,A,k3⟩;obtain⟨aI,aH,rfl,_,_⟩:=A.form;have g:=kd.then k3;obtain⟨g3,o3,E,G⟩:=A.runs.row C.out.qc;subst E;have e3:w3.cell? ⟨g3,o3,AI⟩=AF (.int .u64 D.1):=by simpa using(G 0 D C.out.1).1
         clear A G;refine d _ _ g ?_;clear d K;refine Za rfl (by first|kernel_rfl|simp[AV,AW,AQ,LW]) (λK d=>?_);go_simp;refine d _ _ g ?_;clear d K;refine Za rfl (by first|kernel_rfl|simp[AV,AW,AQ,LW]) (λK d=>?_);go_simp;refine d _ _ g ?_;clear d K;refine Za rfl (by first|kernel_rfl|simp[AV,AW,AQ,LW]) (λK d=>?_);go_simp;refine d _ _ g ?_;clear d K;refine Za rfl (by first|kernel_rfl|simp[AV,AW,AQ,LW]) (λK d=>?_);go_simp;refine d _ _ g ?_;clear d K;refine Za rfl (by first|kernel_rfl|simp[AV,AW,AQ,LW]) (λK d=>?_);go_simp;refine d _ _ g ?_;clear d K;refine Qh ?_;iterate 3(refine Qe (v:=?_) rfl rfl (by first|kernel_rfl|simp[AV,AW,AQ,LW]) ?_ ?_;rotate_left;focus(
          intro w' n;have g0:=n.cell s0 id;have g1:=n.cell c5 id;go_simp
          try with_reducible rfl))
         refine Qj ?_;refine Za rfl (by first|kernel_rfl|simp[AV,AW,AQ,LW]) (λK d=>?_);go_simp;refine(C.out.2.2.2 _ g).mono ?_;rintro z w4⟨v4,rfl,H,k4⟩;obtain⟨aQ,aP,rfl,_,_⟩:=H.form;have i:=g.then k4;obtain⟨g4,o4,L,O⟩:=H.runs.row C.out.qc;subst L;have e4:w4.cell? ⟨g4,o4,AI⟩=AF (.int .u64 D.1):=by simpa using(O 0 D C.out.1).1
         clear H O;refine d _ _ i ?_;clear d K;refine Za rfl (by first|kernel_rfl|simp[AV,AW,AQ,LW]) (λK d=>?_);go_simp;refine d _ _ i ?_;clear d K;refine Za rfl (by first|kernel_rfl|simp[AV,AW,AQ,LW]) (λK d=>?_);go_simp;refine d _ _ i ?_;clear d K;refine Za rfl (by first|kernel_rfl|simp[AV,AW,AQ,LW]) (λK d=>?_);go_simp;refine d _ _ i ?_;clear d K;refine Za rfl (by first|kernel_rfl|simp[AV,AW,AQ,LW]) (λK d=>?_);go_simp;refine d _ _ i ?_;clear d K;refine Za rfl (by first|kernel_rfl|simp[AV,AW,AQ,LW]) (λK d=>?_);go_simp;refine d _ _ i ?_;clear d K;refine Za rfl (by first|kernel_rfl|simp[AV,AW,AQ,LW]) (λK d=>?_);go_simp;refine d _ _ i ?_;clear d K;refine Za rfl (by first|kernel_rfl|simp[AV,AW,AQ,LW]) (λK d=>?_);go_simp;refine d _ _ i ?_;clear d K;refine Qh ?_;iterate 10(refine Sh rfl rfl (by first|kernel_rfl|simp[AV,AW,AQ,LW]) ?_)
         iterate 1(refine Qe (v:=?_) rfl rfl (by first|kernel_rfl|simp[AV,AW,AQ,LW]) ?_ ?_;rotate_left;focus(
          intro w' n;go_simp
          try with_reducible rfl))
         iterate 1(refine Qk (v:=?_) rfl rfl rfl ?_ ?_;rotate_left;focus(
          intro w' n;go_simp
          try with_reducible rfl))
         obtain rfl:r=false:=PN.2 (λh=>by have:=((I.out.2.1 h).qf D (by rw[<- B.out.qe];exact C.out.1)).2;have:=HZ.out;omega);refine Qj (Qx rfl rfl (λK d=>?_));go_simp;refine d _ _ i ?_;clear d K;refine Qh ?_;unfold Vp;go_wp2_with fail;go_ret;exact⟨rfl,J.out.1.then i⟩
       ·have i6:(D.1:Int)<2:=by omega
        have aO:¬(2:Int)<=(D.1:Int):=by omega
        refine Vr (λw'=>Xy No V w') [([0,1,2,3],[4,5,6,7,8,9]),([10,16,17],[11,12,13,14,15,18,19,20]),([21,22,23,24,25,26,27,28,29,30,31,32],[33])] (by kernel_rfl) (by kernel_rfl) (λ_ _ _ _ _ h=>h) kd ?_;iterate 3(refine Qk (v:=?_) rfl rfl rfl ?_ ?_;rotate_left;focus(
         intro w' n;go_simp
         try with_reducible rfl))
        iterate 1(refine Qe (v:=?_) rfl rfl (by first|kernel_rfl|simp[AV,AW,AQ,LW]) ?_ ?_;rotate_left;focus(
         intro w' n;have g0:=n.cell s0 id;go_simp
         try with_reducible rfl))
        refine Qj ?_;refine Za rfl (by first|kernel_rfl|simp[AV,AW,AQ,LW]) (λK d=>?_);go_simp;refine(C.out.2.2.2 _ kd).mono ?_;rintro z w3⟨v3,rfl,A,k3⟩;obtain⟨aI,aH,rfl,_,_⟩:=A.form;have g:=kd.then k3;obtain⟨g3,o3,E,G⟩:=A.runs.row C.out.qc;subst E;have e3:w3.cell? ⟨g3,o3,AI⟩=AF (.int .u64 D.1):=by simpa using(G 0 D C.out.1).1
        clear A G;refine d _ _ g ?_;clear d K;refine Za rfl (by first|kernel_rfl|simp[AV,AW,AQ,LW]) (λK d=>?_);go_simp;refine d _ _ g ?_;clear d K;refine Za rfl (by first|kernel_rfl|simp[AV,AW,AQ,LW]) (λK d=>?_);go_simp;refine d _ _ g ?_;clear d K;refine Za rfl (by first|kernel_rfl|simp[AV,AW,AQ,LW]) (λK d=>?_);go_simp;refine d _ _ g ?_;clear d K;refine Za rfl (by first|kernel_rfl|simp[AV,AW,AQ,LW]) (λK d=>?_);go_simp;refine d _ _ g ?_;clear d K;refine Za rfl (by first|kernel_rfl|simp[AV,AW,AQ,LW]) (λK d=>?_);go_simp;refine d _ _ g ?_;clear d K;refine Qh ?_;iterate 3(refine Sh rfl rfl (by first|kernel_rfl|simp[AV,AW,AQ,LW]) ?_)
        refine Qj ?_;iterate 6(refine Tu rfl (by first|kernel_rfl|simp[AV,AW,AQ,LW]) g ?_)
        refine Za rfl (by first|kernel_rfl|simp[AV,AW,AQ,LW]) (λK d=>?_);go_simp;refine d _ _ g ?_;clear d K;refine Za rfl (by first|kernel_rfl|simp[AV,AW,AQ,LW]) (λK d=>?_);go_simp;refine d _ _ g ?_;clear d K;refine Qh ?_;iterate 10(refine Sh rfl rfl (by first|kernel_rfl|simp[AV,AW,AQ,LW]) ?_)
        iterate 1(refine Qe (v:=?_) rfl rfl (by first|kernel_rfl|simp[AV,AW,AQ,LW]) ?_ ?_;rotate_left;focus(
         intro w' n;go_simp
         try with_reducible rfl))
        iterate 1(refine Qk (v:=?_) rfl rfl rfl ?_ ?_;rotate_left;focus(
         intro w' n;go_simp
         try with_reducible rfl))
        obtain rfl:r=false:=PN.2 (λh=>by have:=((I.out.2.1 h).qf D (by rw[<- B.out.qe];exact C.out.1)).1;omega);refine Qj (Qx rfl rfl (λK d=>?_));go_simp;refine d _ _ g ?_;clear d K;refine Qh ?_;unfold Vp;go_wp2_with fail;go_ret;exact⟨rfl,J.out.1.then g⟩
     ·have i4:(f.limit:Int)<(f.cum:Int):=by omega
      clear T s0;obtain rfl:r=false:=PN.2 (λh=>absurd (I.out.2.1 h) (λh=>h4 h.qe));go_wp2_with fail;go_ret;exact⟨rfl,J.out.1⟩
    ·have i3:(32:Int)<(l.length:Int):=by omega
     clear T s0;obtain rfl:r=false:=PN.2 (λh=>absurd (I.out.2.1 h) (λh=>h3 (by rw[B.out.qe];exact h.qd)));go_wp2_with fail;go_ret;exact⟨rfl,J.out.1⟩
   ·have i2:(0:Int)<(ni:Int):=by omega
    clear T s0;obtain rfl:r=false:=PN.2 (λh=>absurd (I.out.2.1 h) (λh=>h2 (by rw[B.out.rf];exact h.qc)));go_wp2_with fail;go_ret;exact⟨rfl,J.out.1⟩
  ·have i1:¬(f.base:Int)=0:=by omega
   clear T s0;obtain rfl:r=false:=PN.2 (λh=>absurd (I.out.2.1 h) (λh=>h1 h.2.1));go_wp2_with fail;go_ret;exact⟨rfl,J.out.1⟩
def Nk (f:Vy)(g d:Nat):Prop:=1<=f.base/\f.inc=0/\f.cum=0/\f.limit=0/\g=0/\d=0
theorem Z0(w:AC)(f:Vy)(M L:Option Addr)(i rc g K:Nat)(d:r=true↔Nk f i g) :
  DJ Tryz.prog 141 #[.agg (f.cells (.slice M i rc) (.slice L g K))] w λz w'=>z=.returned (.bool r)/\Xy No w w':=by
 unfold Nk at d;unfold Vy.cells;by_cases C:1<=f.base
 ·have D:(1:Int)<=(f.base:Int):=by omega
  by_cases k:f.inc=0
  ·have E:(f.inc:Int)=0:=by omega
   by_cases m:f.cum=0
   ·have G:(f.cum:Int)=0:=by omega
    by_cases n:f.limit=0
    ·have H:(f.limit:Int)=0:=by omega
     by_cases A:i=0
     ·have I:(i:Int)=0:=by omega
      by_cases B:g=0
      ·have J:(g:Int)=0:=by omega
       obtain rfl:r=true:=d.2 ⟨C,k,m,n,A,B⟩;clear C k m n A B;clear d;go_enter Tryz.func141,Tryz.ntmps141;go_wp2_with fail;go_ret;exact⟨rfl,(Xy.refl _ _).alloc _⟩
      ·have J:¬(g:Int)=0:=by omega
       have T:((g:Int)==0)=false:=by simp[B]
       obtain rfl:r=false:=PN.2 (λh=>absurd (d.1 h) (by simp[B]));clear B;clear d;go_enter Tryz.func141,Tryz.ntmps141;go_wp2_with fail;go_ret;exact⟨rfl,(Xy.refl _ _).alloc _⟩
     ·have I:¬(i:Int)=0:=by omega
      have Q:((i:Int)==0)=false:=by simp[A]
      obtain rfl:r=false:=PN.2 (λh=>absurd (d.1 h) (by simp[A]));clear A;clear d;go_enter Tryz.func141,Tryz.ntmps141;go_wp2_with fail;go_ret;exact⟨rfl,(Xy.refl _ _).alloc _⟩
    ·have H:¬(f.limit:Int)=0:=by omega
     have P:((f.limit:Int)==0)=false:=by simp[n]
     obtain rfl:r=false:=PN.2 (λh=>absurd (d.1 h) (by simp[n]));clear n;clear d;go_enter Tryz.func141,Tryz.ntmps141;go_wp2_with fail;go_ret;exact⟨rfl,(Xy.refl _ _).alloc _⟩
   ·have G:¬(f.cum:Int)=0:=by omega
    have O:((f.cum:Int)==0)=false:=by simp[m]
    obtain rfl:r=false:=PN.2 (λh=>absurd (d.1 h) (by simp[m]));clear m;clear d;go_enter Tryz.func141,Tryz.ntmps141;go_wp2_with fail;go_ret;exact⟨rfl,(Xy.refl _ _).alloc _⟩
  ·have E:¬(f.inc:Int)=0:=by omega
   have N:((f.inc:Int)==0)=false:=by simp[k]
   obtain rfl:r=false:=PN.2 (λh=>absurd (d.1 h) (by simp[k]));clear k;clear d;go_enter Tryz.func141,Tryz.ntmps141;go_wp2_with fail;go_ret;exact⟨rfl,(Xy.refl _ _).alloc _⟩
 ·have D:¬(1:Int)<=(f.base:Int):=by omega
  obtain rfl:r=false:=PN.2 (λh=>absurd (d.1 h) (by simp[C]));clear C;clear d;go_enter Tryz.func141,Tryz.ntmps141;go_wp2_with fail;go_ret;exact⟨rfl,(Xy.refl _ _).alloc _⟩
theorem Y3(k:Nat)(d:¬(k:Int)=1)(f:¬(k:Int)=2)(g:¬(k:Int)=3)(h:¬(k:Int)=4)(w:AC):DJ Tryz.prog 94 #[.int .u8 k] w λz w'=>z=.returned (.tuple #[.agg #[.string ⟨#[]⟩,.nilFunc,.nilFunc,.nilFunc],.bool false])/\Xy No w w':=by go_enter Tryz.func94,Tryz.ntmps94;go_wp2_with fail;refine bodyPost_ret (v:=.tuple #[.agg #[.string ⟨#[]⟩,.nilFunc,.nilFunc,.nilFunc],.bool false]) (Jl rfl _ _ w.heap.size 210 #[.string ⟨#[]⟩,.nilFunc,.nilFunc,.nilFunc] (0,0) _ _ rfl rfl (Qy _ _) Tryz.underlying210 rfl (by kernel_rfl)) rfl ⟨rfl,(Xy.refl _ _).alloc _⟩
theorem Eu(f:Vy)(h:¬f.kind=1)(i:¬f.kind=2)(k:¬f.kind=3)(m:¬f.kind=4)(w:AC)(D A:Option Addr)(C rc g n:Nat) :
  DJ Tryz.prog 46 #[.agg (f.cells (.slice D C rc) (.slice A g n))] w λz w'=>z=.returned (.bool false)/\Xy No w w':=by
 have d:=Y3 f.kind (by omega) (by omega) (by omega) (by omega);clear h i k m;unfold Vy.cells;go_enter Tryz.func46,Tryz.ntmps46;go_wp2_with(go_at_call 94;refine(d _).mono ?_;rintro z E ⟨rfl,B⟩);go_ret;exact⟨rfl,(((Xy.refl No w).alloc _).then B).alloc _⟩
def GM (f:Vy):Prop:=Tl f/\((f.kind=1/\Nk f f.runs.length f.items.length)\/(f.kind=3/\Nz f f.runs.length f.items.length/\Te f.base f.items=true)\/((f.kind=2\/f.kind=4)/\ZF f))
theorem Eg[bn:Ib](f:Vy)(L:Sa w v f.runs)(J:f.runs.length<=1048576)(I:∀r∈f.runs,r.1<18446744073709551616)(hi:Xr base w B iv f.items)(H:f.items.length<=64)(G:∀x∈f.items,x.s.body.length<=1073741824)(D:r=true↔GM f) :
  DJ Tryz.prog 46 #[.agg (f.cells v iv)] w λz w'=>z=.returned (.bool r)/\Xy No w w':=by
 obtain⟨O,rc,rfl,_,_⟩:=L.form;obtain⟨N,M,rfl,_,_⟩:=hi.form;by_cases d:Tl f;rotate_left
 ·obtain rfl:r=false:=PN.2 (λh=>d (D.1 h).1);by_cases m:f.kind=1
  ·exact Cr f (g:=141) (by rw[m];exact Ax) w _ _ _ _ _ _ d
  by_cases n:f.kind=2
  ·exact Cr f (g:=138) (by rw[n];exact Y0) w _ _ _ _ _ _ d
  by_cases A:f.kind=3
  ·exact Cr f (g:=144) (by rw[A];exact Y1) w _ _ _ _ _ _ d
  by_cases C:f.kind=4
  ·exact Cr f (g:=138) (by rw[C];exact Y2) w _ _ _ _ _ _ d
  exact Eu f m n A C w _ _ _ _ _ _
 have E:(f.kind=2\/f.kind=4)->∀X,Xy No w X->DJ Tryz.prog 138 #[.agg (f.cells (.slice O f.runs.length rc) (.slice N f.items.length M))] X λz w'=>z=.returned (.bool r)/\Xy No X w':=λP X k =>
  Z3 f (L.no k) N M J I (by omega) (D.trans ⟨λh=>by
   rcases h.2 with⟨h,_⟩|⟨h,_⟩|⟨_,h⟩
   ·omega
   ·omega
   ·exact h,λh=>⟨d,.inr (.inr ⟨P,h⟩)⟩⟩)
 by_cases m:f.kind=1
 ·exact Da f (g:=141) (WC Tryz.func141 (by kernel_rfl) rfl) (by rw[m];exact Ax) w _ _ _ _ _ _ d (λX k=>Z0 X f _ _ _ _ _ _ (D.trans ⟨λh=>by
   rcases h.2 with⟨_,h⟩|⟨h,_⟩|⟨h,_⟩
   ·exact h
   ·omega
   ·omega,λh=>⟨d,.inl ⟨m,h⟩⟩⟩))
 by_cases n:f.kind=2
 ·exact Da f (g:=138) (WC Tryz.func138 (by kernel_rfl) rfl) (by rw[n];exact Y0) w _ _ _ _ _ _ d (E (.inl n))
 by_cases A:f.kind=3
 ·refine Da f (g:=144) (WC Tryz.func144 (by kernel_rfl) rfl) (by rw[A];exact Y1) w _ _ _ _ _ _ d (λX k=>?_);by_cases i:Nz f f.runs.length f.items.length
  ·have K:=i.qd;obtain rfl:r=Te f.base f.items:=by
    rw[WA,D];constructor
    ·intro h;rcases h.2 with⟨h,_⟩|⟨_,_,h⟩|⟨h,_⟩
     ·omega
     ·exact h
     ·omega
    ·exact λh=>⟨d,.inr (.inl ⟨A,i,h⟩)⟩
   rw[K];exact Iu f O rc (hi.no k) H G i.1 i.2.1 i.qc
  ·obtain rfl:r=false:=PN.2 (λh=>by
    rcases(D.1 h).2 with⟨h,_⟩|⟨_,h,_⟩|⟨h,_⟩
    ·omega
    ·exact i h
    ·omega)
   exact Z1 X f _ _ _ _ _ _ (by omega) (by omega) i
 by_cases C:f.kind=4
 ·exact Da f (g:=138) (WC Tryz.func138 (by kernel_rfl) rfl) (by rw[C];exact Y2) w _ _ _ _ _ _ d (E (.inr C))
 obtain rfl:r=false:=PN.2 (λh=>by
  rcases(D.1 h).2 with⟨h,_⟩|⟨h,_⟩|⟨h,_⟩<;>omega)
 exact Eu f m n A C w _ _ _ _ _ _
def Cq (f:Vy):Vy:={f with items:=My f.items,runs:=f.runs.take 40}
theorem Sa.front(h:Sa w (.slice ao n cap) l)(E:m<=l.length):Sa w (.slice ao m cap) (l.take m):=by
 obtain⟨f,d,e,D,A,B⟩:=h;simp only[DB]at e;obtain⟨rfl,_,rfl⟩:=e;have k:(l.take m).length=m:=by rw[List.length_take];omega
 refine⟨ao,cap,by rw[k],by omega,A,?_⟩;rcases B with rfl|⟨g,o,z,C⟩
 ·exact .inl (by simp)
 ·exact .inr ⟨g,o,z,λi r hi=>C i r (by
   rw[List.getElem?_take]at hi
   split at hi
   ·exact hi
   ·cases hi)⟩
theorem Ft{P:Program}{k:Func}{p:Tmp}{f:TypeId}(h:k.results=#[.cell p f])(tmps:Array AM)(w:AC)(g:Nat)(t:TypeId)(cs:Array AM)(fr:Nat×Nat)(d:TypeDesc)(z:tmps.getD p LW=.pointer (AF ⟨g,0,AI⟩))(n:w.heap[g]?=AF (.cells cs t fr))(A:P.underlying f=AF d)(m:(match d with|.struct _|.array _ _=>true|_=>false)=true)(hi:(P.info? f).map (·.size)=AF cs.size) :
  (results k tmps).run P w=.ok (.agg cs) w:=by
 have i:tmps[p]?.getD LW=.pointer (AF ⟨g,0,AI⟩):=by simpa using z
 simp[results,h,i,asAddr,run_loadVar_row w g t f cs fr d n A m hi]
def Nn:Array AM:=#[.int .u8 0,.int .i64 0,.int .u64 0,.int .u64 0,.int .u64 0,.int .u64 0,.int .u64 0,.slice AI 0 0,.slice AI 0 0]
theorem QB[bn:Ib](f:Vy)(hv:Sa w fv f.runs)(h:Rw base w fi f.items)(L:base<=w.heap.size)(hT:ban.top<=w.heap.size) :
  DJ Tryz.prog 41 #[.agg (f.cells fv fi)] w λe w'=>∃rv iv,e=.returned (.agg ((Cq f).cells rv iv))/\(∀Y,Sa Y fv f.runs->Sa Y rv (f.runs.take 40))/\Xr base w' w.heap.size iv (My f.items)/\Xy No w w':=by
 obtain⟨ao,cap,rfl,an,aV⟩:=h.form;obtain⟨A,rc,rfl,ac,ap⟩:=hv.form;have aY:(f.items.length:Int)<=9223372036854775807:=by unfold maxLen at aV;omega
 obtain⟨W,hW⟩:∃W,W=(w.alloc (.cells (f.cells (.slice A f.runs.length rc) (.slice ao f.items.length cap)) 69)).alloc (.cells Nn 69):=⟨_,rfl⟩;have k1:=(Xy.refl No w).alloc (.cells (f.cells (.slice A f.runs.length rc) (.slice ao f.items.length cap)) 69);have k2:=(Xy.refl No (w.alloc (.cells (f.cells (.slice A f.runs.length rc) (.slice ao f.items.length cap)) 69))).alloc (.cells Nn 69);have E:=k2.heap (Qy w (.cells (f.cells (.slice A f.runs.length rc) (.slice ao f.items.length cap)) 69)) id;have hR:=Qy (w.alloc (.cells (f.cells (.slice A f.runs.length rc) (.slice ao f.items.length cap)) 69)) (.cells Nn 69);rw[World.size_alloc]at hR;have kW:=k1.then k2;rw[<- hW]at E hR kW;have aP:w.heap.size+2=W.heap.size:=by rw[hW];simp
 have P:=BX (A10 (h.no kW) (BF L kW.size) (BF hT kW.size) aY hv E hR kW ac aP);have HB:=BX L;clear h L hT aV an aY hv E hR kW k1 k2 ac ap aP;unfold Vy.cells Nn at hW;unfold Vy.cells;go_enter Tryz.func41,Tryz.ntmps41;go_upto_block 0 with fail;rw[<- hW];clear hW;go_wp2_with fail;go_loopw [3,9] (λv3 v9 wr=>∃k,v9=.int .i64 (k:Nat)/\k<=f.items.length/\Xr base wr W.heap.size v3 (My (f.items.take k))/\Xy No W wr) (λ_ v9 _=>f.items.length-(intOf v9).toNat);case atStart=>exact⟨0,rfl,Nat.zero_le _,Xr.nil _ _ _,Xy.refl _ _⟩
 case round =>
  obtain⟨k,rfl,hk,z,O⟩:=hrel;obtain⟨I,H,rfl,_,_⟩:=z.form;by_cases M:k<f.items.length
  ·have hx:f.items[k]?=AF f.items[k]:=BY M;have N:=λh8=>G4 hx h8;have aD:=λh8=>G7 (l:=f.items) (k:=k) h8;obtain⟨g,o,al,hn,u,aA,c0,c1,c2⟩:=P.out.1.at hx;generalize f.items[k]=x at hx N hn aA c0 c1;obtain⟨uo,uc,rfl⟩:=aA.form;subst al;have c0:=O.cell c0 id;have c1:=O.cell c1 id;have c2:=O.cell c2 id;have am:(k:Int)<(f.items.length:Int):=by omega
   have ar:IntKind.i64.wrap ((k:Int)+1)=((k+1:Nat):Int):=by have:=P.out.qd;rw[PO];omega
   obtain⟨tk,B⟩:∃tk,tk=My (f.items.take k):=⟨_,rfl⟩;have X:tk.length<=8:=by rw[B];exact Tf _
   rw[<- B]at z N aD;have aO:tk.length=(My (f.items.take k)).length:=by rw[B]
   rw[<- aO];have kA:=(Xy.refl No wr).alloc (.cells #[.int .u64 x.n,.int .i64 x.s.c,.slice uo x.s.body.length uc] 111);have E:=Qy wr (.cells #[.int .u64 x.n,.int .i64 x.s.c,.slice uo x.s.body.length uc] 111);by_cases h8:k<8
   ·have aj:(k:Int)<8:=by omega
    have hcut:=TQ ((aA.no O).no kA) 40 (by decide);obtain⟨cb,aL⟩:∃cb,cb=x.s.body.take 40:=⟨_,rfl⟩;have aU:MM x=⟨x.n,⟨x.s.c,cb⟩⟩:=by rw[aL];rfl
    rw[<- aL]at hcut;rw[aU]at N;clear aL aU;have d:=BX (A7 z O (N h8) X kA E M);clear z O N aD X kA E M hx B aO aA hk h8 hn;go_wp2_with fail;refine hcut.mono ?_;rintro e w2⟨v2,rfl,J,k2⟩;obtain⟨o2,Q,rfl⟩:=J.form;have C:=k2.heap d.out.qf id;have d0:=Qq C 0;have d1:=Qq C 1;have d2:=Qq C 2;have fA:=Qg C;simp at d0 d1 d2;obtain⟨W3,ak⟩:∃W3,w2.setCell ⟨wr.heap.size,2,AI⟩ (.slice o2 cb.length Q)=W3:=⟨_,rfl⟩;have k3:Xy (·=wr.heap.size) w2 (w2.setCell ⟨wr.heap.size,2,AI⟩ (.slice o2 cb.length Q)):=Qd _ _;have T:=Qz (i:=2) (u:=.slice o2 cb.length Q) C;have aq:wr.heap.size<(wr.alloc (.cells #[.int .u64 x.n,.int .i64 x.s.c,.slice uo x.s.body.length uc] 111)).heap.size:=by simp
    have aB:=J.keep k3 (λb L e=>by have:=(J.lt b L).1;have e:b=wr.heap.size:=e;omega);have V:=(d.out.1.no d.out.qe).no k2;have aK:base<=wr.heap.size:=BF P.out.2.1 d.out.2.1.size;have aW:Uz base w2 (·=wr.heap.size):=λb e=>by
     subst e;exact⟨aK,Qt C,λcs fr e=>by rw[C]at e;simp at e⟩
    have G:=V.keep aW k3 (λb L e=>by
     obtain⟨xs,_,_,h3⟩:=d.out.1;have:=(BL h3 b L).2;have e:b=wr.heap.size:=e
     omega)
    rw[ak]at k3 T aB G;have p0:=Qq T 0;have p1:=Qq T 1;have p2:=Qq T 2;simp at p0 p1 p2;have kB:=(Xy.refl No W3).alloc (.cells #[.int .u64 x.n,.int .i64 x.s.c,.slice o2 cb.length Q] 111);have hB:=Qy W3 (.cells #[.int .u64 x.n,.int .i64 x.s.c,.slice o2 cb.length Q] 111);have aT:=(aB.keep kB (λ_ _ e=>e)).bytes (base:=base) (λ_=>BF P.out.qc (by have:=d.out.2.1.size;omega));have H3:=BX (A5 (G.no kB) aT hB ((((d.out.2.1.then d.out.qe).then k2).trans k3 (λc hc e=>by have e:c=wr.heap.size:=e;have:=d.out.2.1.size;omega)).then kB) trivial);have af:=H3.out.2.2.2.1.size;clear G V aB hB kB k3 T C J k2 aq aT aW aK hcut;go_wp2_with(at_builtin;refine Mn (y:=⟨x.n,⟨x.s.c,cb⟩⟩) rfl _ _ rfl H3.out.1 P.out.2.1 rfl H3.out.qc rfl H3.out.2.1 (by have:=d.out.qd;omega) af ?_;intro ax aw w5 aM k5);go_roundw;case rel =>refine⟨k+1,by congr 1,by have:=d.out.rg;omega,by rw[d.out.qc];exact aM,H3.out.2.2.2.1.trans k5 (λc hc e=>?_)⟩;obtain⟨xs,h1,h2,h3⟩:=d.out.1;have:=(BL h3 c e).1;omega
    case measure=>have:=d.out.rg;simp[intOf];omega
   ·have aj:¬(k:Int)<8:=by omega
    have d:=BX (A5 z O (aD (by omega)) M kA);clear z O N aD X kA E M hx B aO aA hk h8 hn;go_wp2_with fail;go_roundw;case rel=>exact⟨k+1,by congr 1,by have:=d.out.qd;omega,by rw[d.out.qc];exact d.out.1.no d.out.re,d.out.2.1.then d.out.re⟩
    case measure=>have:=d.out.qd;simp[intOf];omega
  ·have aX:k=f.items.length:=by omega
   have am:¬(k:Int)<(f.items.length:Int):=by omega
   have B:f.items.take k=f.items:=by rw[aX,BZ]
   obtain⟨D,Z⟩:∃D,D=(My (f.items.take k)).length:=⟨_,rfl⟩;rw[B]at z Z;have U:Xr base wr W.heap.size (.slice I D H) (My f.items):=by rw[Z];exact z
   rw[B,<- Z];have E:=O.heap P.out.qf id;have hR:=O.heap P.out.qg id;have d:=BX (A5 U O E hR Z);clear z U O hk M B aX Z E hR;go_upto_region 9 with fail;have c7:wr.cell? ⟨w.heap.size,7,AI⟩=AF (.slice A f.runs.length rc):=(Qq d.out.qc 7).trans rfl;have c8:wr.cell? ⟨w.heap.size,8,AI⟩=AF (.slice ao f.items.length cap):=(Qq d.out.qc 8).trans rfl;obtain⟨mn,aZ⟩:∃mn,mn=min f.runs.length 40:=⟨_,rfl⟩;have av:min (f.runs.length:Int) 40=(mn:Int):=by omega
   have au:(mn:Int)<=(rc:Int):=by have:=P.out.qi;omega
   have HM:=BX aZ;have E:=d.out.qc;have f8:=Qg E 8;have f7:=Qg E 7;have aI:=Qz (i:=8) (u:=.slice I D H) E;have ah:=(Qq aI 7).trans rfl;have aQ:=Qz (i:=7) (u:=.slice A mn rc) aI;have ag:Xy (·=w.heap.size) wr ((wr.setCell ⟨w.heap.size,8,AI⟩ (.slice I D H)).setCell ⟨w.heap.size,7,AI⟩ (.slice A mn rc)).drew:=((Qd _ _).trans (Qd _ _) (λ_ _ e=>e)).then (Xy.refl _ _).drew;have HK:=BX (A2 aQ ag);clear E aZ aQ ag aI;refine Ql (λw'=>w'.cell? ⟨w.heap.size,7,AI⟩=AF (.slice A f.runs.length rc)) [0,1,2,3,4,5,6,7] [8,9] [10,11] (by kernel_rfl) (by kernel_rfl) (λ_ _ _ _ _ h=>h) c7 ?_;iterate 8(refine Qk (v:=?_) rfl rfl rfl ?_ ?_;rotate_left;focus(
    intro w' hS;go_simp
    try with_reducible rfl))
   refine Qj (Qx rfl rfl (λK hK=>?_));go_simp;refine hK _ _ c7 ?_;clear hK K;refine Qx rfl rfl (λK hK=>?_);go_simp;refine hK _ _ ah ?_;clear hK K;refine Qh (Qu rfl (Qu rfl (Qm ?_)));show wpList _ _ _ [_,_] _ _;go_upto_region 10 with fail;obtain⟨W9,aC⟩:∃W9,W9=((wr.setCell ⟨w.heap.size,8,AI⟩ (.slice I D H)).setCell ⟨w.heap.size,7,AI⟩ (.slice A mn rc)).drew:=⟨_,rfl⟩;rw[<- aC];have aR:W9.heap[w.heap.size]?=AF (.cells (f.cells (.slice A mn rc) (.slice I D H)) 69 (0,0)):=by rw[aC];exact HK.out.1
   have k9:Xy (·=w.heap.size) wr W9:=by rw[aC];exact HK.out.2
   have aJ:=k9.heap d.out.qd (by omega);obtain⟨d0,d1,d2,d3,d4,d5,d6,d7,d8⟩:=Si f aR;have aN:∀b,(Value.slice I D H).ownBlock=AF b->W.heap.size<=b:=λb L=>by
    obtain⟨xs,_,_,h3⟩:=d.out.1;exact(BL h3 b L).1
   have aK:=P.out.2.1;have aP:=P.out.rj;have aS:base<=w.heap.size:=HB.out;have aF:=d.out.1.keep (F:=(·=w.heap.size)) (Td d.out.qc aS (by simp)) k9 (λb L e=>by have:=aN b L;have e:b=w.heap.size:=e;omega);have ae:=setRow_heap W9 (w.heap.size+1) _ (f.cells (.slice A mn rc) (.slice I D H)) _ _ aJ;have kS:Xy (·=w.heap.size+1) W9 (W9.setRow (w.heap.size+1) (f.cells (.slice A mn rc) (.slice I D H))):=Zi _ _ _;have aG:=aF.keep (Td aJ (by omega) (by simp)) kS (λb L e=>by have:=aN b L;have e:b=w.heap.size+1:=e;omega);have kE:Xy No w (W9.setRow (w.heap.size+1) (f.cells (.slice A mn rc) (.slice I D H))):=((P.out.2.2.2.2.2.2.2.1.then d.out.2.1).absorb k9 (λb e=>by have e:b=w.heap.size:=e;omega)).absorb kS (λb e=>by have e:b=w.heap.size+1:=e;omega);have ad:∀Y,Sa Y (.slice A f.runs.length rc) f.runs->Sa Y (.slice A mn rc) (f.runs.take 40):=λY hy=>by
    have h1:=hy.front (m:=mn) (by rw[HM.out];exact Nat.min_le_left _ _);have e:f.runs.take 40=f.runs.take mn:=by
     rw[HM.out];by_cases h:40<=f.runs.length
     ·rw[Nat.min_eq_right h]
     ·rw[Nat.min_eq_left (by omega),BZ,List.take_of_length_le (by omega)]
    rw[e];exact h1
   have aH:Xr base (W9.setRow (w.heap.size+1) (f.cells (.slice A mn rc) (.slice I D H))) w.heap.size (.slice I D H) (My f.items):=by obtain⟨xs,h1,h2,h3⟩:=aG;exact⟨xs,h1,h2,h3.1,h3.2.imp id (λ⟨g,cap,ai,y1,y2,y3⟩=>⟨g,cap,ai,y1,by omega,y3⟩)⟩
   have HZ:=BX (A4 ae ad aH kE);clear ae ad aH kE kS aG aF aN aC aR k9 aS;unfold Vy.cells at HZ;have aE:(Tryz.prog.info? 69).map (·.size)=AF (#[DA .u8 f.kind,.int .i64 f.agent,.int .u64 f.epoch,.int .u64 f.inc,.int .u64 f.base,.int .u64 f.cum,.int .u64 f.limit,.slice A mn rc,.slice I D H]).size:=by show _=AF 9;kernel_rfl
   have ab:(#[DA .u8 f.kind,.int .i64 f.agent,.int .u64 f.epoch,.int .u64 f.inc,.int .u64 f.base,.int .u64 f.cum,.int .u64 f.limit,.slice A mn rc,.slice I D H]).all (·.oneCell')=true:=by simp[Value.oneCell']
   go_wp2_with(refine wpList_store_row rfl 69 _ _ rfl (w.heap.size+1) #[.int .u8 f.kind,.int .i64 f.agent,.int .u64 f.epoch,.int .u64 f.inc,.int .u64 f.base,.int .u64 f.cum,.int .u64 f.limit,.slice A mn rc,.slice I D H] rfl rfl 69 Nn aJ aE rfl ab ?_);refine bodyPost_ret (v:=.agg #[.int .u8 f.kind,.int .i64 f.agent,.int .u64 f.epoch,.int .u64 f.inc,.int .u64 f.base,.int .u64 f.cum,.int .u64 f.limit,.slice A mn rc,.slice I D H]) (Ft rfl _ _ (w.heap.size+1) 69 _ (0,0) _ rfl HZ.out.1 Tryz.underlying69 rfl aE) rfl ⟨_,_,rfl,HZ.out.2.1,HZ.out.qc,HZ.out.2.2.2⟩
theorem Ay[bn:Ib](f:Vy)(i:Sa w g f.runs)(h:Rw base w fi f.items)(B:base<=w.heap.size)(A:ban.top<=w.heap.size) :
  DJ Tryz.prog 41 #[.agg (f.cells g fi)] w λe w'=>∃d iv,e=.returned (.agg ((Cq f).cells d iv))/\Sa w' d (f.runs.take 40)/\Xr base w' w.heap.size iv (My f.items)/\Xy No w w' :=
 (QB f i h B A).mono λ_ _ ⟨d,iv,m,n,z,k⟩=>⟨d,iv,m,n _ (i.no k),z,k⟩
def SE (size:Int)(S:S16)(a e n b:Nat)(l:List Qc)(ok:Bool)(S2:S16):Prop :=
 ((e≠S.L.floor a\/S.L.inc<n)/\ok=false/\S2=S) \/
 (e=S.L.floor a/\n<=S.L.inc/\∃c d,Tz size S a b l c d S2/\ok=decide (c=0))
def Hel (f:Vy):Prop:=f.kind=1/\Tl f/\Nk f f.runs.length f.items.length
def Bat (f:Vy):Prop:=f.kind=3/\Tl f/\Nz f f.runs.length f.items.length/\Te f.base f.items=true
def Ny (width j:Nat)(size:Int)(S:S16)(o:List Nat)(f:Vy)(ok:Bool)(S2:S16)(d:List Nat):Prop :=
 (¬Hel f/\¬Bat f/\ok=false/\S2=S/\d=o) \/
 ∃a:Nat,f.agent=a/\a<16 /\
  ((Hel f/\Tb width j size S a f.epoch f.base ok S2/\d=if ok then o.set a 2 else o) \/
  (Bat f/\SE size S a f.epoch f.inc f.base f.items ok S2/\d=if ok=true/\o.getD a 0=0 then o.set a 4 else o))
section
variable [bn:Ib]{base:Nat}{w w':AC}{R q p width j:Nat}{size:Int}{o:List Nat}{S S':S16}{F:Nat->Prop}
theorem XI(hl:Ui base w q p width size S F)(hr:Su base w R q o)(ok:Ue width j S)(hj:j+1<=450)(f:Vy)(ro io:Option Addr)(rn rc ic:Nat)(a:Nat)(aM:f.agent=a)(ha:a<16)(aA:Xr base w B0 (.slice io f.items.length ic) f.items)(aQ:f.items.length<=8)(aL:∀x∈f.items,x.s.body.length<=40)(hh:SE size S a f.epoch f.inc f.base f.items B S')(E:base<=w.heap.size)(hT:ban.top<=w.heap.size) :
  DJ Tryz.prog 86 #[.pointer (AF ⟨R,0,AI⟩),.agg (f.cells (.slice ro rn rc) (.slice io f.items.length ic))] w λz w'=>z=.returned (.bool B)/\So base w R q p width size S' (if B=true/\o.getD a 0=0 then o.set a 4 else o) F w':=by
 obtain⟨W,hW⟩:∃W,W=w.alloc (.cells (f.cells (.slice ro rn rc) (.slice io f.items.length ic)) 69):=⟨_,rfl⟩;have V:Xy No w W:=by rw[hW];exact(Xy.refl _ _).alloc _
 have hA:W.heap[w.heap.size]?=AF (.cells (f.cells (.slice ro rn rc) (.slice io f.items.length ic)) 69 (0,0)):=by rw[hW];exact Qy _ _
 obtain⟨_,T,c2,c3,c4,_,_,_,c8⟩:=Si f hA;rw[aM]at T;have r0:=(hr.no V).led;have d:Xy No W W.drew:=(Xy.refl _ _).drew;have aH:=(hl.no V).no d;have aG:=aH.floorOf ha;have G:DJ Tryz.prog 15 #[.pointer (AF ⟨q,0,AI⟩)] W.drew λe w'=>e=.returned (.int .u64 S.L.inc)/\w'=W.drew:=by obtain⟨g,m,lv,n',s,wv,al,ak,I,_⟩:=aH;exact Sf I.led
 obtain⟨U,O⟩:∃U,U=S.L.floor a:=⟨_,rfl⟩;obtain⟨ni,C⟩:∃ni,ni=S.L.inc:=⟨_,rfl⟩;rw[<- O]at aG;rw[<- C]at G;obtain⟨o2,aI⟩:∃o2,o2=(if B=true/\o.getD a 0=0 then o.set a 4 else o):=⟨_,rfl⟩;rw[<- aI];have N:=BX aI;clear aI;have ac:(a:Int)<16:=by omega
 have aZ:¬w.heap.size=R:=λe=>by have:=Qt hr.blk;omega
 have aJ:=hr.byLed hl;have aK:¬F w.heap.size:=λe=>by have:=(hl.foot _ e).2.1;omega
 obtain⟨on,aT,_⟩:=(hr.no V).owes a ha;have aN:o.getD a 0=on:=by rw[WD,aT];rfl
 have k:=BX (A13 (hl.no V) (hr.no V) ok hj (BF E V.size) (BF hT V.size) V aJ aK (aA.no V) aQ aL aN);have HO:=BX (A3 hh O C);have ab:=BX (show w.heap.size<W.heap.size by rw[hW];simp);have aE:f.epoch≠U\/(f.epoch=U/\ni<f.inc)\/(f.epoch=U/\f.inc<=ni):=by omega
 clear hl hr ok hj E hT V hA hh aJ aK O aH aA aQ aL C aN aT;unfold Vy.cells at hW⊢;rw[aM]at hW⊢;go_enter Tryz.func86,Tryz.ntmps86;go_upto_region 1 with fail;rw[<- hW];clear hW;refine Vr (λw'=>Xy No W w') [([0,1,2,3,4,5,6,7],[8]),([9,10,11,12,13,14,15,16],[17,18,19])] (by kernel_rfl) (by kernel_rfl) (λ_ _ _ _ _ h=>h) d ?_;iterate 8(refine Qk (v:=?_) rfl rfl rfl ?_ ?_;rotate_left;focus(
  intro w' n;have f0:=n.cell r0 id;have f1:=n.cell T id;have f2:=n.cell c2 id;go_simp
  try with_reducible rfl))
 refine Qj (Qx rfl rfl (λK i=>?_));go_simp;refine aG.mono ?_;rintro e w1⟨rfl,e1⟩;subst e1;refine i _ _ d ?_;clear i K;refine Qh ?_;have HK:=BX d;rcases aE with aY|⟨aF,C⟩|⟨aF,C⟩
 ·have q1:¬(f.epoch:Int)=(U:Int):=by omega
  have ai:((f.epoch:Int)==(U:Int))=false:=by simp;omega
  have aj:((f.epoch:Int) != (U:Int))=true:=by simp;omega
  obtain⟨rfl,rfl⟩:B=false/\S'=S:=by
   rcases HO.out.1 with⟨_,I,h2⟩|⟨I,_⟩
   ·exact⟨I,h2⟩
   ·have:=HO.out.2.1;omega
  clear aY;iterate 2(refine Qk (v:=?_) rfl rfl rfl ?_ ?_;rotate_left;focus(
   intro w' n;go_simp
   try with_reducible rfl))
  iterate 6(refine Sh rfl rfl (by first|kernel_rfl|simp[AV,AW,AQ,LW]) ?_)
  refine Qj ?_;iterate 2(refine Tu rfl (by first|kernel_rfl|simp[AV,AW,AQ,LW]) d ?_)
  refine Qx rfl rfl (λK i=>?_);go_simp;refine i _ _ d ?_;clear i K;refine Qh ?_;unfold Vp;go_wp2_with fail;go_ret;exact⟨rfl,by rw[N.out,if_neg (by simp)];exact(Ui.still k.out.1 HK.out).rcv k.out.1 k.out.2.1 |> So.then k.out.2.2.2.2.2.2.1.no (λb E=>.inl E)⟩
 ·have q1:(f.epoch:Int)=(U:Int):=by omega
  have q2:(ni:Int)<(f.inc:Int):=by omega
  obtain⟨rfl,rfl⟩:B=false/\S'=S:=by
   rcases HO.out.1 with⟨_,I,h2⟩|⟨_,I,_⟩
   ·exact⟨I,h2⟩
   ·have:=HO.out.2.2;omega
  rw[q1];clear aF C;iterate 2(refine Qk (v:=?_) rfl rfl rfl ?_ ?_;rotate_left;focus(
   intro w' n;go_simp
   try with_reducible rfl))
  iterate 6(refine Qe (v:=?_) rfl rfl (by first|kernel_rfl|simp[AV,AW,AQ,LW]) ?_ ?_;rotate_left;focus(
   intro w' n;have f0:=n.cell r0 id;have f3:=n.cell c3 id;go_simp
   try with_reducible rfl))
  refine Qj ?_;refine Za rfl (by first|kernel_rfl|simp[AV,AW,AQ,LW]) (λK i=>?_);go_simp;refine G.mono ?_;rintro e w1⟨rfl,e1⟩;subst e1;refine i _ _ d ?_;clear i K;refine Za rfl (by first|kernel_rfl|simp[AV,AW,AQ,LW]) (λK i=>?_);go_simp;refine i _ _ d ?_;clear i K;refine Qx rfl rfl (λK i=>?_);go_simp;refine i _ _ d ?_;clear i K;refine Qh ?_;unfold Vp;go_wp2_with fail;go_ret;exact⟨rfl,by rw[N.out,if_neg (by simp)];exact(Ui.still k.out.1 HK.out).rcv k.out.1 k.out.2.1 |> So.then k.out.2.2.2.2.2.2.1.no (λb E=>.inl E)⟩
 ·have q1:(f.epoch:Int)=(U:Int):=by omega
  have q2:¬(ni:Int)<(f.inc:Int):=by omega
  obtain⟨c,nl,aD,aB⟩:∃c nl,Tz size S a f.base f.items c nl S'/\B=decide (c=0):=by
   rcases HO.out.1 with⟨I,_⟩|⟨_,_,I⟩
   ·have:=HO.out.2.1;have:=HO.out.2.2;omega
   ·exact I
  have HP:=BX (A2 aD aB);rw[q1];clear aF C aD aB;iterate 2(refine Qk (v:=?_) rfl rfl rfl ?_ ?_;rotate_left;focus(
   intro w' n;go_simp
   try with_reducible rfl))
  iterate 6(refine Qe (v:=?_) rfl rfl (by first|kernel_rfl|simp[AV,AW,AQ,LW]) ?_ ?_;rotate_left;focus(
   intro w' n;have f0:=n.cell r0 id;have f3:=n.cell c3 id;go_simp
   try with_reducible rfl))
  refine Qj ?_;refine Za rfl (by first|kernel_rfl|simp[AV,AW,AQ,LW]) (λK i=>?_);go_simp;refine G.mono ?_;rintro e w1⟨rfl,e1⟩;subst e1;refine i _ _ d ?_;clear i K;refine Za rfl (by first|kernel_rfl|simp[AV,AW,AQ,LW]) (λK i=>?_);go_simp;refine i _ _ d ?_;clear i K;refine Qx rfl rfl (λK i=>?_);go_simp;refine i _ _ d ?_;clear i K;refine Qh ?_;unfold Vp;go_upto_region 3 with fail;clear aG G c2 c3 q1 q2;have r0:=d.cell r0 id;have T:=d.cell T id;have c4:=d.cell c4 id;have c8:=d.cell c8 id;have Y:Xy No W.drew W.drew.drew:=(Xy.refl _ _).drew;have M:=d.then Y;have aU:=(k.out.1.no M).put (B0:=B0) (iv:=.slice io f.items.length ic) k.out.qc k.out.qd HP.out.1 (BF k.out.qe M.size) (BF k.out.qf M.size) (k.out.2.2.2.2.2.2.2.2.2.1.no M) k.out.qk k.out.ql;refine Vr (λw'=>Xy F W.drew w') [([0,1,2,3,4,5,6,7,8,9],[10]),([11,12,13,14,15],[])] (by kernel_rfl) (by kernel_rfl) (λ_ _ _ _ _ h=>h) Y.no ?_;iterate 10(refine Qk (v:=?_) rfl rfl rfl ?_ ?_;rotate_left;focus(
   intro w' n;have f0:=n.cell r0 (λe=>k.out.qh e);have f1:=n.cell T (λe=>k.out.qi e);have f4:=n.cell c4 (λe=>k.out.qi e);have f8:=n.cell c8 (λe=>k.out.qi e);go_simp
   try with_reducible rfl))
  refine Qj (Qx rfl rfl (λK i=>?_));go_simp;refine aU.mono ?_;rintro e H⟨tv,rfl,_,F6,aO,k6,aS⟩;have J:Xy F W.drew H:=Y.no.trans k6 (λ_ _ e=>e);refine i _ _ J ?_;clear i K;refine Qh ?_;iterate 5(refine Qk (v:=?_) rfl rfl rfl ?_ ?_;rotate_left;focus(
   intro w' n;go_simp
   try with_reducible rfl))
  refine Qj (Qh ?_);unfold Vp;have X:=(k.out.2.1.no HK.out).keep J k.out.qh;have T:=J.cell T (λe=>k.out.qi e);have kX:Xy (λb=>F b\/b=R) W H:=HK.out.no.trans (J.mono (λb _ e=>(Or.inl e:F b\/b=R))) (λ_ _ e=>e);have hX:∀b,F6 b->F b\/W.heap.size<=b:=λb E=>(aS b E).imp id (λe=>BF M.size e);have ad:base<=H.heap.size:=BF k.out.qe (HK.out.no.trans J (λ_ _ e=>e)).size;have D:=BX (A4 hX X aO kX);have aW:=k.out.qg;have e0:=(X.owes a (by omega));obtain⟨Z,aC,e0⟩:=e0;obtain rfl:Z=on:=by have I:=k.out.2.2.2.2.2.2.2.2.2.2.2.2;rw[WD,aC]at I;exact I
  have HG:=BX (A2 aW k.out.2.2.2.2.2.2.2.2.2.2.2.2);have f0:=Qg X.blk (1+a);clear hX kX X aO aU k6 aS J d Y M r0 c4 c8 aW aC;have HZ:=HP.out.2;by_cases hc:c=0
  ·subst hc;obtain rfl:B=true:=by rw[HZ];rfl
   clear HZ;by_cases hz:Z=0
   ·subst hz;go_upto_region 6 with fail;have A:Xy No H H.drew:=(Xy.refl _ _).drew;have Q:Xy No H.drew H.drew.drew:=(Xy.refl _ _).drew;have r0:=D.out.2.1.led;refine Vr (λw'=>Xy No H w') [([0,1,2,3,4,5,6,7],[])] (by kernel_rfl) (by kernel_rfl) (λ_ _ _ _ _ h=>h) A ?_;iterate 8(refine Qk (v:=?_) rfl rfl rfl ?_ ?_;rotate_left;focus(
     intro w' n;have f0:=n.cell e0 id;have f1:=n.cell T id;go_simp
     try with_reducible rfl))
    refine Qj (Qh ?_);unfold Vp;show wpList _ _ _ [] _ _;go_simp;go_upto_region 7 with fail;have aX:=A.cell T id;have kS:Xy (·=R) H.drew.drew (H.drew.drew.setCell ⟨R,1+a,AI⟩ (.int .u8 4)):=Qd _ _;have P:=D.out.2.1.no (A.then Q);have aR:=D.out.2.2.1.no (A.then Q);have f0:=Qg P.blk (1+a);have aV:=P.set a 4;have aP:=(aR.cellsAt P.blk (by simp) (by simp) (by simp) P.pb kS).1;have k7:=(A.then Q).no.trans kS (λ_ _ e=>e);have HN:=BX (A3 aV aP k7);clear aV aP k7 P aR;refine Ql (λw'=>Xy (·=R) H.drew w') [0,1,2,3,4,5] [6] [] (by kernel_rfl) (by kernel_rfl) (λ_ _ _ _ _ h=>h) Q.no ?_;iterate 6(refine Qk (v:=?_) rfl rfl rfl ?_ ?_;rotate_left;focus(
     intro w' n;have g1:=n.cell aX aZ;go_simp
     try with_reducible rfl))
    refine Qj (Qx rfl rfl (λK i=>?_));go_simp;refine i _ _ (Q.no.trans kS (λ_ _ e=>e)) ?_;clear i K;refine Qh (Qm ?_);show wpList _ _ _ [] _ _;go_simp;go_wp2_with fail;go_ret;refine⟨rfl,?_⟩;rw[N.out,if_pos ⟨by simp,HG.out.2⟩];exact So.then HG.out.1.no (λb E=>.inl E) ⟨F6,HN.out.2.1,HN.out.1,D.out.2.2.2.trans HN.out.2.2 (λb _ e=>.inr e),D.out.1⟩
   ·have ag:¬(Z:Int)=0:=by omega
    have ah:((Z:Int)==0)=false:=by simp;omega
    go_upto_region 6 with fail;have A:Xy No H H.drew:=(Xy.refl _ _).drew;have r0:=D.out.2.1.led;refine Vr (λw'=>Xy No H w') [([0,1,2,3,4,5,6,7],[])] (by kernel_rfl) (by kernel_rfl) (λ_ _ _ _ _ h=>h) A ?_;iterate 8(refine Qk (v:=?_) rfl rfl rfl ?_ ?_;rotate_left;focus(
     intro w' n;have f0:=n.cell e0 id;have f1:=n.cell T id;go_simp
     try with_reducible rfl))
    refine Qj (Qh ?_);unfold Vp;show wpList _ _ _ [] _ _;go_simp;go_wp2_with fail;go_ret;refine⟨by simp,?_⟩;rw[N.out,if_neg (λh=>hz (by rw[<- HG.out.2];exact h.2))];exact So.then HG.out.1.no (λb E=>.inl E) ⟨F6,D.out.2.2.1.no A,D.out.2.1.no A,D.out.2.2.2.then A,D.out.1⟩
  ·have ae:(c==0)=false:=by simp[hc]
   have af:(c != 0)=true:=by simp[hc]
   obtain rfl:B=false:=by rw[HZ];simp[hc]
   clear HZ;go_wp2_with fail;go_ret;exact⟨rfl,by rw[N.out,if_neg (by simp)];exact So.then HG.out.1.no (λb E=>.inl E) ⟨F6,D.out.qc,D.out.2.1,D.out.2.2.2,D.out.1⟩⟩
end
end Go.Proofs.YtfdmbomlkpkegaaGreat
