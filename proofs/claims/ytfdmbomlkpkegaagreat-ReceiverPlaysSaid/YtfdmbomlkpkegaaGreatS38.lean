/- Lemmas. -/
import Derived.Test.YtfdmbomlkpkegaaGreatS37
set_option maxRecDepth 100000
set_option maxHeartbeats 8000000
set_option linter.all false
set_option autoImplicit true
set_option relaxedAutoImplicit true
open Bool renaming eq_false_iff->PN
open Go renaming Calls->DJ,Value->AM,World->AC,undef->LW,wpList->AX,yielded->AW
open Go.Act renaming put->AQ
open Go.Lib renaming hid->BX
open Go.Region renaming wanted->AV
open List renaming eq_nil_of_length_eq_zero->BJ,getElem?_eq_getElem->BY
open Nat renaming add_comm->BC,le_trans->BF,zero_le->BW
open Option renaming none->AI,some->AF
namespace Go.Proofs.YtfdmbomlkpkegaaGreat
open Go Go.RowKit Go.Dr Go.Shelf
def Vy.dcells (f:Vy)(d iv:AM):Array AM:=#[.int .i64 f.kind,.int .i64 f.agent,.int .u64 f.epoch,.int .u64 f.inc,.int .u64 f.base,.int .u64 f.cum,.int .u64 f.limit,d,iv]
theorem Tn{w:AC}(f:Vy)(h:w.heap[g]?=AF (.cells (f.dcells d iv) 106 (0,0))) :
    w.cell? ⟨g,0,AI⟩=AF (.int .i64 f.kind)/\w.cell? ⟨g,1,AI⟩=AF (.int .i64 f.agent)/\w.cell? ⟨g,2,AI⟩=AF (.int .u64 f.epoch)/\w.cell? ⟨g,3,AI⟩=AF (.int .u64 f.inc)/\w.cell? ⟨g,4,AI⟩=AF (.int .u64 f.base)/\w.cell? ⟨g,5,AI⟩=AF (.int .u64 f.cum)/\w.cell? ⟨g,6,AI⟩=AF (.int .u64 f.limit)/\w.cell? ⟨g,7,AI⟩=AF d/\w.cell? ⟨g,8,AI⟩=AF iv :=
  ⟨Qq h 0,Qq h 1,Qq h 2,Qq h 3,Qq h 4,Qq h 5,Qq h 6,Qq h 7,Qq h 8⟩
def VD (f:Vy)(g d:Nat):Prop:=Tl f/\((f.kind=1/\Nk f g d)\/(f.kind=3/\1<=f.base/\f.cum=0/\f.limit=0/\g=0)\/((f.kind=2\/f.kind=4)/\f.base=0/\d=0))
theorem GZ(a b:Int):(a==b)=decide (a=b):=rfl
theorem NL(a b:Int):(a != b)=decide (¬a=b):=by simp[bne,GZ]
theorem JW(w:AC)(f:Vy)(n m:Option Addr)(h rc d k:Nat)(g:¬VD f h d) :
    DJ Tryz.prog 93 #[.agg (f.dcells (.slice n h rc) (.slice m d k))] w λz w'=>z=.returned (.bool false)/\Xy No w w':=by
  unfold VD Tl Nk at g;have i:=BX g;clear g;unfold Vy.dcells;go_enter Tryz.func93,Tryz.ntmps93;go_wp2_with fail;all_goals first|(go_ret;exact⟨rfl,(Xy.refl _ _).alloc _⟩)|(exfalso;have g:=i.out;simp only[GZ,NL,decide_eq_false_iff_not,Bool.not_eq_false',decide_eq_decide,<- Bool.decide_or]at *;omega)
def VF (f:Vy)(r:Bool):Prop:=(r=true->f.kind%2=0\/Hel f\/Bat f)/\(Hel f\/Bat f->r=true)
theorem X2(h:Hel f\/Bat f->False):VF f false:=⟨λe=>by(cases e),λe=>(h e).elim⟩
theorem J1(h:VD f f.runs.length f.items.length)(i:f.items.length<=64)(hi:Te f.base f.items=true):VF f true:=by
  refine⟨λ_=>?_,λ_=>rfl⟩;obtain⟨k,⟨d,g⟩|⟨d,g,m,n,p⟩|⟨d,_⟩⟩:=h
  · exact .inr (.inl ⟨d,k,g⟩)
  · exact .inr (.inr ⟨d,k,⟨g,m,n,p,i⟩,hi⟩)
  · exact .inl (by omega)
def P5 (f:Vy)(w:AC)(z:Ending)(w':AC):Prop:=∃r,z=.returned (.bool r)/\VF f r/\Xy No w w'
theorem P5.no(h:Hel f\/Bat f->False)(k:Xy No w w'):P5 f w (.returned (.bool false)) w':=⟨false,rfl,X2 h,k⟩
def ItI (f:Vy)(W:AC)(g d:AM)(wr:AC):Prop:=∃k last,d=.int .i64 (k:Nat)/\k<=f.items.length/\g=.int .u64 (last:Nat)/\(∀i,i<k->Cd f.base f.items i=true)/\((k=0/\last=f.base)\/(0<k/\f.base<=last/\∃y,f.items[k-1]?=AF y/\last=y.n))/\Xy No W wr
theorem Nx(h:Hel f\/Bat f):f.cum=0/\f.limit=0/\f.runs.length=0/\Te f.base f.items=true:=by
  rcases h with⟨_,_,h⟩|⟨_,_,h,d⟩
  · exact⟨h.qc,h.qd,h.qe,by rw[BJ h.rf];rfl⟩
  · exact⟨h.2.1,h.qc,h.qd,d⟩
theorem K4(f:Uk m)(h:∀n,Ux m n↔Ux l n)(d:l.length=0):l=m:=by obtain rfl:=BJ d;exact Uk.ext Uk.nil f (λn=>(h n).symm)
theorem XE[bn:Ib](f:Vy)(hv:Gq w B v f.runs)(aG:f.runs.length<=1048576)(aP:∀r∈f.runs,r.2<18446744073709551616)(hi:Gs base w iv f.items)(aI:f.items.length<=64)(L:∀x∈f.items,x.s.body.length<=1073741824)(hp:VD f f.runs.length f.items.length) :
    DJ Tryz.prog 93 #[.agg (f.dcells v iv)] w (P5 f w):=by
  obtain⟨ro,rc,rfl,_,_⟩:=hv.form;obtain⟨io,ic,rfl,_,_⟩:=Us.form hi;obtain⟨W,hW⟩:∃W,W=w.alloc (.cells (f.dcells (.slice ro f.runs.length rc) (.slice io f.items.length ic)) 106):=⟨_,rfl⟩;have kW:Xy No w W:=by rw[hW];exact(Xy.refl _ _).alloc _
  have hA:W.heap[w.heap.size]?=AF (.cells (f.dcells (.slice ro f.runs.length rc) (.slice io f.items.length ic)) 106 (0,0)):=by rw[hW];exact Qy _ _
  obtain⟨c0,c1,c2,c3,c4,p,A,N,O⟩:=Tn f hA;have ad:(f.runs.length:Int)<=1048576:=by omega
  have ab:¬(64:Int)<(f.items.length:Int):=by omega
  have aO:=λ(X:AC) (k:Xy No W X)=>Pk ((hv.no kW).no k) aG aP;have H:=BX (A8 (hv.no kW) (hi.no kW) L hp kW aI aG aO);have aB:=hp;unfold VD Tl Nk at aB;obtain⟨⟨V,Y,Z⟩,aB⟩:=aB;have aW:¬f.agent<0:=by omega
  have aX:¬(15:Int)<f.agent:=by omega
  have aY:¬(f.epoch:Int)=0:=by omega
  have HG:=BX (A2 p A);clear hv hi L hp kW aI aG aP aO hA V Y Z p A;unfold Vy.dcells at hW⊢;go_enter Tryz.func93,Tryz.ntmps93;go_upto_region 1 with fail;rw[<- hW];clear hW;rcases aB with⟨J,e1,e2,e3,e4,e5,e6⟩|⟨J,e1,e3,e4,e5⟩|⟨J|J,e1,e6⟩;focus(
    obtain⟨p,A⟩:=HG.out;rw[e2]at c3;rw[e3]at p;rw[e4]at A;rw[J]at c0;have I:(0:Int)<(f.base:Int):=by omega
    have aE:(f.runs.length:Int)=0:=by omega
    have P:(f.items.length:Int)=0:=by omega
    clear J e1 e2 e3 e4 e5 e6;go_upto_region 6 with fail
    clear I aE P p A c0)
  rotate_left;focus(
    obtain⟨p,A⟩:=HG.out;rw[J]at c0;rw[e3]at p;rw[e4]at A;have I:(0:Int)<(f.base:Int):=by omega
    have aE:(f.runs.length:Int)=0:=by omega
    clear J e1 e3 e4 e5;go_upto_region 6 with fail
    clear I aE p A c0)
  rotate_left;focus(
    obtain⟨p,A⟩:=HG.out;rw[J]at c0;have I:(f.base:Int)=0:=by omega
    have P:(f.items.length:Int)=0:=by omega
    clear J e1 e6;go_upto_region 6 with fail
    clear I P p A c0)
  rotate_left;focus(
    obtain⟨p,A⟩:=HG.out;rw[J]at c0;have I:(f.base:Int)=0:=by omega
    have P:(f.items.length:Int)=0:=by omega
    clear J e1 e6;go_upto_region 6 with fail
    clear I P p A c0)
  rotate_left;all_goals
    obtain⟨p,A⟩:=HG.out;have kd:Xy No W W.drew:=(Xy.refl _ _).drew;by_cases h1:f.runs.length<=32
    · have i1:¬(32:Int)<(f.runs.length:Int):=by omega
      by_cases h2:f.cum<=f.limit
      · have i2:¬(f.limit:Int)<(f.cum:Int):=by omega
        clear h1 h2;refine Vr (λw'=>Xy No W w') [([0,1,2,3,4,5,6,7,8,9,10,11,12,13,14,15,16,17,18,19,20,21],[22,23]),([24,25],[])] (by kernel_rfl) (by kernel_rfl) (λ_ _ _ _ _ h=>h) kd ?_;iterate 5(refine Qk (v:=?_) rfl rfl rfl ?_ ?_;rotate_left;focus(
          intro w' d;have g0:=d.cell p id;have V:=d.cell A id;have Y:=d.cell N id;have Z:=d.cell O id;go_simp
          try with_reducible rfl))
        iterate 4(refine Qe (v:=?_) rfl rfl (by first|kernel_rfl|simp[AV,AW,AQ,LW]) ?_ ?_;rotate_left;focus(
          intro w' d;have g0:=d.cell p id;have V:=d.cell A id;have Y:=d.cell N id;have Z:=d.cell O id;go_simp
          try with_reducible rfl))
        iterate 2(refine Qk (v:=?_) rfl rfl rfl ?_ ?_;rotate_left;focus(
          intro w' d;go_simp
          try with_reducible rfl))
        iterate 5(refine Qe (v:=?_) rfl rfl (by first|kernel_rfl|simp[AV,AW,AQ,LW]) ?_ ?_;rotate_left;focus(
          intro w' d;have g0:=d.cell p id;have V:=d.cell A id;have Y:=d.cell N id;have Z:=d.cell O id;go_simp
          try with_reducible rfl))
        iterate 2(refine Qk (v:=?_) rfl rfl rfl ?_ ?_;rotate_left;focus(
          intro w' d;go_simp
          try with_reducible rfl))
        iterate 4(refine Qe (v:=?_) rfl rfl (by first|kernel_rfl|simp[AV,AW,AQ,LW]) ?_ ?_;rotate_left;focus(
          intro w' d;have g0:=d.cell p id;have V:=d.cell A id;have Y:=d.cell N id;have Z:=d.cell O id;go_simp
          try with_reducible rfl))
        refine Qj ?_;refine Za rfl (by first|kernel_rfl|simp[AV,AW,AQ,LW]) (λK hK=>?_);go_simp;refine(H.out.rh _ kd).mono ?_;rintro z w2⟨v2,m,rfl,hm,aL,aK,aT,k2⟩;obtain⟨mo,mc,rfl,_,_⟩:=hm.form;have aD:=kd.then k2;refine hK _ _ aD ?_;clear hK K;refine Za rfl (by first|kernel_rfl|simp[AV,AW,AQ,LW]) (λK hK=>?_);go_simp;refine(Ea (H.out.1.no aD) hm (by have:=H.out.qg;omega) (by have:=H.out.qg;omega)).mono ?_;rintro z w3⟨rfl,k3⟩;have M:=aD.then k3;have HS:=BX (K4 aL aK);obtain⟨q,hq⟩:∃q,q=decide (f.runs=m):=⟨_,rfl⟩;rw[<- hq];have HQ:=BX hq;clear hq aL aK aT k2 k3 hm;refine hK _ _ M ?_;clear hK K;refine Qh ?_;cases q with
        | false =>
          iterate 1(refine Qe (v:=?_) rfl rfl (by first|kernel_rfl|simp[AV,AW,AQ,LW]) ?_ ?_;rotate_left;focus(
            intro w' d;go_simp
            try with_reducible rfl))
          iterate 1(refine Qk (v:=?_) rfl rfl rfl ?_ ?_;rotate_left;focus(
            intro w' d;go_simp
            try with_reducible rfl))
          refine Qj (Qh ?_);unfold Vp;show AX _ _ _ [] _ _;go_simp;go_wp2_with fail;go_ret;exact P5.no (λh=>by have h3:=of_decide_eq_false HQ.out.symm;exact h3 (HS.out (Nx h).qc)) (H.out.2.2.2.2.1.then M)
        | true =>
          iterate 1(refine Qe (v:=?_) rfl rfl (by first|kernel_rfl|simp[AV,AW,AQ,LW]) ?_ ?_;rotate_left;focus(
            intro w' d;go_simp
            try with_reducible rfl))
          iterate 1(refine Qk (v:=?_) rfl rfl rfl ?_ ?_;rotate_left;focus(
            intro w' d;go_simp
            try with_reducible rfl))
          refine Qj (Qh ?_);unfold Vp;show AX _ _ _ [] _ _;go_simp;have c4:=M.cell c4 id;have O:=M.cell O id;have HK:=BX (A4 M p A N);clear kd aD M p A N i1 i2 c1 c2 c3;go_wp2_with fail;go_loopw [4,116] (λv4 T wr=>ItI f W v4 T wr) (λ_ T _=>f.items.length-(intOf T).toNat);case atStart=>exact⟨0,f.base,rfl,BW _,rfl,λi h=>absurd h (Nat.not_lt_zero _),.inl ⟨rfl,rfl⟩,HK.out.1⟩
          case round =>
            obtain⟨k,last,rfl,J,rfl,F,E,kr⟩:=hrel;by_cases C:k<f.items.length
            · have R:f.items[k]?=AF f.items[k]:=BY C
              generalize f.items[k]=z at R;have aU:=H.out.qc z (List.mem_of_getElem? R);obtain⟨gi,ui,aR,aQ,_,_,aA⟩:=Us.at' (Us.no H.out.2.1 kr) (λ_ _=>rfl) R;have e0:=aA 0 _ rfl;rw[Nat.add_zero]at e0;have e1:=aA 1 _ rfl;have e2:=aA 2 _ rfl;obtain⟨uo,uc,rfl⟩:=aQ.form;subst aR;have aS:(k:Int)<(f.items.length:Int):=by omega
              have kA:=(Xy.refl No wr).alloc (.cells #[.int .u64 z.n,.int .i64 z.s.c,.slice uo z.s.body.length uc] 206);have Q:=Qy wr (.cells #[.int .u64 z.n,.int .i64 z.s.c,.slice uo z.s.body.length uc] 206);have aH:DJ Tryz.prog 120 #[.agg #[.int .i64 z.s.c,.slice uo z.s.body.length uc]] (wr.alloc (.cells #[.int .u64 z.n,.int .i64 z.s.c,.slice uo z.s.body.length uc] 206)) _:=Cf (by omega);obtain⟨rs,aC⟩:∃rs,rs=z.s.right:=⟨_,rfl⟩;rw[<- aC]at aH;have aN:Cd f.base f.items k=true ↔(rs=true/\last<=z.n/\(0<k->last<z.n)):=by
                rcases E with⟨rfl,rfl⟩|⟨h0,L,y,hy,rfl⟩
                · rw[ZZ R,<- aC]
                  simp
                · rw[ZQ R hy h0,<- aC]
                  simp only[Bool.and_eq_true,decide_eq_true_eq];constructor
                  · rintro⟨a1,a2,a3⟩;exact⟨a1,by omega,λ_=>a3⟩
                  · rintro⟨a1,a2,a3⟩;exact⟨a1,by omega,a3 h0⟩
              have L:f.base<=last:=by rcases E with⟨_,rfl⟩|⟨_,h,_⟩<;>omega
              have D:=BX (A7 (kr.then kA) Q C F R aN L);clear kr kA Q F R aU aQ aA J C E aN aC L;have aZ:((z.n:Int)==(last:Int))=decide (z.n=last):=by rw[Bool.eq_iff_iff];simp;omega
              cases rs with
              | false =>
                go_wp2_with(go_at_call 120;refine aH.mono ?_;rintro e w2 ⟨rfl,k2⟩;have aF:=k2.heap D.out.2.1 id;have n0:=Qq aF 0;simp at n0);go_ret;exact P5.no (λh=>by
                  have h1:=Tr D.out.qc (PN.2 (λe=>by have:=(D.out.2.2.2.2.2.1.1 e).1;cases this));have h2:=(Nx h).2.2.2;rw[h1]at h2
                  cases h2) (H.out.2.2.2.2.1.then (D.out.1.then k2))
              | true =>
                go_wp2_with(go_at_call 120;refine aH.mono ?_;rintro e w2 ⟨rfl,k2⟩;have aF:=k2.heap D.out.2.1 id;have n0:=Qq aF 0;simp at n0;have HW:=BX k2;clear k2);all_goals first
                  | (go_ret
                     exact P5.no (λh=>by
                      have h1:=Tr D.out.qc (PN.2 (λe=>by have:=(D.out.2.2.2.2.2.1.1 e).2;omega));have h2:=(Nx h).2.2.2;rw[h1]at h2
                      cases h2) (H.out.2.2.2.2.1.then (D.out.1.then HW.out)))
                  | (go_roundw
                     case rel =>
                      unfold ItI;exact⟨k+1,z.n,by go_num,D.out.qc,rfl,λi hi=>by
                      rcases Nat.lt_or_eq_of_le (Nat.le_of_lt_succ hi)with hi|rfl
                      · exact D.out.qd i hi
                      · exact D.out.2.2.2.2.2.1.2 ⟨by simp,by omega,by omega⟩,.inr ⟨Nat.succ_pos _,by have:=D.out.rg;omega,z,D.out.qe,rfl⟩,D.out.1.then HW.out⟩
                     case measure=>have:=D.out.qc;simp[intOf];omega)
            · have aJ:k=f.items.length:=by omega
              have aS:¬(k:Int)<(f.items.length:Int):=by omega
              have p:=kr.cell HK.out.2.1 id;have A:=kr.cell HK.out.qc id;have N:=kr.cell HK.out.2.2.2 id;rw[aJ]at F;have D:=BX (A2 kr (Ap F));clear kr F J C aJ E;go_wp2_with fail;go_loopw [147] (λU wx=>∃k,U=.int .i64 (k:Nat)/\k<=f.runs.length/\Xy No wr wx) (λU _=>f.runs.length-(intOf U).toNat);case atStart=>exact⟨0,rfl,BW _,Xy.refl _ _⟩
              case round =>
                obtain⟨i,rfl,hi,kx⟩:=hrel;by_cases C:i<f.runs.length
                · have aM:f.runs≠[]:=by intro e;rw[e]at C;simp at C
                  obtain⟨g,hg,hr⟩:=(H.out.1.no (D.out.1.then kx)).row aM;subst hg;have R:f.runs[i]?=AF f.runs[i]:=BY C;generalize f.runs[i]=x at R;obtain⟨a0,a1⟩:=hr i x R;have aV:(i:Int)<(f.runs.length:Int):=by omega
                  have kB:=(Xy.refl No _).alloc (.cells #[.int .u64 x.1,.int .u64 x.2] 204) |> kx.then;have p:=kB.cell p id;have A:=kB.cell A id;have HX:=BX (A2 kB C);clear hr R aM hi C kx kB;go_wp2_with fail;all_goals first
                    | (go_ret
                       exact P5.no (λh=>by have h1:=(Nx h).qc;have:=HX.out.2;omega) (H.out.2.2.2.2.1.then (D.out.1.then HX.out.1)))
                    | (go_roundw
                       case rel=>exact⟨i+1,by go_num,HX.out.2,HX.out.1⟩
                       case measure=>have:=HX.out.2;simp[intOf];omega)
                · have ac:¬(i:Int)<(f.runs.length:Int):=by omega
                  have HX:=BX kx;clear kx C hi;go_wp2_with fail;go_ret;exact⟨true,rfl,J1 H.out.qd H.out.qf D.out.2,H.out.2.2.2.2.1.then (D.out.1.then HX.out)⟩
      · have i2:(f.limit:Int)<(f.cum:Int):=by omega
        refine Vr (λw'=>Xy No W w') [([0,1,2,3,4,5,6,7,8,9,10,11,12,13,14,15,16,17,18,19,20,21],[22,23]),([24,25],[])] (by kernel_rfl) (by kernel_rfl) (λ_ _ _ _ _ h=>h) kd ?_;iterate 5(refine Qk (v:=?_) rfl rfl rfl ?_ ?_;rotate_left;focus(
          intro w' d;have g0:=d.cell p id;have V:=d.cell A id;have Y:=d.cell N id;have Z:=d.cell O id;go_simp
          try with_reducible rfl))
        iterate 4(refine Qe (v:=?_) rfl rfl (by first|kernel_rfl|simp[AV,AW,AQ,LW]) ?_ ?_;rotate_left;focus(
          intro w' d;have g0:=d.cell p id;have V:=d.cell A id;have Y:=d.cell N id;have Z:=d.cell O id;go_simp
          try with_reducible rfl))
        iterate 2(refine Qk (v:=?_) rfl rfl rfl ?_ ?_;rotate_left;focus(
          intro w' d;go_simp
          try with_reducible rfl))
        iterate 5(refine Qe (v:=?_) rfl rfl (by first|kernel_rfl|simp[AV,AW,AQ,LW]) ?_ ?_;rotate_left;focus(
          intro w' d;have g0:=d.cell p id;have V:=d.cell A id;have Y:=d.cell N id;have Z:=d.cell O id;go_simp
          try with_reducible rfl))
        iterate 2(refine Qk (v:=?_) rfl rfl rfl ?_ ?_;rotate_left;focus(
          intro w' d;go_simp
          try with_reducible rfl))
        iterate 4(refine Sh rfl rfl (by first|kernel_rfl|simp[AV,AW,AQ,LW]) ?_)
        refine Qj ?_;refine Tu rfl (by first|kernel_rfl|simp[AV,AW,AQ,LW]) kd ?_;refine Tu rfl (by first|kernel_rfl|simp[AV,AW,AQ,LW]) kd ?_;refine Qh ?_;iterate 1(refine Sh rfl rfl (by first|kernel_rfl|simp[AV,AW,AQ,LW]) ?_)
        iterate 1(refine Qk (v:=?_) rfl rfl rfl ?_ ?_;rotate_left;focus(
          intro w' d;go_simp
          try with_reducible rfl))
        refine Qj (Qh ?_);unfold Vp;show AX _ _ _ [] _ _;go_simp;go_wp2_with fail;go_ret;exact P5.no (λh=>by have:=Nx h;omega) (H.out.2.2.2.2.1.then kd)
    · have i1:(32:Int)<(f.runs.length:Int):=by omega
      refine Vr (λw'=>Xy No W w') [([0,1,2,3,4,5,6,7,8,9,10,11,12,13,14,15,16,17,18,19,20,21],[22,23]),([24,25],[])] (by kernel_rfl) (by kernel_rfl) (λ_ _ _ _ _ h=>h) kd ?_;iterate 5(refine Qk (v:=?_) rfl rfl rfl ?_ ?_;rotate_left;focus(
        intro w' d;have g0:=d.cell p id;have V:=d.cell A id;have Y:=d.cell N id;have Z:=d.cell O id;go_simp
        try with_reducible rfl))
      iterate 4(refine Qe (v:=?_) rfl rfl (by first|kernel_rfl|simp[AV,AW,AQ,LW]) ?_ ?_;rotate_left;focus(
        intro w' d;have g0:=d.cell p id;have V:=d.cell A id;have Y:=d.cell N id;have Z:=d.cell O id;go_simp
        try with_reducible rfl))
      iterate 2(refine Qk (v:=?_) rfl rfl rfl ?_ ?_;rotate_left;focus(
        intro w' d;go_simp
        try with_reducible rfl))
      iterate 5(refine Sh rfl rfl (by first|kernel_rfl|simp[AV,AW,AQ,LW]) ?_)
      iterate 2(refine Qk (v:=?_) rfl rfl rfl ?_ ?_;rotate_left;focus(
        intro w' d;go_simp
        try with_reducible rfl))
      iterate 4(refine Sh rfl rfl (by first|kernel_rfl|simp[AV,AW,AQ,LW]) ?_)
      refine Qj ?_;refine Tu rfl (by first|kernel_rfl|simp[AV,AW,AQ,LW]) kd ?_;refine Tu rfl (by first|kernel_rfl|simp[AV,AW,AQ,LW]) kd ?_;refine Qh ?_;iterate 1(refine Sh rfl rfl (by first|kernel_rfl|simp[AV,AW,AQ,LW]) ?_)
      iterate 1(refine Qk (v:=?_) rfl rfl rfl ?_ ?_;rotate_left;focus(
        intro w' d;go_simp
        try with_reducible rfl))
      refine Qj (Qh ?_);unfold Vp;show AX _ _ _ [] _ _;go_simp;go_wp2_with fail;go_ret;exact P5.no (λh=>by have:=Nx h;omega) (H.out.2.2.2.2.1.then kd)
section
variable [bn:Ib]{base:Nat}{w w' w'':AC}{X r xq width j:Nat}{size:Int}{o:List Nat}{S S':S16}{G G':Nat->Prop}
theorem Tj.keep(h:Tj base w X r o)(k:Xy H w w')(d:¬H X):Tj base w' X r o:=⟨k.heap h.blk d,h.len,h.pb⟩
theorem Tj.no(h:Tj base w X r o)(k:Xy No w w'):Tj base w' X r o:=h.keep k id
theorem Tj.led(h:Tj base w X r o):w.cell? ⟨X,0,AI⟩=AF (.pointer (AF ⟨r,0,AI⟩)):=by rw[Qq h.blk 0];rfl
theorem Tj.owes(h:Tj base w X r o)(a:Nat)(d:a<16):∃n,o[a]?=AF n/\w.cell? ⟨X,1+a,AI⟩=AF (.int .i64 (n:Nat)):=by have f:=h.len;refine⟨o[a],BY (by omega),?_⟩;rw[Qq h.blk (1+a)];simp[Se,BC 1 a];exact⟨_,BY (by omega),rfl⟩
theorem Tj.set(h:Tj base w X r o)(a n:Nat):Tj base (w.setCell ⟨X,1+a,AI⟩ (.int .i64 n)) X r (o.set a n):=by have e:=Qz (i:=1+a) (u:=.int .i64 n) h.blk;refine⟨?_,by simp[h.len],h.pb⟩;rw[e];congr 2;simp[Se,BC 1 a,List.map_set]
theorem Tj.byDoc(h:Tj base w X r o)(d:Hv base w r xq width size S G):¬G X :=
  (d.cellsAt h.blk (by simp) (by simp) h.pb (Xy.refl (·=X) w)).2
def Dx [bn:Ib](base:Nat)(w:AC)(X r xq width:Nat)(size:Int)(S:S16)(o:List Nat)(G:Nat->Prop)(w':AC):Prop :=
  ∃G',Hv base w' r xq width size S G'/\Tj base w' X r o/\Xy (λb=>G b\/b=X) w w'/\∀b,G' b->G b\/w.heap.size<=b
theorem Dx.then(g:Xy (λb=>G b\/b=X) w w')(i:∀b,G' b->G b\/w.heap.size<=b)(h:Dx base w' X r xq width size S' o G' w''):Dx base w X r xq width size S' o G w'':=by
  obtain⟨k,m,n,p,d⟩:=h;refine⟨k,m,n,g.trans p (λb f e=>?_),λb f=>?_⟩
  · rcases e with e|e
    · exact(i b e).elim .inl (λe=>by omega)
    · exact .inr e
  · rcases d b f with e|e
    · exact i b e
    · exact .inr (BF g.size e)
theorem NO(h:Hel f\/Bat f):VD f f.runs.length f.items.length:=by
  rcases h with⟨g,i,d⟩|⟨g,i,d,_⟩
  · exact⟨i,.inl ⟨g,d⟩⟩
  · exact⟨i,.inr (.inl ⟨g,d.1,d.2.1,d.qc,d.qd⟩)⟩
theorem XB(f:Vy)(p:Gq w B v f.runs)(n:f.runs.length<=1048576)(m:∀r∈f.runs,r.2<18446744073709551616)(hi:Gs base w iv f.items)(g:f.items.length<=64)(d:∀x∈f.items,x.s.body.length<=1073741824) :
    DJ Tryz.prog 93 #[.agg (f.dcells v iv)] w (P5 f w):=by
  by_cases i:VD f f.runs.length f.items.length
  · exact XE f p n m hi g d i
  · obtain⟨C,rc,rfl,_,_⟩:=p.form
    obtain⟨A,q,rfl,_,_⟩:=Us.form hi;refine(JW w f _ _ _ _ _ _ i).mono ?_;rintro z D⟨rfl,k⟩;exact P5.no (λh=>i (NO h)) k
theorem J0(h:f.kind%2=0\/Hel f\/Bat f)(d:¬Hel f)(g:¬Bat f):((f.kind:Int)%2==0)=true:=by
  rcases h with h|h|h
  · simp
    omega
  · exact absurd h d
  · exact absurd h g
theorem Hv.told(h:Hv base w r xq width size S G)(ok:Ue width j S)(i:j<=450)(g:base<=w.heap.size)(f:ban.top<=w.heap.size) :
    DJ Tryz.prog 74 #[.pointer (AF ⟨r,0,AI⟩),.int .i64 (-1)] w λe w'=>∃cs,e=.returned (.tuple #[.agg cs,.int .i64 0])/\ZP base w' cs S.L/\Xy No w w':=by
  obtain⟨k,d,_⟩:=h;exact(Hv.rr d ok i).told g f
theorem Ii(R:Tj base w X r o)(f:Vy)(q n:Option Addr)(p rc g m:Nat)(F:¬Hel f)(H:¬Bat f)(d:∀Y,Xy No w Y->DJ Tryz.prog 93 #[.agg (f.dcells (.slice q p rc) (.slice n g m))] Y (P5 f Y)) :
    DJ Tryz.prog 43 #[.pointer (AF ⟨X,0,AI⟩),.agg (f.dcells (.slice q p rc) (.slice n g m))] w λz w'=>z=.returned (.bool false)/\Xy No w w':=by
  obtain⟨W,h⟩:∃W,W=w.alloc (.cells (f.dcells (.slice q p rc) (.slice n g m)) 106):=⟨_,rfl⟩;have D:Xy No w W:=by rw[h];exact(Xy.refl _ _).alloc _
  have B:W.heap[w.heap.size]?=AF (.cells (f.dcells (.slice q p rc) (.slice n g m)) 106 (0,0)):=by rw[h];exact Qy _ _
  obtain⟨E,J,K,L,M,N,O,P,Q⟩:=Tn f B;have d:=d W D;have A:=BX (A4 D B F H);clear D B F H;unfold Vy.dcells at h d⊢;go_enter Tryz.func43,Tryz.ntmps43;go_upto_region 1 with fail;rw[<- h];clear h;go_wp2_with(go_at_call 93;refine d.mono ?_;rintro z T ⟨r,rfl,k,C⟩;have E:=C.cell E id;have i:r=true->((f.kind:Int)%2==0)=true:=λe=>J0 (k.1 e) A.out.qc A.out.2.2.2;have I:=BX C;clear k C;cases r;all_goals try have i:=i rfl);all_goals(go_ret;exact⟨rfl,A.out.1.then I.out⟩)
def MB [bn:Ib](base:Nat)(w:AC)(r xq width j:Nat)(size:Int)(G:Nat->Prop)(a b:Nat)(d:Bool)(S':S16)(v:AM)(w':AC):Prop :=
  ∃(f:Bool) (S1:S16) (g:Nat->Prop),v=.bool f/\Hv base w' r xq width size S1 g/\Xy G w w'/\(∀b,g b->G b\/w.heap.size<=b)/\((f=true/\d=false/\S'=S1)\/(f=false/\d=true/\Ue width (j+1) S1/\∃c h,Tz size S1 a b [] c h S'))
theorem Ai(hd:Hv base w r xq width size S G)(hr:Tj base w X r o)(ok:Ue width j S)(hj:j+2<=450)(f:Vy)(a:Nat)(aU:f.agent=a)(ha:a<16)(ro io:Option Addr)(rn rc ic:Nat)(O:∀Y,Xy No w Y->DJ Tryz.prog 93 #[.agg (f.dcells (.slice ro rn rc) (.slice io f.items.length ic))] Y (P5 f Y))(aP:Gs base w (.slice io f.items.length ic) f.items)(ay:f.items.length<=8)(ai:∀x∈f.items,x.s.body.length<=40)
    (hh:(Hel f/\Tb width j size S a f.epoch f.base p S'/\o2=if p then o.set a 2 else o)\/(Bat f/\SE size S a f.epoch f.inc f.base f.items p S'/\o2=if p=true/\o.getD a 0=0 then o.set a 4 else o))(k:base<=w.heap.size)(hT:ban.top<=w.heap.size) :
    DJ Tryz.prog 43 #[.pointer (AF ⟨X,0,AI⟩),.agg (f.dcells (.slice ro rn rc) (.slice io f.items.length ic))] w λz w'=>z=.returned (.bool p)/\Dx base w X r xq width size S' o2 G w':=by
  obtain⟨W,hW⟩:∃W,W=w.alloc (.cells (f.dcells (.slice ro rn rc) (.slice io f.items.length ic)) 106):=⟨_,rfl⟩;have kW:Xy No w W:=by rw[hW];exact(Xy.refl _ _).alloc _
  have hA:W.heap[w.heap.size]?=AF (.cells (f.dcells (.slice ro rn rc) (.slice io f.items.length ic)) 106 (0,0)):=by rw[hW];exact Qy _ _
  obtain⟨c0,B,c2,c3,c4,c5,c6,c7,c8⟩:=Tn f hA;rw[aU]at B;have O:=O W kW;have ax:((f.kind:Int)%2==0)=false:=by rcases hh with⟨h,_⟩|⟨h,_⟩<;>· have:=h.1;simp;omega
  have ag:Hel f\/Bat f:=hh.imp (·.1) (·.1);obtain⟨gg,hg,bM,bN,au⟩:=ok.okL.at ha;have aA:S.L.now[a]?=AF (gg.floor,gg.now):=by unfold Xs.now;rw[List.getElem?_map,hg];rfl
  obtain⟨V,aV⟩:∃V,V=S.L.floor a:=⟨_,rfl⟩;obtain⟨ni,az⟩:∃ni,ni=S.L.inc:=⟨_,rfl⟩;rw[<- au,<- aV]at aA;have Q:=(hr.no kW).led;have ae:=hr.byDoc hd;have af:¬G w.heap.size:=λe=>by have:=(hd.foot _ e).2.1;omega
  have aM:¬w.heap.size=X:=λe=>by have:=Qt hr.blk;omega
  have d:=BX (A13 (hd.no kW) (hr.no kW) ok hj (BF k kW.size) (BF hT kW.size) kW ae af (aP.no kW) ay ai hA);have E:=BX (A5 hh ag aV az aA);have bS:(a:Int)<16:=by omega
  clear hd hr ok hj k hT kW hA hh ag hg bM bN au aA aV az aP ay ai ae af;unfold Vy.dcells at hW O⊢;rw[aU]at hW O⊢;go_enter Tryz.func43,Tryz.ntmps43;go_upto_region 1 with fail;rw[<- hW];clear hW;go_upto_region 3 with(go_at_call 93;refine O.mono ?_;rintro z w1 ⟨r,rfl,bD,P⟩;obtain rfl:=bD.2 E.out.2.1;clear bD;have c0:=P.cell c0 id);have aG:=(d.out.1.no P).told d.out.qc (by have:=d.out.qd;omega) (BF d.out.qe P.size) (BF d.out.qf P.size);have Q:=P.cell Q id;have bK:=BX P;clear P O c0 B c2 c3 c4 c5 c6 c7 c8;go_upto_region 4 with(first
    | (go_at_call 74;refine aG.mono ?_;rintro e M ⟨cs,rfl,aF,k2⟩;have bG:=aF.size;have aR:=aF.all;have aO:=aF.info;have HS:=BX aF;clear aF)
    | (refine wpList_store_row rfl 168 _ _ rfl M.heap.size cs rfl rfl 168 Tryz.zeroCells168 (Qy _ _) aO (by rw[bG];rfl) aR ?_))
  have aZ:=setRow_heap _ M.heap.size _ cs _ _ (Qy M (.cells Tryz.zeroCells168 168));have k3:Xy No M ((M.alloc (.cells Tryz.zeroCells168 168)).setRow M.heap.size cs):=((Xy.refl No M).alloc _).trans (Zi _ M.heap.size cs) (λc hc e=>by have e:c=M.heap.size:=e;omega);generalize (M.alloc (.cells Tryz.zeroCells168 168)).setRow M.heap.size cs=N at *;have s0:N.cell? ⟨M.heap.size,0,AI⟩=AF (.int .u64 ni):=by rw[Qq aZ 0,HS.out.inc,E.out.qd];rfl
  have s1:N.cell? ⟨M.heap.size,1+a,AI⟩=AF (.int .u64 V):=by rw[Qq aZ (1+a),(HS.out.ags a _ E.out.re).1];rfl
  have ab:=(bK.out.then k2).then k3;have A:=BX ab;obtain⟨c0,B,c2,c3,c4,_,_,_,c8⟩:=Tn f (ab.heap d.out.2.2.2.2.2.2.2.2.2.2.2.2 id);rw[aU]at B;have Q:=(k2.then k3).cell Q id;clear aZ aO aR bG aG k2 k3 ab;generalize M.heap.size=sb at *;go_upto_region 5 with fail;clear s1;rcases E.out.1 with⟨aq,hh,aB⟩|⟨ad,hh,aB⟩
  · have av:=aq.1
    rw[av]at c0;have U:=BX (A2 hh aB);clear aq hh aB av ax s0;by_cases aW:f.epoch<V
    · have q1:(f.epoch:Int)<(V:Int):=by omega
      obtain⟨rfl,rfl⟩:p=false/\S'=S:=by
        rcases U.out.1 with⟨_,q,h2⟩|⟨q,_⟩|⟨_,S1,c,R,q,_⟩
        · exact⟨q,h2⟩
        · have:=E.out.qc;omega
        · have:=E.out.qc;rcases q with⟨q,_⟩|⟨q,_⟩<;>omega
      clear aW;go_wp2_with fail;go_ret;exact⟨rfl,by rw[U.out.2];exact Dx.then d.out.2.2.2.2.2.2.1.no (λb k=>.inl k) ⟨G,d.out.1.no A.out,d.out.2.1.no A.out,A.out.no,λb k=>.inl k⟩⟩
    · have q1:¬(f.epoch:Int)<(V:Int):=by omega
      go_upto_region 8 with fail;clear c0;go_cut [54] (λbQ wx=>MB base N r xq width j size G a f.base p S' bQ wx);case first =>
        have kd:Xy No N N.drew:=(Xy.refl _ _).drew;by_cases aK:f.epoch=V
        · have q2:¬(V:Int)<(f.epoch:Int):=by omega
          obtain⟨rfl,c,R,g⟩:p=true/\∃c R,Tz size S a f.base [] c R S':=by
            rcases U.out.1 with⟨q,_⟩|⟨q,_⟩|⟨h0,S1,c,R,q,_,h3⟩
            · have:=E.out.qc;omega
            · have:=E.out.qc;omega
            · rcases q with⟨_,rfl⟩|⟨q,_⟩
              · exact⟨h0,c,R,h3⟩
              · have:=E.out.qc;omega
          have HP:=BX g;clear g aK aW;refine Vr (λw'=>Xy G N w') [([0,1,2,3,4,5,6,7,8,9,10,11,12],[13]),([14,15],[])] (by kernel_rfl) (by kernel_rfl) (λ_ _ _ _ _ h=>h) kd.no ?_;iterate 5(refine Qk (v:=?_) rfl rfl rfl ?_ ?_;rotate_left;focus(
            intro w' i;have g0:=i.cell c2 (λe=>d.out.qi e);go_simp
            try with_reducible rfl))
          iterate 8(refine Sh rfl rfl (by first|kernel_rfl|simp[AV,AW,AQ,LW]) ?_)
          refine Qj ?_;refine Tu rfl (by first|kernel_rfl|simp[AV,AW,AQ,LW]) kd.no ?_;refine Qh ?_;iterate 1(refine Sh rfl rfl (by first|kernel_rfl|simp[AV,AW,AQ,LW]) ?_)
          iterate 1(refine Qk (v:=?_) rfl rfl rfl ?_ ?_;rotate_left;focus(
            intro w' i;go_simp
            try with_reducible rfl))
          refine Qj (Qh ?_);unfold Vp;show AX _ _ _ [] _ _;go_simp;try go_wp2_with fail
          go_meet;refine⟨false,S,G,rfl,(d.out.1.no A.out).no kd,kd.no,λb k=>.inl k,.inr ⟨rfl,rfl,d.out.2.2.1.mono (Nat.le_succ _),c,R,HP.out⟩⟩
        · have q2:(V:Int)<(f.epoch:Int):=by omega
          obtain⟨c,S1,bF,aj⟩:∃(c:Int) (S1:S16),Sp size S a f.epoch c S1/\((c≠0/\p=false/\S'=S1)\/(c=0/\p=true/\Ue width (j+1) S1/\∃c R,Tz size S1 a f.base [] c R S')):=by
            rcases U.out.1 with⟨q,_⟩|⟨_,⟨c,q,h2⟩,h3⟩|⟨h0,S1,c,R,q,h2,h3⟩
            · have:=E.out.qc;omega
            · exact⟨c,S',h2,.inl ⟨q,h3,rfl⟩⟩
            · rcases q with⟨q,_⟩|⟨_,q⟩
              · have:=E.out.qc;omega
              · exact⟨0,S1,q,.inr ⟨rfl,h0,h2,c,R,h3⟩⟩
          have D:=A.out.then kd;have J:=((d.out.1.no A.out).no kd).raise d.out.qc (by have:=d.out.qd;omega) bF (BF d.out.qe D.size) (BF d.out.qf D.size);have HC:=BX aj;clear bF aj aK aW D;refine Vr (λw'=>Xy G N w') [([0,1,2,3,4,5,6,7,8,9,10,11,12],[13]),([14,15],[])] (by kernel_rfl) (by kernel_rfl) (λ_ _ _ _ _ h=>h) kd.no ?_;iterate 5(refine Qk (v:=?_) rfl rfl rfl ?_ ?_;rotate_left;focus(
            intro w' i;have g0:=i.cell c2 (λe=>d.out.qi e);have g1:=i.cell B (λe=>d.out.qi e);have g2:=i.cell Q (λe=>d.out.qh e);go_simp
            try with_reducible rfl))
          iterate 8(refine Qe (v:=?_) rfl rfl (by first|kernel_rfl|simp[AV,AW,AQ,LW]) ?_ ?_;rotate_left;focus(
            intro w' i;have g0:=i.cell c2 (λe=>d.out.qi e);have g1:=i.cell B (λe=>d.out.qi e);have g2:=i.cell Q (λe=>d.out.qh e);go_simp
            try with_reducible rfl))
          refine Qj ?_;refine Za rfl (by first|kernel_rfl|simp[AV,AW,AQ,LW]) (λK I=>?_);go_simp;refine J.mono ?_;rintro z w5⟨rfl,T,an,k5,bB⟩;refine I _ _ (kd.no.trans k5 (λ_ _ e=>e)) ?_;clear I K;refine Qh ?_;have bI:Xy G N w5:=kd.no.trans k5 (λ_ _ e=>e);have HN:=BX (A3 an bI (show ∀b,T b->G b\/N.heap.size<=b from λb k=>(bB b k).imp id (λe=>BF kd.size e)));clear an k5 bB bI J;rcases HC.out with⟨hc,rfl,rfl⟩|⟨rfl,rfl,aJ,g⟩
          · have bV:(c==0)=false:=by simp[hc]
            have bR:(c != 0)=true:=by simp[hc]
            iterate 1(refine Qe (v:=?_) rfl rfl (by first|kernel_rfl|simp[AV,AW,AQ,LW]) ?_ ?_;rotate_left;focus(
              intro w' i;go_simp
              try with_reducible rfl))
            iterate 1(refine Qk (v:=?_) rfl rfl rfl ?_ ?_;rotate_left;focus(
              intro w' i;go_simp
              try with_reducible rfl))
            refine Qj (Qh ?_);unfold Vp;show AX _ _ _ [] _ _;go_simp;try go_wp2_with fail
            go_meet;exact⟨true,S',T,rfl,HN.out.1,HN.out.2.1,HN.out.2.2,.inl ⟨rfl,rfl,rfl⟩⟩
          · have HP:=BX (A2 aJ g)
            clear aJ g;iterate 1(refine Qe (v:=?_) rfl rfl (by first|kernel_rfl|simp[AV,AW,AQ,LW]) ?_ ?_;rotate_left;focus(
              intro w' i;go_simp
              try with_reducible rfl))
            iterate 1(refine Qk (v:=?_) rfl rfl rfl ?_ ?_;rotate_left;focus(
              intro w' i;go_simp
              try with_reducible rfl))
            refine Qj (Qh ?_);unfold Vp;show AX _ _ _ [] _ _;go_simp;try go_wp2_with fail
            go_meet;exact⟨false,S1,T,rfl,HN.out.1,HN.out.2.1,HN.out.2.2,.inr ⟨rfl,rfl,HP.out⟩⟩
      case rest =>
        obtain⟨rb,S1,T,rfl,ak,P,bA,aT⟩:=hcut
        rename AC=>wx
        have C:=(d.out.2.1.no A.out).keep P d.out.qh;have B:=P.cell B (λe=>d.out.qi e);have c4:=P.cell c4 (λe=>d.out.qi e);have bH:Xy (λb=>G b\/b=X) W wx:=A.out.no.trans (P.mono (λb _ e=>(Or.inl e:G b\/b=X))) (λ_ _ e=>e);have aQ:∀b,T b->G b\/W.heap.size<=b:=λb k=>(bA b k).imp id (λe=>BF A.out.size e);have HM:=BX (A4 ak C bH aQ);clear ak P bA bH aQ Q;rcases aT with⟨rfl,rfl,rfl⟩|⟨rfl,rfl,aJ,c,R,g⟩
        · go_wp2_with fail
          go_ret;exact⟨rfl,by rw[U.out.2];exact Dx.then d.out.2.2.2.2.2.2.1.no (λb k=>.inl k) ⟨T,HM.out.1,HM.out.2.1,HM.out.qc,HM.out.2.2.2⟩⟩
        · have HP:=BX (A2 aJ g)
          clear aJ g;go_upto_region 10 with fail;have Q:=C.led;obtain⟨on,aD,e0⟩:=C.owes a (by omega);have f0:=Qg C.blk (1+a);have kS:Xy (·=X) wx (wx.setCell ⟨X,1+a,AI⟩ (.int .i64 2)):=Qd _ _;have bC:=C.set a 2;have al:=(HM.out.1.cellsAt C.blk (by simp) (by simp) C.pb kS).1;have aN:Xy No (wx.setCell ⟨X,1+a,AI⟩ (.int .i64 2)) (wx.setCell ⟨X,1+a,AI⟩ (.int .i64 2)).drew:=(Xy.refl _ _).drew;have kT:=kS.then aN;have aX:=bC.no aN;have am:=al.no aN;have bP:=aX.led;have aS:=kT.cell B aM;have bL:=kT.cell c4 aM;have k4:Xy (λb=>G b\/b=X) W (wx.setCell ⟨X,1+a,AI⟩ (.int .i64 2)).drew:=HM.out.2.2.1.trans kT (λb _ e=>.inr e);have HQ:=BX (A4 aX am k4 aD);clear C bC al aX am k4 aN aD;refine Ql (λw'=>Xy (·=X) wx w') [0,1,2,3,4,5] [6] [] (by kernel_rfl) (by kernel_rfl) (λ_ _ _ _ _ h=>h) ((Xy.refl No wx).drew.no) ?_;iterate 6(refine Qk (v:=?_) rfl rfl rfl ?_ ?_;rotate_left;focus(
            intro w' i;have g0:=i.cell B aM;go_simp
            try with_reducible rfl))
          refine Qj ?_;refine Qx rfl rfl (λK I=>?_);go_simp;refine I _ _ kT ?_;clear I K;refine Qh (Qm ?_);clear e0 f0 Q B c4;generalize (wx.setCell ⟨X,1+a,AI⟩ (.int .i64 2)).drew=W4 at *;go_upto_region 11 with fail;have F:Xy No W4 W4.drew:=(Xy.refl _ _).drew;have ac:=HQ.out.2.2.1.size;have aL:=(HQ.out.2.1.no F).put (iv:=.slice AI 0 0) HP.out.1 (by have:=d.out.qd;omega) HP.out.2 (BF d.out.qe (BF ac F.size)) (BF d.out.qf (BF ac F.size)) (show Gs base _ _ []from⟨[],rfl,λx hx=>by simp at hx,World.ownsRow_nil _ _ _ _⟩) (BW _) (λx hx=>by simp at hx);have nX:¬T X:=λe=>by
            rcases HM.out.2.2.2 X e with h|h
            · exact d.out.qh h
            · have:=Qt d.out.2.1.blk;omega
          have nW:¬T w.heap.size:=λe=>by
            rcases HM.out.2.2.2 _ e with h|h
            · exact d.out.qi h
            · have:=Qt d.out.2.2.2.2.2.2.2.2.2.2.2.2;omega
          clear ac;refine Ql (λw'=>Xy T W4 w') [0,1,2,3,4,5,6,7] [8] [] (by kernel_rfl) (by kernel_rfl) (λ_ _ _ _ _ h=>h) F.no ?_;iterate 8(refine Qk (v:=?_) rfl rfl rfl ?_ ?_;rotate_left;focus(
            intro w' i;have g0:=i.cell bP nX;have g1:=i.cell aS nW;have g2:=i.cell bL nW;go_simp
            try with_reducible rfl))
          refine Qj ?_;refine Qx rfl rfl (λK I=>?_);go_simp;refine aL.mono ?_;rintro e H⟨tv,rfl,_,G6,Z,k6,aC⟩;refine I _ _ (F.no.trans k6 (λ_ _ e=>e)) ?_;clear I K;have bJ:Xy T W4 H:=F.no.trans k6 (λ_ _ e=>e);have m:=BX (A3 Z bJ (show ∀b,G6 b->T b\/W4.heap.size<=b from λb k=>(aC b k).imp id (λe=>BF F.size e)));clear Z k6 bJ aC;refine Qh (Qm ?_);show AX _ _ _ [] _ _;go_simp;go_wp2_with fail;go_ret;exact⟨rfl,by have e:=U.out.2;simp at e;rw[e];exact Dx.then d.out.2.2.2.2.2.2.1.no (λb k=>.inl k) (Dx.then HQ.out.qc HM.out.2.2.2 ⟨G6,m.out.1,HQ.out.1.keep m.out.2.1 nX,m.out.2.1.mono (λb _ e=>.inl e),m.out.2.2⟩)⟩
  · have aw:=ad.1
    rw[aw]at c0;have U:=BX aB;clear aB aw ax ad;rcases hh with⟨ah,rfl,rfl⟩|⟨aK,bO,c,R,g,rfl⟩
    · have HB:=BX (show f.epoch≠V\/ni<f.inc by have:=E.out.qc;have:=E.out.qd;omega)
      clear ah;go_wp2_with fail;all_goals first
        | (go_ret
           exact⟨rfl,by have e:=U.out;simp at e;rw[e];exact Dx.then d.out.2.2.2.2.2.2.1.no (λb k=>.inl k) ⟨G,d.out.1.no A.out,d.out.2.1.no A.out,A.out.no,λb k=>.inl k⟩⟩)
        | (exfalso
           have h:=HB.out
           omega)
    · have q1:(f.epoch:Int)=(V:Int):=by have:=E.out.qc;omega
      have q2:¬(ni:Int)<(f.inc:Int):=by have:=E.out.qd;omega
      have HP:=BX g;rw[q1]at c2;clear aK bO g;go_upto_region 15 with fail;clear c0 c2 c3 s0 q1 q2;have kd:Xy No N N.drew:=(Xy.refl _ _).drew;have D:=A.out.then kd;have aL:=((d.out.1.no A.out).no kd).put (iv:=.slice io f.items.length ic) d.out.qc (by have:=d.out.qd;omega) HP.out (BF d.out.qe D.size) (BF d.out.qf D.size) (Us.no d.out.qj D) d.out.qk d.out.ql;clear D;refine Vr (λw'=>Xy G N w') [([0,1,2,3,4,5,6,7,8,9],[10]),([11,12,13,14,15],[])] (by kernel_rfl) (by kernel_rfl) (λ_ _ _ _ _ h=>h) kd.no ?_;iterate 10(refine Qk (v:=?_) rfl rfl rfl ?_ ?_;rotate_left;focus(
        intro w' i;have g0:=i.cell Q (λe=>d.out.qh e);have g1:=i.cell B (λe=>d.out.qi e);have g2:=i.cell c4 (λe=>d.out.qi e);have g3:=i.cell c8 (λe=>d.out.qi e);go_simp
        try with_reducible rfl))
      refine Qj ?_;refine Qx rfl rfl (λK I=>?_);go_simp;refine aL.mono ?_;rintro e H⟨tv,rfl,_,G6,Z,k6,aC⟩;have aH:Xy G N H:=kd.no.trans k6 (λ_ _ e=>e);refine I _ _ aH ?_;clear I K;refine Qh ?_;iterate 5(refine Qk (v:=?_) rfl rfl rfl ?_ ?_;rotate_left;focus(
        intro w' i;go_simp
        try with_reducible rfl))
      refine Qj (Qh ?_);unfold Vp;show AX _ _ _ [] _ _;go_simp;have aY:=(d.out.2.1.no A.out).keep aH d.out.qh;have B:=aH.cell B (λe=>d.out.qi e);have kX:Xy (λb=>G b\/b=X) W H:=A.out.no.trans (aH.mono (λb _ e=>(Or.inl e:G b\/b=X))) (λ_ _ e=>e);have hX:∀b,G6 b->G b\/W.heap.size<=b:=λb k=>(aC b k).imp id (λe=>BF A.out.size (BF kd.size e));obtain⟨on,aD,e0⟩:=aY.owes a (by omega);have ar:o.getD a 0=on:=by rw[List.getD_eq_getElem?_getD,aD];rfl
      have m:=BX (A5 hX aY Z kX ar);clear hX aY Z kX aH aC k6 aL kd aD ar c4 c8 Q;by_cases hc:c=0
      · subst hc
        by_cases hz:on=0
        · subst hz
          go_upto_region 18 with fail;have n:Xy No H H.drew:=(Xy.refl _ _).drew;have aI:Xy No H.drew H.drew.drew:=(Xy.refl _ _).drew;have Q:=m.out.2.1.led;refine Vr (λw'=>Xy No H w') [([0,1,2,3,4,5,6,7],[])] (by kernel_rfl) (by kernel_rfl) (λ_ _ _ _ _ h=>h) n ?_;iterate 8(refine Qk (v:=?_) rfl rfl rfl ?_ ?_;rotate_left;focus(
            intro w' i;have g0:=i.cell e0 id;have g1:=i.cell B id;go_simp
            try with_reducible rfl))
          refine Qj (Qh ?_);unfold Vp;show AX _ _ _ [] _ _;go_simp;go_upto_region 19 with fail;have aS:=n.cell B id;have kS:Xy (·=X) H.drew.drew (H.drew.drew.setCell ⟨X,1+a,AI⟩ (.int .i64 4)):=Qd _ _;have aE:=m.out.2.1.no (n.then aI);have ap:=m.out.2.2.1.no (n.then aI);have f0:=Qg aE.blk (1+a);have bE:=aE.set a 4;have ao:=(ap.cellsAt aE.blk (by simp) (by simp) aE.pb kS).1;have k7:=(n.then aI).no.trans kS (λ_ _ e=>e);have HN:=BX (A3 bE ao k7);clear bE ao k7 aE ap;refine Ql (λw'=>Xy (·=X) H.drew w') [0,1,2,3,4,5] [6] [] (by kernel_rfl) (by kernel_rfl) (λ_ _ _ _ _ h=>h) aI.no ?_;iterate 6(refine Qk (v:=?_) rfl rfl rfl ?_ ?_;rotate_left;focus(
            intro w' i;have g0:=i.cell aS aM;go_simp
            try with_reducible rfl))
          refine Qj ?_;refine Qx rfl rfl (λK I=>?_);go_simp;refine I _ _ (aI.no.trans kS (λ_ _ e=>e)) ?_;clear I K;refine Qh (Qm ?_);show AX _ _ _ [] _ _;go_simp;go_wp2_with fail;go_ret;exact⟨by simp,by have e:=U.out;rw[if_pos ⟨by simp,m.out.re⟩]at e;rw[e];exact Dx.then d.out.2.2.2.2.2.2.1.no (λb k=>.inl k) ⟨G6,HN.out.2.1,HN.out.1,m.out.2.2.2.1.trans HN.out.2.2 (λb _ e=>.inr e),m.out.1⟩⟩
        · have bW:¬(on:Int)=0:=by omega
          have bX:((on:Int)==0)=false:=by simp;omega
          go_upto_region 18 with fail;have n:Xy No H H.drew:=(Xy.refl _ _).drew;have Q:=m.out.2.1.led;refine Vr (λw'=>Xy No H w') [([0,1,2,3,4,5,6,7],[])] (by kernel_rfl) (by kernel_rfl) (λ_ _ _ _ _ h=>h) n ?_;iterate 8(refine Qk (v:=?_) rfl rfl rfl ?_ ?_;rotate_left;focus(
            intro w' i;have g0:=i.cell e0 id;have g1:=i.cell B id;go_simp
            try with_reducible rfl))
          refine Qj (Qh ?_);unfold Vp;show AX _ _ _ [] _ _;go_simp;go_wp2_with fail;go_ret;exact⟨by simp,by have e:=U.out;rw[if_neg (λh=>hz (by rw[<- m.out.re];exact h.2))]at e;rw[e];exact Dx.then d.out.2.2.2.2.2.2.1.no (λb k=>.inl k) ⟨G6,m.out.2.2.1.no n,m.out.2.1.no n,m.out.2.2.2.1.then n,m.out.1⟩⟩
      · have bT:(c==0)=false:=by simp[hc]
        have bU:(c != 0)=true:=by simp[hc]
        go_wp2_with fail;go_ret;exact⟨by simp[hc],by have e:=U.out;rw[if_neg (by simp[hc])]at e;rw[e];exact Dx.then d.out.2.2.2.2.2.2.1.no (λb k=>.inl k) ⟨G6,m.out.qc,m.out.2.1,m.out.qd,m.out.1⟩⟩
theorem Bv(E:Hv base w r xq width size S G)(A:Tj base w X r o)(ok:Ue width j S)(M:j+2<=450)(f:Vy)(F:Gq w B v f.runs)(D:f.runs.length<=1048576)(C:∀r∈f.runs,r.2<18446744073709551616)(d:Gs base w iv f.items)(q:f.items.length<=8)(g:∀x∈f.items,x.s.body.length<=40)(p:Ny width j size S o f i S' H)(m:base<=w.heap.size)(K:ban.top<=w.heap.size) :
    DJ Tryz.prog 43 #[.pointer (AF ⟨X,0,AI⟩),.agg (f.dcells v iv)] w λz w'=>z=.returned (.bool i)/\Dx base w X r xq width size S' H G w':=by
  have h:=λ(Y:AC) (k:Xy No w Y)=>XB (base:=base) f (F.no k) D C (Us.no d k) (by omega) (λx N=>by have:=g x N;omega);obtain⟨Q,rc,rfl,_,_⟩:=F.form;obtain⟨P,O,rfl,_,_⟩:=Us.form d;rcases p with⟨I,J,rfl,rfl,rfl⟩|⟨a,n,L,p⟩
  · exact(Ii A f _ _ _ _ _ _ I J h).mono (λz R ⟨e,k⟩=>⟨e,G,E.no k,A.no k,k.no,λb m=>.inl m⟩)
  · exact Ai E A ok M f a n L _ _ _ _ _ h d q g p m K
end
theorem JE(f:Vy)(D:Gq w B u f.runs)(E:Gq w B' v f.runs)(R:f.runs.length<=1048576)(h m:Option Addr)(g i:Nat) :
  DJ Tryz.prog 90 #[.agg (f.dcells u (.slice h 0 g)),.agg (f.dcells v (.slice m 0 i))] w λz w'=>z=.returned (.bool true)/\Xy No w w':=by
 obtain⟨q,p,rfl,_,_⟩:=D.form;obtain⟨J,I,rfl,_,_⟩:=E.form;have C:=λ(X:AC) (k:Xy No w X)=>Ea (D.no k) (E.no k) (by omega) (by omega);have e:decide (f.runs=f.runs)=true:=by simp
 rw[e]at C;have F:=((Xy.refl No w).alloc (.cells (f.dcells (.slice q f.runs.length p) (.slice h 0 g)) 106)).alloc (.cells (f.dcells (.slice J f.runs.length I) (.slice m 0 i)) 106);have K:=((Xy.refl No (w.alloc (.cells (f.dcells (.slice q f.runs.length p) (.slice h 0 g)) 106))).alloc (.cells (f.dcells (.slice J f.runs.length I) (.slice m 0 i)) 106)).heap (Qy w (.cells (f.dcells (.slice q f.runs.length p) (.slice h 0 g)) 106)) id;have A:=Qy (w.alloc (.cells (f.dcells (.slice q f.runs.length p) (.slice h 0 g)) 106)) (.cells (f.dcells (.slice J f.runs.length I) (.slice m 0 i)) 106);rw[World.size_alloc]at A;have d:=BX (A4 (C _ F) F K A);clear C F D E e K A;unfold Vy.dcells at d⊢;go_enter Tryz.func90,Tryz.ntmps90;go_wp2_with(go_at_call 135;refine d.out.1.mono ?_;rintro z T ⟨rfl,n⟩;have P:=(Qq (n.heap d.out.qc id) 8).trans rfl;have Q:=(Qq (n.heap d.out.2.2.2 id) 8).trans rfl;have M:=BX n;clear n);go_loopw [73] (λH O=>H=.int .i64 0/\Xy No w O) (λ_ _=>0);case atStart=>exact⟨rfl,d.out.2.1.then M.out⟩
 case round =>obtain⟨rfl,L⟩:=hrel;have N:=BX L;clear L;go_wp2_with fail;go_ret;exact⟨rfl,N.out⟩
end Go.Proofs.YtfdmbomlkpkegaaGreat
