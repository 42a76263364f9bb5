/- Lemmas. -/
import Derived.Test.YtfdmbomlkpkegaaGreatS5
import Derived.Laws.BitsAllLaws
set_option maxRecDepth 100000
set_option maxHeartbeats 8000000
set_option linter.all false
set_option autoImplicit true
set_option relaxedAutoImplicit true
open Go renaming Calls->DJ,Value->AM,World->AC,bodyPost_ret->FC,maxLen->BH,results->FD
open Go.Builtin renaming append_->DX
open Go.Instr renaming slice->EN
open Go.Lib renaming hid->BX
open Go.Value.slice renaming injEq->DB
open Int renaming toNat_natCast->EO
open List renaming append_assoc->B7,eq_nil_of_length_eq_zero->BJ,getElem?_eq_getElem->BY,getElem?_eq_some_iff->BK,getElem?_map->CK,getElem?_modify->HU,length_append->BO,mem_cons->C1,mem_map->CP,take_length->BZ
open List.Pairwise renaming nil->DC
open Nat renaming le_of_lt->FX,le_refl->BE,le_trans->BF,lt_of_le_of_lt->FW,mul_assoc->FZ,mul_comm->E5,mul_le_mul_right->FV,pow_le_pow_right->EB,pow_succ->D9,shiftLeft_eq->FY,zero_le->BW
open Option renaming none->AI,some->AF
open UInt8 renaming ofNat->D7
namespace Go.Proofs.YtfdmbomlkpkegaaGreat
section
open Go Go.RowKit
def Dy:Nat->Nat->List UInt8->Except Int (Nat×List UInt8)
 | _,_,[]=>.error 2
 | i,acc,b::r =>
  if i=9/\1<b.toNat then .error 7 else if b.toNat=0/\0<i then .error 2
  else if b.toNat<128 then .ok (acc+b.toNat*128^i,r)else Dy (i+1) (acc+b.toNat%128*128^i) r
def InS.numR (s:InS):Except Int (Nat×List UInt8)->Nat×InS
 | .ok (n,r)=>(n,{s with l:=r})
 | .error c=>(0,s.fail c)
def InS.num (s:InS):Nat×InS:=if s.e=0 then s.numR (Dy 0 0 s.l)else(0,s)
theorem GC(b:UInt8):bits .andNot .u8 (b.toNat:Int) 128=((b.toNat%128:Nat):Int):=by
 have h:∀k:Fin 256,bits .andNot .u8 (k.val:Int) 128=((k.val%128:Nat):Int):=by decide +kernel
 exact h ⟨b.toNat,b.toNat_lt⟩
theorem T3{k acc c:Nat}(o:k<=9)(f:acc<128^k)(j:k=9->c<=1) :
  bits .or .u64 (acc:Int) (IntKind.u64.wrap ((c:Int)%128*2^(7*k)))=((acc+c%128*128^k:Nat):Int)/\acc+c%128*128^k<128^(k+1):=by
 have g:(128:Nat)^k=2^(7*k):=by rw[Nat.pow_mul]
 have p:c%128<128:=Nat.mod_lt _ (by decide);have n:c%128*2^(7*k)<18446744073709551616:=by
  by_cases h:k=9
  ·have:=j h;subst h;have d:c%128<=1:=by omega
   have:=FV (2^(7*9)) d;exact FW this (by decide)
  ·have d:(2:Nat)^(7*k)<=2^56:=EB (by decide) (by omega);have:=Nat.mul_le_mul (FX p) d;exact FW this (by decide)
 have m:acc<18446744073709551616:=by
  have d:(128:Nat)^k<=128^9:=EB (by decide) o;have q:(128:Nat)^9<18446744073709551616:=by decide
  omega
 have i:(c:Int)%128*2^(7*k)=((c%128*2^(7*k):Nat):Int):=by push_cast;rfl
 constructor
 ·rw[i,wraps_u64 _ (by omega) (by omega),u64_or_nat acc _ m n];congr 1;rw[Nat.or_comm,<- FY,<- Nat.shiftLeft_add_eq_or_of_lt (by rw[<- g];exact f),FY,<- g];exact Nat.add_comm _ _
 ·rw[D9];have d:c%128*128^k<=127*128^k:=FV _ (by omega);generalize (128:Nat)^k=z at *;omega
theorem Gm[bn:Ib]{base g:Nat}{w:AC}{s:InS}(h:Hx base w g s)(aH:s.l.length<=1099511627776):DJ Tryz.prog 161 #[.pointer (AF ⟨g,0,AI⟩)] w λe w'=>e=.returned (.int .u64 s.num.1)/\Hx base w' g s.num.2/\Xy (·=g) w w':=by
 have he:=Vl h;by_cases h0:s.e=0
 ·obtain⟨Y,v,Z,F⟩:=id h;obtain⟨ao,cap,rfl⟩:=F.form;obtain⟨aE,aF⟩:s.l.length<=cap/\cap<=BH:=by obtain⟨_,_,hq,q1,q2,_⟩:=F;simp at hq;omega
  have c0:=Qq Z 0;have f0:=Qg Z;simp at c0;have aR:(s.l.length:Int)<=1099511627776:=by omega
  have i:=λc=>Kb h c;rw[h0]at he;obtain⟨N,hN⟩:∃N,N=Dy 0 0 s.l:=⟨_,rfl⟩;have J:s.num=s.numR N:=by rw[hN];unfold InS.num;rw[if_pos h0]
  rw[J];have O:=BX (A5 h F aE aF hN);clear J h Z F aE aF hN h0 Y aH;go_enter Tryz.func161,Tryz.ntmps161;go_wp2_with(go_at_call 156;refine he.mono ?_;rintro e w1 ⟨rfl,rfl⟩);go_loopw [3,14] (λnv iv wr=>∃(k acc:Nat),nv=.int .u64 acc/\iv=.int .i64 k/\k<=s.l.length/\k<=9/\acc<128^k/\N=Dy k acc (s.l.drop k)/\wr=w1) (λ_ iv _=>s.l.length-(intOf iv).toNat);case atStart=>exact⟨0,0,rfl,rfl,BW _,BW _,by decide,O.out.re,rfl⟩
  case round =>
   obtain⟨k,acc,rfl,rfl,T,aG,z,m,rfl⟩:=hrel;by_cases U:k<s.l.length
   ·obtain⟨b,hb⟩:∃b,s.l[k]?=AF b:=⟨_,BY U⟩;have n:s.l.drop k=b::s.l.drop (k+1):=by obtain⟨q1,q2⟩:=BK.1 hb;rw[List.drop_eq_getElem_cons q1,q2]
    rw[n]at m;obtain⟨X,aK,Q⟩:∃X,ao=AF X/\wr.cell? (X.add k)=AF (.int .u8 b.toNat):=by obtain⟨_,_,hq,_,_,_,H⟩:=O.out.2.1;simp only[DB]at hq;obtain⟨rfl,_,rfl⟩:=hq;obtain⟨X,e,_,H⟩:=H k b hb;exact⟨X,e,H⟩
    subst aK;have aO:(k:Int)<(s.l.length:Int):=by omega
    have P:=b.toNat_lt;have aL:(b.toNat:Int)<=255:=by omega
    have aJ:=GC b;obtain⟨c,H⟩:∃c,c=b.toNat:=⟨_,rfl⟩;rw[<- H]at Q aJ aL P;unfold Dy at m;rw[<- H]at m;have W:=BX (A5 m T z hb n);have aP:=BX H;clear m T z hb n H U;have A:c<128->(k=9->c<=1)->¬(c=0/\0<k)->N=.ok (acc+c*128^k,s.l.drop (k+1)):=λY Z F=>by
     rw[W.out.1,if_neg (by omega),if_neg F,if_pos Y]
    obtain⟨o,c',aS,L⟩:=Rg (AF X) s.l.length cap (k+1) ((k:Int)+1) (by simp) (by omega) O.out.qc;have q:=L base wr s.l O.out.2.1;rw[BZ]at q;have K:=O.out.1.setRest q;have HS:=BX K;have aI:=λh=>T3 (k:=k) (acc:=acc) (c:=c) aG W.out.qc h;have HN:=BX (A2 A aI);clear K q L A aI;have aA:c<128->(k=9->c<=1)->¬(c=0/\0<k)->(s.numR N).1=acc+c%128*128^k/\(s.numR N).2={s with l:=s.l.drop (k+1)}:=λY Z F=>by
     rw[HN.out.1 Y Z F,Nat.mod_eq_of_lt Y];exact⟨rfl,rfl⟩
    have HF:=BX aA;clear aA;by_cases G:k=9
    ·have q9:((k:Int)==9)=true:=by rw[G];rfl
     have I:(0:Int)<(k:Int):=by omega
     by_cases aM:1<c
     ·have aD:(1:Int)<(c:Int):=by omega
      have d:N=.error 7:=by rw[W.out.1,if_pos ⟨G,aM⟩]
      have S:=i 7;have f:=BX d;clear d;try clear G
      try clear C
      go_wp2_with(go_at_call 157;refine S.mono ?_;rintro e w2 ⟨rfl,hi,V⟩);go_ret;rw[f.out];exact⟨rfl,hi,V⟩
     ·have aD:¬(1:Int)<(c:Int):=by omega
      by_cases C:c=0
      ·have qz:((c:Int)==0)=true:=by rw[C];rfl
       have d:N=.error 2:=by rw[W.out.1,if_neg (by omega),if_pos ⟨C,by omega⟩]
       have S:=i 2;have f:=BX d;clear d;try clear G
       try clear C
       go_wp2_with(go_at_call 157;refine S.mono ?_;rintro e w2 ⟨rfl,hi,V⟩);go_ret;rw[f.out];exact⟨rfl,hi,V⟩
      ·have qz:((c:Int)==0)=false:=by rw[beq_eq_false_iff_ne];omega
       have R:(c:Int)<128:=by omega
       have p:=(HN.out.2 (λ_=>by omega)).1;obtain⟨D,E⟩:=HF.out (by omega) (λ_=>by omega) (by omega);obtain⟨M,j⟩:∃M,M=(s.numR N).1:=⟨_,rfl⟩;rw[<- D,<- j]at p;have f:=BX (A2 E j);clear D E j;try clear G
       try clear C
       go_wp2_with fail;go_ret;rw[f.out.1,<- f.out.2];exact⟨rfl,HS.out,Qd _ _⟩
    ·have q9:((k:Int)==9)=false:=by rw[beq_eq_false_iff_ne];omega
     by_cases C:c=0
     ·have qz:((c:Int)==0)=true:=by rw[C];rfl
      have R:(c:Int)<128:=by omega
      by_cases aN:0<k
      ·have I:(0:Int)<(k:Int):=by omega
       have d:N=.error 2:=by rw[W.out.1,if_neg (by omega),if_pos ⟨C,aN⟩]
       have S:=i 2;have f:=BX d;clear d;try clear G
       try clear C
       go_wp2_with(go_at_call 157;refine S.mono ?_;rintro e w2 ⟨rfl,hi,V⟩);go_ret;rw[f.out];exact⟨rfl,hi,V⟩
      ·have I:¬(0:Int)<(k:Int):=by omega
       have p:=(HN.out.2 (λh=>by omega)).1;obtain⟨D,E⟩:=HF.out (by omega) (λh=>by omega) (by omega);obtain⟨M,j⟩:∃M,M=(s.numR N).1:=⟨_,rfl⟩;rw[<- D,<- j]at p;have f:=BX (A2 E j);clear D E j;try clear G
       try clear C
       go_wp2_with fail;go_ret;rw[f.out.1,<- f.out.2];exact⟨rfl,HS.out,Qd _ _⟩
     ·have qz:((c:Int)==0)=false:=by rw[beq_eq_false_iff_ne];omega
      by_cases aB:c<128
      ·have R:(c:Int)<128:=by omega
       have p:=(HN.out.2 (λh=>by omega)).1;obtain⟨D,E⟩:=HF.out (by omega) (λh=>by omega) (by omega);obtain⟨M,j⟩:∃M,M=(s.numR N).1:=⟨_,rfl⟩;rw[<- D,<- j]at p;have f:=BX (A2 E j);clear D E j;try clear G
       try clear C
       go_wp2_with fail;go_ret;rw[f.out.1,<- f.out.2];exact⟨rfl,HS.out,Qd _ _⟩
      ·have R:¬(c:Int)<128:=by omega
       obtain⟨p,B⟩:=HN.out.2 (λh=>by omega);obtain⟨M,j⟩:∃M,M=acc+c%128*128^k:=⟨_,rfl⟩;rw[<- j]at p B;have aC:N=Dy (k+1) M (s.l.drop (k+1)):=by rw[W.out.1,if_neg (by omega),if_neg (by omega),if_neg aB,j]
       have f:=BX (A2 B aC);clear B aC j;go_wp2_with fail;go_roundw;case rel=>exact⟨k+1,M,rfl,by go_num,by omega,by omega,f.out.1,f.out.2,trivial⟩
       case measure=>simp[intOf];omega
   ·obtain rfl:k=s.l.length:=by omega
    have aQ:¬(s.l.length:Int)<(s.l.length:Int):=by omega
    have d:N=.error 2:=by rw[m,List.drop_length];rfl
    have S:=i 2;have f:=BX d;clear d m T aG z U;go_wp2_with(go_at_call 157;refine S.mono ?_;rintro e w2 ⟨rfl,hi,V⟩);go_ret;rw[f.out];exact⟨rfl,hi,V⟩
 ·have hs:s.num=(0,s):=by unfold InS.num;rw[if_neg h0]
  have hq:(s.e==0)=false:=by simpa using h0
  have O:=BX h;rw[hs];clear hs h;go_enter Tryz.func161,Tryz.ntmps161;go_wp2_with(go_at_call 156;refine he.mono ?_;rintro e w1 ⟨rfl,rfl⟩);go_ret;exact⟨rfl,O.out,Xy.refl _ _⟩
theorem T5[bn:Ib](h:Qv base w v l)(o:base<=w.heap.size)(n:ban.top<=w.heap.size)(z:l.length<=1099511627776) :
  DJ Tryz.prog 107 #[v] w λe k=>∃g,e=.returned (.pointer (AF ⟨g,0,AI⟩))/\w.heap.size<=g/\Hx base k g ⟨l,0⟩/\Xy No w k:=by
 obtain⟨ao,cap,rfl⟩:=h.form;have p:=Ju h (by omega);clear h;go_enter Tryz.func107,Tryz.ntmps107;go_wp2_with(go_at_call 99;refine p.mono ?_;rintro e i ⟨A,rfl,d,f⟩;obtain⟨q,m,rfl⟩:=d.form);go_ret;have j:Xy No i (i.alloc (.cells #[.slice q l.length m,.int .i64 0] 269)):=(Xy.refl _ _).alloc _;exact⟨i.heap.size,rfl,f.size,⟨BF o f.size,_,Qy _ _,(d.bytes (base:=base) (λ_=>n)).no j⟩,f.then j⟩
theorem JC[bn:Ib](h:Qv base w v l)(i:Qv base' w u m)(p:l.length<=1099511627776)(E:m.length<=1099511627776) :
  DJ Tryz.prog 171 #[v,u] w λe n=>∃k,e=.returned k/\Kr n w.heap.size k (l++(numB m.length++m))/\Xy No w n:=by
 obtain⟨ao,cap,rfl⟩:=h.form;obtain⟨D,C,rfl⟩:=i.form;have z:=Xk h m.length (by omega) p;have A:(numB m.length).length<=10:=Qp (by omega);have q:(m.length:Int)<=1099511627776:=by omega
 have o:=BX i;clear h i;go_enter Tryz.func171,Tryz.ntmps171;go_wp2_with(first
  | (at_builtin;refine Zq rfl _ _ rfl w.heap.size d (o.out.no j) rfl rfl f j.size ?_;intro H J g B)
  | (go_at_call 59;refine z.mono ?_;rintro e I ⟨G,rfl,d,j⟩;have f:(l++numB m.length).length+m.length<=70368744177664:=by simp;omega))
 go_ret;exact⟨_,rfl,by rw[<- B7];exact g,j.trans B (λx F e=>by have:=(d.lt x e).1;omega)⟩
theorem NK[bn:Ib](ao:Option Addr)(n cap hi:Nat)(d:hi<=n)(f:n<=cap) :
  ∃o c,(∀w,(EN 59 (.slice ao n cap) AI (AF (.int .u64 (hi:Int))) AI).run Tryz.prog w=.ok (.slice o hi c) w) /\
   ∀base w l,Qv base w (.slice ao n cap) l->Qv base w (.slice o hi c) (l.take hi):=by
 refine⟨_,_,λw=>?_,λbase w l h=>Db h (BW hi) d⟩;rw[run_slice_h w 59 ao n cap Ch .u64 _ (by omega) (by omega),EO,Ce];rfl
theorem NU[bn:Ib](ao:Option Addr)(n cap lo:Nat)(f:lo<=n)(d:n<=cap) :
  ∃o c,(∀w,(EN 59 (.slice ao n cap) (AF (.int .u64 (lo:Int))) AI AI).run Tryz.prog w=.ok (.slice o (n-lo) c) w) /\
   ∀base w l,Qv base w (.slice ao n cap) l->Qv base w (.slice o (n-lo) c) ((l.take n).drop lo):=by
 refine⟨_,_,λw=>?_,λbase w l h=>Db h f (BE _)⟩;rw[run_slice_l w 59 ao n cap Ch .u64 _ (by omega) (by omega),EO,Ce];rfl
theorem JN:∀(l:List UInt8) (i acc n:Nat) (r:List UInt8),Dy i acc l=.ok (n,r)->r.length<l.length
 | [],i,acc,n,r,h=>by simp[Dy]at h
 | b::t,i,acc,n,r,h=>by
  unfold Dy at h
  split at h
  ·cases h
  ·split at h
   ·cases h
   ·split at h
    ·simp only[Except.ok.injEq,Prod.mk.injEq]at h
     rw[<- h.2]
     simp
    ·have:=JN t _ _ n r h
     simp
     omega
theorem GH(s:InS):s.num.2.l.length<=s.l.length:=by
 unfold InS.num
 split
 ·cases h:Dy 0 0 s.l with
  | error c=>exact BE _
  | ok q=>exact FX (JN s.l 0 0 q.1 q.2 h)
 ·exact BE _
def InS.some (s:InS)(most:Nat):List UInt8×InS:=if s.e=0 then(
 if s.num.2.e=0 then(if most<s.num.1 then([],{s with e:=6})else if s.num.2.l.length<s.num.1 then([],{s with e:=2})
  else(s.num.2.l.take s.num.1,{s.num.2 with l:=s.num.2.l.drop s.num.1}))else([],{s with e:=s.num.2.e}))else([],s)
theorem Et[bn:Ib]{base g:Nat}{w:AC}{s:InS}(h:Hx base w g s)(D:s.l.length<=1099511627776)(most:Nat)(P:most<=1099511627776) :
  DJ Tryz.prog 214 #[.pointer (AF ⟨g,0,AI⟩),.int .i64 most] w λe w'=>∃v,e=.returned v/\Kr w' w.heap.size v (s.some most).1/\Hx base w' g (s.some most).2/\Xy (·=g) w w':=by
 have N:=Vl h;by_cases R:s.e=0
 ·obtain⟨n,hn⟩:∃n,n=s.num.1:=⟨_,rfl⟩;obtain⟨s1,I⟩:∃s1,s1=s.num.2:=⟨_,rfl⟩;have k:=Gm h D;rw[<- hn,<- I]at k;have V:s1.l.length<=1099511627776:=by rw[I];exact BF (GH s) D
  have aC:(s1.l.length:Int)<=1099511627776:=by omega
  have Y:s.some most=(if s1.e=0 then(if most<n then([],{s with e:=6})else if s1.l.length<n then([],{s with e:=2})
   else(s1.l.take n,{s1 with l:=s1.l.drop n}))else([],{s with e:=s1.e})):=by unfold InS.some;rw[if_pos R,<- hn,<- I]
  rw[Y];obtain⟨h1,v,h2,h3⟩:=id h;obtain⟨ao,cap,rfl⟩:=h3.form;have c0:=Qq h2 0;simp at c0;rw[R]at N;have hF:=h.foot;have aD:(most:Int)<=1099511627776:=by omega
  have L:=BX (A4 h h3 hF R);have HL:=BX V;clear V hn I Y h h2 h3 hF R h1 D P;by_cases A:s1.e=0
  ·by_cases H:most<n
   ·have W:(most:Int)<(n:Int):=by omega
    rw[if_pos A,if_pos H];have q:=BX (A2 A H);clear A H;go_enter Tryz.func214,Tryz.ntmps214;go_wp2_with(first
     | (go_at_call 157;refine hf.mono ?_;rintro e w2 ⟨rfl,C,K⟩;obtain⟨_,v2,o,Q⟩:=id C;obtain⟨o2,T,rfl⟩:=Q.form;have d1:=Qq o 1;have d0:=Qq o 0;have fd:=Qg o;simp[InS.fail,q.out.1]at d1 d0)
     | (go_at_call 161;refine k.mono ?_;rintro e S ⟨rfl,f,J⟩;obtain⟨_,v1,d,j⟩:=id f;obtain⟨Z,z,rfl⟩:=j.form;have F:=Qq d 1;have m:=Qq d 0;simp at F m;rw[q.out.1]at F;have hf:=Kb f 6)
     | (go_at_call 156;refine N.mono ?_;rintro e w0 ⟨rfl,rfl⟩))
    go_ret;have E:Xy (·=g) w0 w2:=J.trans K (λ_ _ e=>e);have i:=C.setRest (L.out.2.1.keep L.out.qc E);have e6:(s1.fail 6).e=6:=by simp[InS.fail,q.out.1]
    refine⟨_,rfl,Kr.nil _ _,?_,E.trans (Qd _ _) (λ_ _ e=>e)⟩;simp only[e6]at i;exact i
   ·by_cases hl:s1.l.length<n
    ·have W:¬(most:Int)<(n:Int):=by omega
     have aB:(s1.l.length:Int)<(n:Int):=by omega
     rw[if_pos A,if_neg H,if_pos hl];have q:=BX (A2 A H);clear A H hl;go_enter Tryz.func214,Tryz.ntmps214;go_wp2_with(first
      | (go_at_call 157;refine hf.mono ?_;rintro e w2 ⟨rfl,C,K⟩;obtain⟨_,v2,o,Q⟩:=id C;obtain⟨o2,T,rfl⟩:=Q.form;have d1:=Qq o 1;have d0:=Qq o 0;have fd:=Qg o;simp[InS.fail,q.out.1]at d1 d0)
      | (go_at_call 161;refine k.mono ?_;rintro e S ⟨rfl,f,J⟩;obtain⟨_,v1,d,j⟩:=id f;obtain⟨Z,z,rfl⟩:=j.form;have F:=Qq d 1;have m:=Qq d 0;simp at F m;rw[q.out.1]at F;have hf:=Kb f 2)
      | (go_at_call 156;refine N.mono ?_;rintro e w0 ⟨rfl,rfl⟩))
     go_ret;have E:Xy (·=g) w0 w2:=J.trans K (λ_ _ e=>e);have i:=C.setRest (L.out.2.1.keep L.out.qc E);have e6:(s1.fail 2).e=2:=by simp[InS.fail,q.out.1]
     refine⟨_,rfl,Kr.nil _ _,?_,E.trans (Qd _ _) (λ_ _ e=>e)⟩;simp only[e6]at i;exact i
    ·have W:¬(most:Int)<(n:Int):=by omega
     have aB:¬(s1.l.length:Int)<(n:Int):=by omega
     rw[if_pos A,if_neg H,if_neg hl];have X:n<=s1.l.length:=by omega
     have q:=BX (A3 A H X);clear A H hl X;go_enter Tryz.func214,Tryz.ntmps214;go_wp2_with(go_at_call 156;refine N.mono ?_;rintro e w0 ⟨rfl,rfl⟩);refine k.mono ?_;rintro e S⟨rfl,f,J⟩;obtain⟨_,v1,d,j⟩:=id f;obtain⟨Z,z,rfl⟩:=j.form;have F:=Qq d 1;have m:=Qq d 0;simp at F m;rw[q.out.1]at F;have U:s1.l.length<=z:=by obtain⟨_,_,hq,q1,q2,_⟩:=j;simp at hq;omega
     obtain⟨o3,c3,aE,G⟩:=NK Z s1.l.length z n q.out.2.2 U;obtain⟨o4,c4,aF,B⟩:=NU Z s1.l.length z n q.out.2.2 U;have G:=G base S s1.l j;have B:=B base S s1.l j;rw[BZ]at B;have O:(s1.l.take n).length=n:=by rw[List.length_take];exact Nat.min_eq_left q.out.2.2
     have aA:=Ju G (by rw[O];have:=q.out.2.1;omega);have M:=BX (A5 f B d J O);clear f j d G B J k N O;go_wp2_with fail;refine aA.mono ?_;rintro e w2⟨v2,rfl,p,K⟩;obtain⟨o2,T,rfl⟩:=p.form;rw[M.out.re]at p⊢;have d0:=K.cell m id;have fd:=Qg (K.heap M.out.qc id);go_wp2_with fail;go_ret;have i:=(M.out.1.no K).setRest (M.out.2.1.no K);refine⟨_,rfl,?_,i,(M.out.2.2.2.1.then K).trans (Qd _ _) (λ_ _ e=>e)⟩;exact(p.keep (Qd _ _) (λb hb e=>by have h1:=(p.lt b hb).1;have h2:=Qt M.out.qc;have h3:b=g:=e;omega)).mono M.out.2.2.2.1.size
  ·have hq:(s1.e==0)=false:=by simpa using A
   rw[if_neg A];clear A;go_enter Tryz.func214,Tryz.ntmps214;go_wp2_with(first
    | (go_at_call 161;refine k.mono ?_;rintro e S ⟨rfl,f,J⟩;obtain⟨_,v1,d,j⟩:=id f;obtain⟨Z,z,rfl⟩:=j.form;have F:=Qq d 1;have m:=Qq d 0;have fd:=Qg d;simp at F m)
    | (go_at_call 156;refine N.mono ?_;rintro e w0 ⟨rfl,rfl⟩))
   go_ret;exact⟨_,rfl,Kr.nil _ _,f.setRest (L.out.2.1.keep L.out.qc J),J.trans (Qd _ _) (λ_ _ e=>e)⟩
 ·have Y:s.some most=([],s):=by unfold InS.some;rw[if_neg R]
  have hq:(s.e==0)=false:=by simpa using R
  have L:=BX h;rw[Y];clear Y h;go_enter Tryz.func214,Tryz.ntmps214;go_wp2_with(go_at_call 156;refine N.mono ?_;rintro e S ⟨rfl,rfl⟩);go_ret;exact⟨_,rfl,Kr.nil _ _,L.out,Xy.refl _ _⟩
end
section
open Go Go.RowKit Go.Dr
theorem N6[bn:Ib](K:TypeId)(B:Nat)(F:Wq base w B v l)(H:Qv (bn:=Xl) base' w u m)(W:m≠[])(V:l.length+m.length<=70368744177664)(T:B<=w.heap.size) :
  ∃E p,(DX #[59,59] K #[v,u]).run Tryz.prog w=.ok E p/\Kr p B E (l++m)/\Xy (λb=>B<=b) w p:=by
 obtain⟨Y,hi,I,D,J⟩:=info_parts Rr;obtain⟨R,M,rfl,hc,aD,hn,A⟩:=H;obtain⟨q,rfl⟩:∃q,R=AF q:=by
  cases R with
  | none =>
   have:=hn rfl;have O:m.length=0:=by omega
   exact(W (BJ O)).elim
  | some q=>exact⟨q,rfl⟩
 have g:∀(j:Nat) y,(m.map u8v)[j]?=AF y->w.cell? (q.add j)=AF y:=λj y o=>by
  rw[CK]at o;cases f:m[j]? with
  | none=>simp[f]at o
  | some z =>
   obtain⟨L,e,_,C⟩:=A j z f;cases e;simp[f]at o;rw[C,o]
 have X:0<m.length:=List.length_pos_iff.2 W;have d:Kr w B v l->∃E p,(DX #[59,59] K #[v,.slice (AF q) m.length M]).run Tryz.prog w=.ok E p/\Kr p B E (l++m)/\Xy (λb=>B<=b) w p:=λd=>by
  obtain⟨E,p,i,h1,h2,_⟩:=run_append_own (P:=Tryz.prog) w B 59 K 5 Y (.int .u8 0) 1 1 Tryz.underlying59 hi I D J rfl (by decide) v l.length (l.map u8v) d
   q m.length M (m.map u8v) (by simp) g (NM m) (by unfold BH;omega) (by omega) T
  refine⟨E,p,i,?_,(Xy.refl _ w).grown h2 (λk hk=>.inl (d.lt k hk).1)⟩;unfold Kr;rw[BO,List.map_append];exact h1
 rcases F with⟨ao,rfl,hb⟩|h
 ·obtain⟨aA,S,U,aB,aC,Q,n⟩:=hb;simp only[DB]at U;obtain⟨rfl,_,rfl⟩:=U;cases ao with
  | none =>
   have hl:=Q rfl;have:l=[]:=BJ hl;subst this;exact d (Kr.nil _ _)
  | some Z =>
   have i:=run_append_grow (P:=Tryz.prog) w 59 K 5 Y (.int .u8 0) Tryz.underlying59 hi I Z l.length l.length (l.map u8v) (by rw[D];simp) (λj y o=>by
     rw[CK]at o;cases f:l[j]? with
     | none=>simp[f]at o
     | some z =>
      obtain⟨L,e,_,C⟩:=n j z f;cases e;simp[f]at o
      rw[C,o])
    q m.length M (m.map u8v) (by rw[D];simp) g (by omega) (by omega) (growslice_fits (by omega) (by rw[J];omega))
   have N:=grownCap_ge w (l.length+m.length) l.length 5;have G:grownCap w (l.length+m.length) l.length 5<=BH:=grownCap_le_maxLen w (l.length+m.length) l.length 5 (by unfold BH;omega);refine⟨_,_,i,?_,(Xy.refl _ _).drew.alloc _⟩;refine⟨by simp,.inr ⟨w.heap.size,_,_,by rw[BO],T,heap_alloc_new w.drew _,by rw[BO];exact N,G,?_,?_⟩⟩
   ·simp[size_zeroCells,Value.cells];omega
   ·simp;rw[<- B7,List.take_append_of_le_length (by simp),List.take_of_length_le (by simp)]
 ·exact d h
theorem QT[bn:Ib]{o:Oper}(s x:Operand)(z:o.op=Op.call {callee:=Callee.builtin Builtin.append,args:=#[s,x],argTypes:=#[59,59]})(B:Nat)(d:Wq base w B v l)(g:Qv (bn:=Xl) base' w u m)(q:m≠[])(C:a.eval s=v)(D:a.eval x=u)(f:l.length+m.length<=70368744177664)(n:B<=w.heap.size)(p:∀i h,Kr h B i (l++m)->Xy (λb=>B<=b) w h->K (a.put o.dst i) h):o.wp Tryz.prog a w K Q:=by obtain⟨i,h,A,j,k⟩:=N6 o.type B d g q f n;unfold Oper.wp execOp;simp only[z,resolve,invoke,builtin,Sem.run_bind,Sem.run_pure,Result.andThen_ok,List.map_toArray,List.map_cons,List.map_nil,C,D,A];exact p _ _ j k
structure Ys where
 c:Int
 body:List UInt8
def Ys.right (s:Ys):Bool:=decide (0<=s.c/\s.c<8/\s.body.length<=4096)
def Ys.bytes (s:Ys):List UInt8:=D7 (s.c%256).toNat::(numB s.body.length++s.body)
theorem Bz{s:Ys}(m:s.body.length<=1099511627776):DJ Tryz.prog 115 #[.agg #[.int .i64 s.c,.slice ao s.body.length cap]] w λe k=>e=.returned (.bool s.right)/\Xy No w k:=by
 have f:Xy No w (w.alloc (.cells #[.int .i64 s.c,.slice ao s.body.length cap] 61)):=(Xy.refl _ _).alloc _;by_cases h:0<=s.c
 ·by_cases i:s.c<8
  ·by_cases j:s.body.length<=4096
   ·have g:(s.body.length:Int)<=4096:=by omega
    have d:s.right=true:=by simp[Ys.right,h,i,j]
    rw[d];clear d;go_enter Tryz.func115,Tryz.ntmps115;go_wp2;go_ret;exact⟨rfl,f⟩
   ·have g:¬(s.body.length:Int)<=4096:=by omega
    have d:s.right=false:=by simp[Ys.right];omega
    rw[d];clear d;go_enter Tryz.func115,Tryz.ntmps115;go_wp2;go_ret;exact⟨rfl,f⟩
  ·have d:s.right=false:=by simp[Ys.right];omega
   rw[d];clear d;go_enter Tryz.func115,Tryz.ntmps115;go_wp2;go_ret;exact⟨rfl,f⟩
 ·have d:s.right=false:=by simp[Ys.right];omega
  rw[d];clear d;go_enter Tryz.func115,Tryz.ntmps115;go_wp2;go_ret;exact⟨rfl,f⟩
theorem SX[bn:Ib](J:ban.top<=w.heap.size){s:Ys}(B:Qv base w Q s.body)(p:Qv base' w pv l)(O:l.length<=1073741824)(L:s.body.length<=1073741824) :
  DJ Tryz.prog 118 #[.agg #[.int .i64 s.c,Q],pv] w λe n=>∃R,e=.returned R/\Kr n w.heap.size R (l++s.bytes)/\Xy No w n:=by
 obtain⟨ao,cap,rfl⟩:=B.form;obtain⟨E,P,rfl⟩:=p.form;obtain⟨Z,z⟩:l.length<=P/\P<=BH:=by obtain⟨_,_,hq,U,V,_⟩:=p;simp at hq;omega
 unfold BH at z;obtain⟨W,o⟩:∃W,W=w.alloc (.cells #[.int .i64 s.c,.slice ao s.body.length cap] 61):=⟨_,rfl⟩;have D:Xy No w W:=by rw[o];exact(Xy.refl _ _).alloc _
 have q:W.heap[w.heap.size]?=AF (.cells #[.int .i64 s.c,.slice ao s.body.length cap] 61 (0,0)):=by rw[o];exact Qy _ _
 have F:=Qq q 0;have G:=Qq q 1;simp at F G;have N:Wq base' W W.heap.size (.slice E l.length l.length) l:=by obtain⟨S,H,M,U,V,X,Y⟩:=p.no D;simp only[DB]at M;obtain⟨rfl,_,rfl⟩:=M;refine .inl ⟨E,rfl,E,l.length,rfl,BE _,by unfold BH;omega,λe=>by have:=X e;omega,Y⟩
 obtain⟨r,A⟩:∃r:Nat,(r:Int)=s.c%256:=⟨(s.c%256).toNat,by omega⟩;have i:r<256:=by omega
 have aA:IntKind.u8.wrap s.c=(r:Int):=by rw[A];rfl
 have d:=BX (A7 B N O L D J A);clear B p N O L D q J A;go_enter Tryz.func118,Tryz.ntmps118;go_wp2_with fail;show Code.wp _ _ _ _ (w.alloc (.cells #[.int .i64 s.c,.slice ao s.body.length cap] 61));rw[<- o];clear o;have kd:Xy No W W.drew:=(Xy.refl _ _).drew;refine Ql (λn=>Xy No W n) [0,1,2,3,4,5,6,7,8,11,12] [9,10,13] [14] (by kernel_rfl) (by kernel_rfl) (λ_ _ _ _ _ h=>h) kd ?_;iterate 11(refine Qk (v:=?_) rfl rfl rfl ?_ ?_;rotate_left;focus(
  intro n I;have d0:=I.cell F id;have d1:=I.cell G id;go_simp
  try with_reducible rfl))
 refine Qj (Qx rfl rfl (λK g=>?_));go_simp;have C:=kd.alloc (.cells #[.int .u8 r] 5);refine g _ _ C ?_;clear g K;refine Qx rfl rfl (λK g=>?_);refine QT _ _ rfl W.heap.size (d.out.2.1.no C) (Vq W.drew r i) (by simp) rfl rfl (by have:=d.out.qc;simp;omega) (by simp) ?_;intro v1 w1 k k2;have f:Xy No W w1:=C.trans k2 (λx hx e=>by omega);refine g _ _ f ?_;clear g K;refine Qx rfl rfl (λK g=>?_);go_simp;refine(JC (k.bytes (base:=0) (λ_=>BF d.out.qf d.out.2.2.2.2.1.size)) (d.out.1.no (d.out.2.2.2.2.1.then f)) (by have:=d.out.qc;simp;omega) (by have:=d.out.qd;omega)).mono ?_;rintro e w2⟨v2,rfl,m,k3⟩;have j:=f.then k3;refine g _ _ j ?_;clear g K;refine Qh (Qu rfl (Qm ?_));go_wp2;go_ret;refine⟨v2,rfl,?_,d.out.2.2.2.2.1.then j⟩;have T:l++s.bytes=(l++[D7 r])++(numB s.body.length++s.body):=by unfold Ys.bytes;rw[<- d.out.rg,EO,B7];rfl
 rw[T];exact m.mono (BF d.out.2.2.2.2.1.size f.size)
structure Qc where
 n:Nat
 s:Ys
def Qc.bytes (i:Qc):List UInt8:=numB i.n++i.s.bytes
theorem SM[bn:Ib](F:ban.top<=w.heap.size){i:Qc}(B:Qv base w L i.s.body)(A:Qv base' w pv l)(I:i.n<18446744073709551616)(H:l.length<=536870912)(G:i.s.body.length<=1073741824) :
  DJ Tryz.prog 67 #[.agg #[.int .u64 i.n,.int .i64 i.s.c,L],pv] w λe o=>∃M,e=.returned M/\Kr o w.heap.size M (l++i.bytes)/\Xy No w o:=by
 obtain⟨ao,cap,rfl⟩:=B.form;obtain⟨S,R,rfl⟩:=A.form;obtain⟨W,q⟩:∃W,W=w.alloc (.cells #[.int .u64 i.n,.int .i64 i.s.c,.slice ao i.s.body.length cap] 111):=⟨_,rfl⟩;have J:Xy No w W:=by rw[q];exact(Xy.refl _ _).alloc _
 have p:W.heap[w.heap.size]?=AF (.cells #[.int .u64 i.n,.int .i64 i.s.c,.slice ao i.s.body.length cap] 111 (0,0)):=by rw[q];exact Qy _ _
 have C:=Qq p 0;have D:=Qq p 1;have E:=Qq p 2;simp at C D E;have d:=BX (A7 B A H G J F I);clear B A H G J p F I;go_enter Tryz.func67,Tryz.ntmps67;go_wp2_with fail;show Code.wp _ _ _ _ (w.alloc (.cells #[.int .u64 i.n,.int .i64 i.s.c,.slice ao i.s.body.length cap] 111));rw[<- q];clear q;have kd:Xy No W W.drew:=(Xy.refl _ _).drew;refine Ql (λo=>Xy No W o) [0,1,2,3,4] [5,6] [7] (by kernel_rfl) (by kernel_rfl) (λ_ _ _ _ _ h=>h) kd ?_;iterate 5(refine Qk (v:=?_) rfl rfl rfl ?_ ?_;rotate_left;focus(
  intro o z;have d0:=z.cell C id;have P:=z.cell D id;have Q:=z.cell E id;go_simp
  try with_reducible rfl))
 refine Qj (Qx rfl rfl (λK g=>?_));go_simp;refine(Xk (d.out.2.1.no (d.out.2.2.2.2.1.then kd)) i.n d.out.rg (by have:=d.out.qc;omega)).mono ?_;rintro e U⟨T,rfl,k,f⟩;have f:=kd.then f;refine g _ _ f ?_;clear g K;refine Qx rfl rfl (λK g=>?_);go_simp;refine(SX (base:=base) (base':=0) (s:=i.s) (BF d.out.qf (d.out.2.2.2.2.1.then f).size) (d.out.1.no (d.out.2.2.2.2.1.then f)) (k.bytes (λ_=>BF d.out.qf d.out.2.2.2.2.1.size)) (by have:=d.out.qc;have:=Qp d.out.rg;simp;omega) d.out.qd).mono ?_;rintro e V⟨O,rfl,m,N⟩;have j:=f.then N;refine g _ _ j ?_;clear g K;refine Qh (Qu rfl (Qm ?_));go_wp2;go_ret;refine⟨O,rfl,?_,d.out.2.2.2.2.1.then j⟩;unfold Qc.bytes;rw[<- B7];exact m.mono (BF d.out.2.2.2.2.1.size f.size)
end
section
open Go Go.RowKit
def InS.cls (s:InS):InS:=if s.byte.1<8 then s.byte.2 else s.byte.2.fail 2
def InS.span (s:InS):Ys×InS:=if(s.cls.some 4096).2.e=0 then(⟨s.byte.1,(s.cls.some 4096).1⟩,(s.cls.some 4096).2)else(⟨0,[]⟩,(s.cls.some 4096).2)
theorem Be(s:InS):s.byte.2.l.length<=s.l.length/\s.byte.1<256:=by
 unfold InS.byte
 split
 ·split
  ·rename_i h;simp[InS.fail]
  ·rename_i b r h;rw[h];have:=b.toNat_lt;simp;exact this
 ·exact⟨BE _,by show(0:Nat)<256;decide⟩
theorem NP(s:InS):s.cls.l.length<=s.l.length:=by
 unfold InS.cls
 split
 ·exact(Be s).1
 ·exact(Be s).1
theorem Hx.keepF[bn:Ib](h:Hx base w g s)(k:Xy F w d)(hF:Uz base w F)(m:¬F g):Hx base d g s:=by obtain⟨f,v,i,j⟩:=h;exact⟨f,v,k.heap i m,j.keep hF k⟩
theorem SZ[bn:Ib]{base g:Nat}{w:AC}{s:InS}(h:Hx base w g s)(aC:s.l.length<=1099511627776) :
  DJ Tryz.prog 199 #[.pointer (AF ⟨g,0,AI⟩)] w λe w'=>∃v,e=.returned (.agg #[.int .i64 s.span.1.c,v])/\Kr w' w.heap.size v s.span.1.body/\Hx base w' g s.span.2/\Xy (·=g) w w':=by
 obtain⟨b2,aG⟩:∃b,b=w.heap.size:=⟨_,rfl⟩;have aA:g<w.heap.size:=by obtain⟨_,v,h2,_⟩:=h;exact Qt h2
 obtain⟨W,hW⟩:∃W,W=w.alloc (.cells #[.int .i64 0,.slice AI 0 0] 61):=⟨_,rfl⟩;have kW:Xy No w W:=by rw[hW];exact(Xy.refl _ _).alloc _
 have hA:W.heap[b2]?=AF (.cells #[.int .i64 0,.slice AI 0 0] 61 (0,0)):=by rw[hW,aG];exact Qy _ _
 have aI:=Cc (h.no kW);obtain⟨k,hk⟩:∃k,k=s.byte.1:=⟨_,rfl⟩;obtain⟨s1,R⟩:∃s1,s1=s.byte.2:=⟨_,rfl⟩;obtain⟨X,aB⟩:∃X,X=s.cls:=⟨_,rfl⟩;rw[<- hk,<- R]at aI;have aL:k<256:=by rw[hk];exact(Be s).2
 have aY:(k:Int)<=255:=by omega
 have hc:X=if k<8 then s1 else s1.fail 2:=by rw[aB,hk,R];rfl
 have aR:X.l.length<=1099511627776:=by rw[aB];exact BF (NP s) aC
 have f:s.span=if(X.some 4096).2.e=0 then(⟨k,(X.some 4096).1⟩,(X.some 4096).2)else(⟨0,[]⟩,(X.some 4096).2):=by rw[aB,hk];rfl
 obtain⟨bb,aH⟩:∃bb,bb=(X.some 4096).1:=⟨_,rfl⟩;obtain⟨s3,aM⟩:∃s3,s3=(X.some 4096).2:=⟨_,rfl⟩;rw[<- aH,<- aM]at f;have q:=BX (A10 kW hA hc aR f aH aM aA aG h);clear kW hA hc aR f aH aM aA h hk R aB aL aC;subst aG;go_enter Tryz.func199,Tryz.ntmps199;go_wp2_with fail;rw[<- hW];clear hW;refine aI.mono ?_;rintro e z⟨rfl,aJ,k1⟩;clear aI;have kA:=λ(w:AC) o=>(Xy.refl No w).alloc o;have aO:=Qy z (.cells #[.int .i64 k,.slice AI 0 0] 61);have aQ:=aJ.no (kA z (.cells #[.int .i64 k,.slice AI 0 0] 61));have aP:=aJ.at';have O:=BX (A4 aO aQ k1 aP);clear aO aQ k1 aJ aP;by_cases h8:k<8
 ·have aU:¬(8:Int)<=(k:Int):=by omega
  have hc:=q.out.qc;rw[if_pos h8]at hc;subst hc;have G:=Et O.out.2.1 q.out.qd 4096 (by decide);rw[<- q.out.qf,<- q.out.qg]at G;go_wp2_with fail;refine G.mono ?_;rintro e w4⟨v4,rfl,n,A,S⟩;clear G;obtain⟨N,M,rfl⟩:=n.form;have aA:=q.out.qh;have R:=O.out.2.2.1.size;have aX:=q.out.1.size;have Q:¬z.heap.size=g:=λe=>by omega
  have C:¬w.heap.size=g:=λe=>by omega
  have j:=S.heap O.out.1 Q;have aF:=S.heap ((kA z _).heap (O.out.2.2.1.heap q.out.2.1 C) id) C;have c4:=Qq j 1;have f4:=Qg j;simp at c4;obtain⟨Y,hY⟩:∃Y,w4.setCell ⟨z.heap.size,1,AI⟩ (.slice N bb.length M)=Y:=⟨_,rfl⟩;have K:Xy (·=z.heap.size) w4 (w4.setCell ⟨z.heap.size,1,AI⟩ (.slice N bb.length M)):=Qd _ _;have D:=Qz (i:=1) (u:=.slice N bb.length M) j;have B:=A.keepF K (by rintro b rfl;exact⟨by have:=A.at';omega,Qt j,λcs fr e=>by rw[j]at e;simp at e⟩) (λe=>Q e.symm);rw[hY]at D K B;have aW:=Qt q.out.2.1;have d:=K.heap aF (λe=>by omega);have aK:=Vl B;have f:=q.out.qe;have aS:=S.size;have cY:=Qq D 0;have aE:=Qq D 1;have cA:=Qq d 0;have aD:=Qq d 1;have fA:=Qg d;simp at cY aE cA aD;go_wp2_with fail;refine aK.mono ?_;rintro e w5⟨rfl,aN⟩;subst aN;by_cases Z:s3.e=0
  ·rw[if_pos Z]at f;rw[Z];go_wp2_with fail;have P:=Qz (i:=1) (u:=.slice N bb.length M) (Qz (i:=0) (u:=.int .i64 k) d);have L:=(Qd (g:=w.heap.size) (i:=0) w5 (.int .i64 k)).setCell (p:=⟨w.heap.size,1,AI⟩) (.inl rfl) (.slice N bb.length M);have U:=Qq P 0;have V:=Qq P 1;simp at U V;refine FC (v:=.agg #[.int .i64 k,.slice N bb.length M]) (by simp[FD,Tryz.results199,go_sem,U,V]) rfl ?_;rw[f];have E:Uz base w5 (·=w.heap.size):=by rintro b rfl;exact⟨by have:=A.at';omega,Qt d,λcs fr e=>by rw[d]at e;simp at e⟩
   have J:Xy (·=g) w z:=(q.out.1.no (F:=(·=g))).trans O.out.qc (λx _ h=>h);have m:=(((J.trans (kA z (.cells #[.int .i64 k,.slice AI 0 0] 61)) (λx _ h=>h.elim)).trans S (λx _ h=>h)).trans K (λx hx h=>by omega)).trans L (λx hx h=>by omega);have H:=B.keepF L E (by omega);have I:=n.lt;simp at I;exact⟨_,rfl,(((n.mono (by simp;omega)).keep K (λb hb=>by have:=I b hb;omega)).keep L (λb hb=>by have:=I b hb;omega)),H,m⟩
  ·rw[if_neg Z]at f;have hq:(s3.e==0)=false:=by simpa using Z
   go_wp2_with fail;have P:=Qz (i:=1) (u:=.slice AI 0 0) (Qz (i:=0) (u:=.int .i64 0) d);have L:=(Qd (g:=w.heap.size) (i:=0) w5 (.int .i64 0)).setCell (p:=⟨w.heap.size,1,AI⟩) (.inl rfl) (.slice AI 0 0);have U:=Qq P 0;have V:=Qq P 1;simp at U V;refine FC (v:=.agg #[.int .i64 0,.slice AI 0 0]) (by simp[FD,Tryz.results199,go_sem,U,V]) rfl ?_;rw[f];have E:Uz base w5 (·=w.heap.size):=by rintro b rfl;exact⟨by have:=A.at';omega,Qt d,λcs fr e=>by rw[d]at e;simp at e⟩
   have J:Xy (·=g) w z:=(q.out.1.no (F:=(·=g))).trans O.out.qc (λx _ h=>h);have m:=(((J.trans (kA z (.cells #[.int .i64 k,.slice AI 0 0] 61)) (λx _ h=>h.elim)).trans S (λx _ h=>h)).trans K (λx hx h=>by omega)).trans L (λx hx h=>by omega);have H:=B.keepF L E (by omega);exact⟨_,rfl,Kr.nil _ _,H,m⟩
 ·have aU:(8:Int)<=(k:Int):=by omega
  have hc:=q.out.qc;rw[if_neg h8]at hc;have hf:=Kb O.out.2.1 2;rw[<- hc]at hf;go_wp2_with fail;refine hf.mono ?_;rintro e w2⟨rfl,aV,k2⟩;clear hf;have G:=Et aV q.out.qd 4096 (by decide);rw[<- q.out.qf,<- q.out.qg]at G;go_wp2_with fail;refine G.mono ?_;rintro e w4⟨v4,rfl,T,A,aT⟩;clear G;have n:=T.mono k2.size;have S:=k2.trans aT (λx _ h=>h);clear T aT;obtain⟨N,M,rfl⟩:=n.form;have aA:=q.out.qh;have R:=O.out.2.2.1.size;have aX:=q.out.1.size;have Q:¬z.heap.size=g:=λe=>by omega
  have C:¬w.heap.size=g:=λe=>by omega
  have j:=S.heap O.out.1 Q;have aF:=S.heap ((kA z _).heap (O.out.2.2.1.heap q.out.2.1 C) id) C;have c4:=Qq j 1;have f4:=Qg j;simp at c4;obtain⟨Y,hY⟩:∃Y,w4.setCell ⟨z.heap.size,1,AI⟩ (.slice N bb.length M)=Y:=⟨_,rfl⟩;have K:Xy (·=z.heap.size) w4 (w4.setCell ⟨z.heap.size,1,AI⟩ (.slice N bb.length M)):=Qd _ _;have D:=Qz (i:=1) (u:=.slice N bb.length M) j;have B:=A.keepF K (by rintro b rfl;exact⟨by have:=A.at';omega,Qt j,λcs fr e=>by rw[j]at e;simp at e⟩) (λe=>Q e.symm);rw[hY]at D K B;have aW:=Qt q.out.2.1;have d:=K.heap aF (λe=>by omega);have aK:=Vl B;have f:=q.out.qe;have aS:=S.size;have cY:=Qq D 0;have aE:=Qq D 1;have cA:=Qq d 0;have aD:=Qq d 1;have fA:=Qg d;simp at cY aE cA aD;go_wp2_with fail;refine aK.mono ?_;rintro e w5⟨rfl,aN⟩;subst aN;by_cases Z:s3.e=0
  ·rw[if_pos Z]at f;rw[Z];go_wp2_with fail;have P:=Qz (i:=1) (u:=.slice N bb.length M) (Qz (i:=0) (u:=.int .i64 k) d);have L:=(Qd (g:=w.heap.size) (i:=0) w5 (.int .i64 k)).setCell (p:=⟨w.heap.size,1,AI⟩) (.inl rfl) (.slice N bb.length M);have U:=Qq P 0;have V:=Qq P 1;simp at U V;refine FC (v:=.agg #[.int .i64 k,.slice N bb.length M]) (by simp[FD,Tryz.results199,go_sem,U,V]) rfl ?_;rw[f];have E:Uz base w5 (·=w.heap.size):=by rintro b rfl;exact⟨by have:=A.at';omega,Qt d,λcs fr e=>by rw[d]at e;simp at e⟩
   have J:Xy (·=g) w z:=(q.out.1.no (F:=(·=g))).trans O.out.qc (λx _ h=>h);have m:=(((J.trans (kA z (.cells #[.int .i64 k,.slice AI 0 0] 61)) (λx _ h=>h.elim)).trans S (λx _ h=>h)).trans K (λx hx h=>by omega)).trans L (λx hx h=>by omega);have H:=B.keepF L E (by omega);have I:=n.lt;simp at I;exact⟨_,rfl,(((n.mono (by simp;omega)).keep K (λb hb=>by have:=I b hb;omega)).keep L (λb hb=>by have:=I b hb;omega)),H,m⟩
  ·rw[if_neg Z]at f;have hq:(s3.e==0)=false:=by simpa using Z
   go_wp2_with fail;have P:=Qz (i:=1) (u:=.slice AI 0 0) (Qz (i:=0) (u:=.int .i64 0) d);have L:=(Qd (g:=w.heap.size) (i:=0) w5 (.int .i64 0)).setCell (p:=⟨w.heap.size,1,AI⟩) (.inl rfl) (.slice AI 0 0);have U:=Qq P 0;have V:=Qq P 1;simp at U V;refine FC (v:=.agg #[.int .i64 0,.slice AI 0 0]) (by simp[FD,Tryz.results199,go_sem,U,V]) rfl ?_;rw[f];have E:Uz base w5 (·=w.heap.size):=by rintro b rfl;exact⟨by have:=A.at';omega,Qt d,λcs fr e=>by rw[d]at e;simp at e⟩
   have J:Xy (·=g) w z:=(q.out.1.no (F:=(·=g))).trans O.out.qc (λx _ h=>h);have m:=(((J.trans (kA z (.cells #[.int .i64 k,.slice AI 0 0] 61)) (λx _ h=>h.elim)).trans S (λx _ h=>h)).trans K (λx hx h=>by omega)).trans L (λx hx h=>by omega);have H:=B.keepF L E (by omega);exact⟨_,rfl,Kr.nil _ _,H,m⟩
def InS.item (s:InS):Qc×InS:=if s.num.2.span.2.e=0 then(⟨s.num.1,s.num.2.span.1⟩,s.num.2.span.2)else(⟨0,⟨0,[]⟩⟩,s.num.2.span.2)
theorem SN[bn:Ib]{base g:Nat}{w:AC}{s:InS}(h:Hx base w g s)(m:s.l.length<=1099511627776) :
  DJ Tryz.prog 162 #[.pointer (AF ⟨g,0,AI⟩)] w λe w'=>∃v,e=.returned (.agg #[.int .u64 s.item.1.n,.int .i64 s.item.1.s.c,v])/\Kr w' w.heap.size v s.item.1.s.body/\Hx base w' g s.item.2/\Xy (·=g) w w':=by
 obtain⟨b2,T⟩:∃b,b=w.heap.size:=⟨_,rfl⟩;have I:g<w.heap.size:=by obtain⟨_,v,h2,_⟩:=h;exact Qt h2
 obtain⟨W,hW⟩:∃W,W=w.alloc (.cells #[.int .u64 0,.int .i64 0,.slice AI 0 0] 111):=⟨_,rfl⟩;have kW:Xy No w W:=by rw[hW];exact(Xy.refl _ _).alloc _
 have hA:W.heap[b2]?=AF (.cells #[.int .u64 0,.int .i64 0,.slice AI 0 0] 111 (0,0)):=by rw[hW,T];exact Qy _ _
 have hn:=Gm (h.no kW) m;obtain⟨k,hk⟩:∃k,k=s.num.1:=⟨_,rfl⟩;obtain⟨s1,D⟩:∃s1,s1=s.num.2:=⟨_,rfl⟩;have V:s1.l.length<=1099511627776:=by rw[D];exact BF (GH s) m
 have f:s.item=if s1.span.2.e=0 then(⟨k,s1.span.1⟩,s1.span.2)else(⟨0,⟨0,[]⟩⟩,s1.span.2):=by rw[D,hk];rfl
 rw[<- hk,<- D]at hn;have G:=BX (A6 kW hA V f I h);clear kW hA V f I h hk D m;subst T;go_enter Tryz.func162,Tryz.ntmps162;go_wp2_with fail;rw[<- hW];clear hW;refine hn.mono ?_;rintro e A⟨rfl,U,k1⟩;clear hn;have kA:=λ(w:AC) o=>(Xy.refl No w).alloc o;have R:=Qy A (.cells #[.int .u64 k,.int .i64 0,.slice AI 0 0] 111);have J:=U.no (kA A (.cells #[.int .u64 k,.int .i64 0,.slice AI 0 0] 111));have hs:=SZ J G.out.qc;have HB:=BX (A3 R J k1);clear R J k1 U;go_wp2_with fail;refine hs.mono ?_;rintro e w4⟨v4,rfl,z,K,k4⟩;clear hs;obtain⟨Q,P,rfl⟩:=z.form;have f:=G.out.qd;have I:=G.out.qe;have aK:=HB.out.2.2.size;have aL:=G.out.1.size;have X:¬A.heap.size=g:=λe=>by omega
 have E:¬w.heap.size=g:=λe=>by omega
 have j:=k4.heap HB.out.1 X;have aG:=k4.heap ((kA A _).heap (HB.out.2.2.heap G.out.2.1 E) id) E;have c4:=Qq j 1;have c5:=Qq j 2;have f4:=Qg j;simp at c4 c5;have N:=(Qd (g:=A.heap.size) (i:=1) w4 (.int .i64 s1.span.1.c)).setCell (p:=⟨A.heap.size,2,AI⟩) (.inl rfl) (.slice Q s1.span.1.body.length P);have B:=Qz (i:=2) (u:=.slice Q s1.span.1.body.length P) (Qz (i:=1) (u:=.int .i64 s1.span.1.c) j);obtain⟨Y,hY⟩:∃Y,(w4.setCell ⟨A.heap.size,1,AI⟩ (.int .i64 s1.span.1.c)).setCell ⟨A.heap.size,2,AI⟩ (.slice Q s1.span.1.body.length P)=Y:=⟨_,rfl⟩;have C:=K.keepF N (by rintro b rfl;exact⟨by have:=K.at';omega,Qt j,λcs fr e=>by rw[j]at e;simp at e⟩) (λe=>X e.symm);rw[hY]at B N C;have aJ:=Qt G.out.2.1;have d:=N.heap aG (λe=>by omega);have aH:=Vl C;have cY:=Qq B 0;have aE:=Qq B 1;have aF:=Qq B 2;have cA:=Qq d 0;have aC:=Qq d 1;have aD:=Qq d 2;have fA:=Qg d;simp at cY aE aF cA aC aD;go_wp2_with fail;refine aH.mono ?_;rintro e w5⟨rfl,aI⟩;subst aI;have S:Uz base w5 (·=w.heap.size):=by rintro b rfl;exact⟨by have:=K.at';omega,Qt d,λcs fr e=>by rw[d]at e;simp at e⟩
 have Z:Xy (·=g) w A:=(G.out.1.no (F:=(·=g))).trans HB.out.2.2 (λx _ h=>h);have M:=z.lt;simp at M;have aA:=z.mono (B':=w.heap.size) (by simp;omega);have aB:=aA.keep N (λb hb=>by have:=M b hb;omega);clear hY;by_cases he:s1.span.2.e=0
 ·rw[if_pos he]at f;rw[he];go_wp2_with fail;have H:=Qz (i:=2) (u:=.slice Q s1.span.1.body.length P) (Qz (i:=1) (u:=.int .i64 s1.span.1.c) (Qz (i:=0) (u:=.int .u64 k) d));have O:=((Qd (g:=w.heap.size) (i:=0) w5 (.int .u64 k)).setCell (p:=⟨w.heap.size,1,AI⟩) (.inl rfl) (.int .i64 s1.span.1.c)).setCell (p:=⟨w.heap.size,2,AI⟩) (.inl rfl) (.slice Q s1.span.1.body.length P);have z0:=Qq H 0;have z1:=Qq H 1;have z2:=Qq H 2;simp at z0 z1 z2;refine FC (v:=.agg #[.int .u64 k,.int .i64 s1.span.1.c,.slice Q s1.span.1.body.length P]) (by simp[FD,Tryz.results162,go_sem,z0,z1,z2]) rfl ?_;rw[f];have q:=(((Z.trans (kA A (.cells #[.int .u64 k,.int .i64 0,.slice AI 0 0] 111)) (λx _ h=>h.elim)).trans k4 (λx _ h=>h)).trans N (λx hx h=>by omega)).trans O (λx hx h=>by omega);have L:=C.keepF O S (by omega);exact⟨_,rfl,aB.keep O (λb hb=>by have:=M b hb;omega),L,q⟩
 ·rw[if_neg he]at f;have hq:(s1.span.2.e==0)=false:=by simpa using he
  go_wp2_with fail;have H:=Qz (i:=2) (u:=.slice AI 0 0) (Qz (i:=1) (u:=.int .i64 0) (Qz (i:=0) (u:=.int .u64 0) d));have O:=((Qd (g:=w.heap.size) (i:=0) w5 (.int .u64 0)).setCell (p:=⟨w.heap.size,1,AI⟩) (.inl rfl) (.int .i64 0)).setCell (p:=⟨w.heap.size,2,AI⟩) (.inl rfl) (.slice AI 0 0);have z0:=Qq H 0;have z1:=Qq H 1;have z2:=Qq H 2;simp at z0 z1 z2;refine FC (v:=.agg #[.int .u64 0,.int .i64 0,.slice AI 0 0]) (by simp[FD,Tryz.results162,go_sem,z0,z1,z2]) rfl ?_;rw[f];have q:=(((Z.trans (kA A (.cells #[.int .u64 k,.int .i64 0,.slice AI 0 0] 111)) (λx _ h=>h.elim)).trans k4 (λx _ h=>h)).trans N (λx hx h=>by omega)).trans O (λx hx h=>by omega);have L:=C.keepF O S (by omega);exact⟨_,rfl,Kr.nil _ _,L,q⟩
end
section
theorem Gl(k:Nat)(h:k<256):(D7 k).toNat=k:=by simp;omega
theorem Q9:∀(k i acc n:Nat) (r:List UInt8),n<2*128^k->(i+k=9)->(n=0->i=0)->Dy i acc (numB n++r)=.ok (acc+n*128^i,r)
 | 0,i,acc,n,r,h,hi,g=>by
  have j:n<2:=by simpa using h
  rw[Yb (by omega)];show Dy i acc (D7 n::r)=_;unfold Dy;rw[Gl n (by omega),if_neg (by omega),if_neg (by omega),if_pos (by omega)]
 | k+1,i,acc,n,r,h,hi,g=>by
  by_cases d:n<128
  ·rw[Yb d];show Dy i acc (D7 n::r)=_;unfold Dy;rw[Gl n (by omega),if_neg (by omega),if_neg (by omega),if_pos d]
  ·rw[Rv (by omega)];show Dy i acc (D7 (n%128+128)::(numB (n/128)++r))=_;unfold Dy;rw[Gl _ (by omega),if_neg (by omega),if_neg (by omega),if_neg (by omega)];have e:(n%128+128)%128=n%128:=by omega
   rw[e,Q9 k (i+1) _ (n/128) r (by rw[Nat.div_lt_iff_lt_mul (by decide)];rw[D9,<- FZ]at h;exact h) (by omega) (λm=>by omega)];have f:n=n%128+128*(n/128):=(Nat.mod_add_div n 128).symm;congr 2;rw[D9,Nat.add_assoc];congr 1
   conv=>rhs;rw[f]
   rw[Nat.add_mul];congr 1;rw[E5 (128^i) 128,<- FZ,E5 (n/128) 128]
theorem Gx(d:n<18446744073709551616)(r:List UInt8):InS.num ⟨numB n++r,0⟩=(n,⟨r,0⟩):=by have h:=Q9 9 0 0 n r (Nat.lt_of_lt_of_le d (by decide)) rfl (λ_=>rfl);unfold InS.num;rw[if_pos rfl];show InS.numR _ (Dy 0 0 (numB n++r))=_;rw[h];show(0+n*128^0,_)=_;simp
theorem SJ(most:Nat)(d:b.length<=most)(f:most<18446744073709551616)(r:List UInt8):InS.some ⟨numB b.length++(b++r),0⟩ most=(b,⟨r,0⟩):=by unfold InS.some;rw[if_pos rfl,Gx (by omega)];simp only;rw[if_pos trivial,if_neg (by omega),if_neg (by simp)];simp
def Ys.Right (s:Ys):Prop:=0<=s.c/\s.c<8/\s.body.length<=4096
theorem UD(h:s.Right)(r:List UInt8):InS.span ⟨s.bytes++r,0⟩=(s,⟨r,0⟩):=by
 obtain⟨j,k,i⟩:=h;obtain⟨c,g⟩:∃c:Nat,s.c=(c:Int):=⟨s.c.toNat,by omega⟩;have e:s.bytes++r=D7 c::(numB s.body.length++(s.body++r)):=by
  unfold Ys.bytes;rw[g];have:((c:Int)%256).toNat=c:=by omega
  rw[this];simp
 have d:InS.byte ⟨s.bytes++r,0⟩=(c,⟨numB s.body.length++(s.body++r),0⟩):=by unfold InS.byte;rw[if_pos rfl,e];simp only;rw[Gl c (by omega)]
 have f:InS.cls ⟨s.bytes++r,0⟩=⟨numB s.body.length++(s.body++r),0⟩:=by unfold InS.cls;rw[d];simp only;rw[if_pos (by omega)]
 unfold InS.span;rw[f,d,SJ 4096 i (by decide)];simp only;rw[if_pos trivial,<- g]
theorem KT(d:i.n<18446744073709551616)(h:i.s.Right)(r:List UInt8):InS.item ⟨i.bytes++r,0⟩=(i,⟨r,0⟩):=by unfold InS.item Qc.bytes;rw[B7,Gx d];simp only;rw[UD h];simp only;rw[if_pos trivial]
inductive Ji where
 | inc (n:Nat)
 | floor (a n:Nat)
 | put (a base:Nat)(l:List Qc)
def Qb (l:List Qc):List UInt8:=l.flatMap Qc.bytes
def Ji.bytes:Ji->List UInt8
 | .inc n=>1::numB n
 | .floor a n=>2::(numB a++numB n)
 | .put a base l=>3::(numB a++(numB base++(numB l.length++Qb l)))
def Qc.Right (i:Qc):Prop:=i.n<2305843009213693952/\i.s.Right
structure AgS where
 floor:Nat
 now:Xn
 safe:Xn
structure Hk where
 who:Nat
 n:Nat
 s:Ys
structure Xs where
 inc:Nat
 ag:List AgS
 recs:List Hk
 safe:Nat
def Xs.start (width:Nat):Xs:=⟨0,List.replicate 16 ⟨0,Xn.new width,⟨0,0,[]⟩⟩,[],0⟩
def Xn.putAll (w:Xn)(l:List Qc):Xn:=l.foldl (λw x=>w.put x.n) w
def Xn.allIn:Xn->List Qc->Prop
 | _,[]=>True
 | w,x::l=>w.takes x.n=true/\(w.put x.n).allIn l
def Xs.win (L:Xs)(a:Nat):Xn:=match L.ag[a]? with
 | none=>⟨0,0,[]⟩
 | some g=>g.now
def Xs.floor (L:Xs)(a:Nat):Nat:=match L.ag[a]? with
 | none=>0
 | some g=>g.floor
def Xs.step (L:Xs):Ji->Xs
 | .inc n=>{L with inc:=n}
 | .floor a n=>{L with ag:=L.ag.modify a (λg=>{g with floor:=n})}
 | .put a base l=>{L with ag:=L.ag.modify a (λg=>{g with now:=(g.now.skip base).putAll l}),recs:=L.recs++l.map (λx=>⟨a,x.n,x.s⟩)}
def Xs.can (L:Xs):Ji->Prop
 | .inc n=>L.inc<n/\n<2305843009213693952
 | .floor a n=>a<16/\L.floor a<n/\n<2305843009213693952
 | .put a base l=>a<16/\base<2305843009213693952/\l.length<=64/\(∀x∈l,x.Right)/\((L.win a).skip base).allIn l
def Xs.sync (L:Xs):Xs:={L with ag:=L.ag.map (λg=>{g with safe:=g.now}),safe:=L.recs.length}
structure AgS.Ok (width:Nat)(g:AgS):Prop where
 now:g.now.Ok
 width:g.now.width=width
 low:g.now.low<2305843009213693952
 below:∀n,Ux g.now.set n->n<2305843009213693952
 floor:g.floor<2305843009213693952
structure Xs.Ok (width:Nat)(L:Xs):Prop where
 wide:1<=width/\width<=1024
 inc:L.inc<2305843009213693952
 ag:L.ag.length=16
 win:∀(a:Nat) (g:AgS),L.ag[a]?=AF g->g.Ok width
 had:∀r∈L.recs,r.who<16/\r.n<2305843009213693952/\r.s.Right/\(L.win r.who).Had r.n
 once:L.recs.Pairwise (λa b=>¬(a.who=b.who/\a.n=b.n))
theorem Xs.Ok.start(h:1<=width/\width<=1024):(Xs.start width).Ok width:=by refine⟨h,(by show(0:Nat)<_;decide),by simp[Xs.start],λa g d=>?_,λr j=>by simp[Xs.start]at j,DC⟩;have f:=List.mem_of_getElem? d;have:g=⟨0,Xn.new width,⟨0,0,[]⟩⟩:=List.eq_of_mem_replicate f;subst this;exact⟨Xn.Ok.new h,rfl,(by show(0:Nat)<_;decide),λn i=>(Ux.nil _ i).elim,(by show(0:Nat)<_;decide)⟩
structure Xn.Fine (width:Nat)(w:Xn):Prop where
 ok:w.Ok
 width:w.width=width
 low:w.low<2305843009213693952
 below:∀n,Ux w.set n->n<2305843009213693952
theorem Xn.Fine.had{width:Nat}{w:Xn}(h:w.Fine width)(d:w.Had n):n<2305843009213693952:=by
 rcases d with d|d
 ·have:=h.low;omega
 ·exact h.below n d
theorem Xn.Fine.of{width:Nat}{w:Xn}(h:w.Ok)(g:w.width=width)(d:∀n,w.Had n->n<2305843009213693952):w.Fine width:=⟨h,g,d _ (.inl (BE _)),λn f=>d n (.inr f)⟩
theorem Xn.Fine.skip{width:Nat}{w:Xn}(h:w.Fine width)(k:b<=2305843009213693952):(w.skip b).Fine width:=by obtain⟨d,f,j,g⟩:=h.ok.skip (b:=b) (by omega);exact Xn.Fine.of d (f.trans h.width) (λn i=>by rcases(g n).1 i with a|a;exact h.had a;omega)
theorem Xn.Fine.put{width:Nat}{w:Xn}(h:w.Fine width)(j:n<2305843009213693952):(w.put n).Fine width:=by obtain⟨d,f,k,g⟩:=h.ok.put (n:=n) (by omega);exact Xn.Fine.of d (f.trans h.width) (λm i=>by rcases(g m).1 i with a|a;exact h.had a;rw[a.2];exact j)
theorem Xn.Fine.putAll{width:Nat}:∀{l:List Qc} {w:Xn},w.Fine width->(∀x∈l,x.n<2305843009213693952)->(w.putAll l).Fine width
 | [],_,h,_=>h
 | x::l,w,h,d=>Xn.Fine.putAll (l:=l) (w:=w.put x.n) (h.put (d x (by simp))) (λy f=>d y (by simp[f]))
theorem Ao:∀{l:List Qc} {w:Xn},w.Fine width->(∀x∈l,x.n<2305843009213693952)->w.allIn l->∀m,(w.putAll l).Had m↔w.Had m\/∃x∈l,x.n=m
 | [],w,h,_,_,m=>by simp[Xn.putAll]
 | x::l,w,h,d,f,m=>by
  have j:=Ao (l:=l) (w:=w.put x.n) (h.put (d x (by simp))) (λy i=>d y (by simp[i])) f.2 m
  have g:=(h.ok.put (n:=x.n) (by have:=d x (by simp);omega)).2.2.2 m
  show((w.put x.n).putAll l).Had m↔_
  rw[j,g]
  simp only[f.1,true_and,C1,exists_eq_or_imp]
  constructor
  ·rintro((a|a)|a)
   ·exact .inl a
   ·exact .inr (.inl a.symm)
   ·exact .inr (.inr a)
  ·rintro(a|a|a)
   ·exact .inl (.inl a)
   ·exact .inl (.inr a.symm)
   ·exact .inr a
theorem QD:∀{l:List Qc} {w:Xn},w.Fine width->(∀x∈l,x.n<2305843009213693952)->w.allIn l->(∀x∈l,¬w.Had x.n)/\l.Pairwise (λa b=>a.n≠b.n)
 | [],w,h,_,_=>⟨λx g=>by simp at g,DC⟩
 | x::l,w,h,i,f=>by
  have g:=i x (by simp)
  obtain⟨k,o⟩:=QD (l:=l) (w:=w.put x.n) (h.put g) (λy d=>i y (by simp[d])) f.2
  have j:=(h.ok.put (n:=x.n) (by omega)).2.2.2
  refine⟨λy d=>?_,List.pairwise_cons.2 ⟨λy d e=>?_,o⟩⟩
  ·rcases C1.1 d with rfl|d
   ·exact((h.ok.takes _).1 f.1).1
   ·exact λm=>k y d ((j _).2 (.inl m))
  ·exact k y d ((j _).2 (.inr ⟨f.1,e.symm⟩))
theorem Bp:∀{l:List Qc} {w:Xn} {k:Nat} {x:Qc},w.allIn l->l[k]?=AF x->(w.putAll (l.take k)).takes x.n=true
 | [],w,k,x,_,h=>by simp at h
 | y::l,w,0,x,d,h=>by
  simp at h
  subst h
  exact d.1
 | y::l,w,k+1,x,d,h=>Bp (l:=l) (w:=w.put y.n) d.2 (by simpa using h)
theorem Ep{l:List Qc}(w:Xn)(h:l[k]?=AF x):w.putAll (l.take (k+1))=(w.putAll (l.take k)).put x.n:=by obtain⟨d,rfl⟩:=BK.1 h;unfold Xn.putAll;rw[List.take_succ_eq_append_getElem d,List.foldl_append];rfl
theorem AgS.Ok.fine{width:Nat}{g:AgS}(h:g.Ok width):g.now.Fine width:=⟨h.now,h.width,h.low,h.below⟩
theorem Xs.Ok.at{L:Xs}(h:L.Ok width)(f:a<16):∃g,L.ag[a]?=AF g/\g.Ok width/\L.win a=g.now/\L.floor a=g.floor:=by
 have d:a<L.ag.length:=by rw[h.ag];exact f
 refine⟨L.ag[a],BY d,h.win a _ (BY d),?_,?_⟩
 ·unfold Xs.win;rw[BY d]
 ·unfold Xs.floor;rw[BY d]
theorem Xs.Ok.step{L:Xs}(h:L.Ok width)(H:L.can r):(L.step r).Ok width:=by
 cases r with
 | inc n=>exact⟨h.wide,H.2,h.ag,h.win,h.had,h.once⟩
 | floor a n =>
  obtain⟨G,R,F⟩:=H;have K:∀b,(L.step (.floor a n)).win b=L.win b:=λb=>by
   unfold Xs.step;simp only;unfold Xs.win;simp only[HU];by_cases d:a=b
   ·subst d;cases L.ag[a]?<;>simp
   ·simp[d]
  refine⟨h.wide,h.inc,by simp[Xs.step,h.ag],λb g k=>?_,λr E=>?_,h.once⟩
  ·simp only[Xs.step,HU]at k;by_cases d:a=b
   ·subst d;simp at k;obtain⟨U,I,rfl⟩:=k;have:=h.win a U I;exact⟨this.now,this.width,this.low,this.below,F⟩
   ·simp[d]at k;exact h.win b g k
  ·obtain⟨M,N,O,p⟩:=h.had r E;exact⟨M,N,O,by rw[K];exact p⟩
 | put a base l =>
  obtain⟨G,d,S,E,z⟩:=H;obtain⟨g,k,q,w,_⟩:=h.at G;rw[w]at z;have j:∀x∈l,x.n<2305843009213693952:=λx B=>(E x B).1;have A:=q.fine.skip (b:=base) (by omega);have D:=A.putAll j;have m:=Ao A j z;obtain⟨C,J⟩:=QD A j z;have o:=(q.now.skip (b:=base) (by omega)).2.2.2;have K:∀b,(L.step (.put a base l)).win b=if a=b then(g.now.skip base).putAll l else L.win b:=λb=>by
   unfold Xs.step;simp only;unfold Xs.win;simp only[HU];by_cases d:a=b
   ·subst d;simp[k]
   ·simp[d]
  refine⟨h.wide,h.inc,by simp[Xs.step,h.ag],λb T i=>?_,λr f=>?_,?_⟩
  ·simp only[Xs.step,HU]at i;by_cases d:a=b
   ·subst d;simp[k]at i;rw[<- i];exact⟨D.ok,D.width,D.low,D.below,q.floor⟩
   ·simp[d]at i;exact h.win b T i
  ·rw[K];rcases List.mem_append.1 f with f|f
   ·obtain⟨M,N,O,p⟩:=h.had r f;refine⟨M,N,O,?_⟩;by_cases d:a=r.who
    ·rw[if_pos d,m,o];rw[<- d,w]at p;exact .inl (.inl p)
    ·rw[if_neg d];exact p
   ·obtain⟨x,B,rfl⟩:=CP.1 f;refine⟨G,j x B,(E x B).2,?_⟩;rw[if_pos rfl,m];exact .inr ⟨x,B,rfl⟩
  ·show(L.recs++l.map _).Pairwise _;refine List.pairwise_append.2 ⟨h.once,?_,λr f y V=>?_⟩
   ·rw[List.pairwise_map];exact J.imp (λR F=>R F.2)
   ·obtain⟨x,B,rfl⟩:=CP.1 V;rintro⟨P,Q⟩;have p:=(h.had r f).2.2.2;simp only at P Q;rw[P,w,Q]at p;exact C x B ((o _).2 (.inl p))
theorem Xs.Ok.sync{L:Xs}(h:L.Ok width):L.sync.Ok width:=by
 have k:∀b,L.sync.win b=L.win b:=λb=>by
  unfold Xs.sync Xs.win;simp only[CK];cases L.ag[b]?<;>rfl
 refine⟨h.wide,h.inc,by simp[Xs.sync,h.ag],λb g f=>?_,λr j=>by rw[k];exact h.had r j,h.once⟩;simp[Xs.sync]at f;obtain⟨i,d,rfl⟩:=f;have:=h.win b i d;exact⟨this.now,this.width,this.low,this.below,this.floor⟩
end
end Go.Proofs.YtfdmbomlkpkegaaGreat
