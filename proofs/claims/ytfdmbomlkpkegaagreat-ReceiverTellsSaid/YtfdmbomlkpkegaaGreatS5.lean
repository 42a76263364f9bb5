/- Lemmas. -/
import Derived.Test.YtfdmbomlkpkegaaGreatS4
set_option maxRecDepth 100000
set_option maxHeartbeats 8000000
set_option linter.all false
set_option autoImplicit true
set_option relaxedAutoImplicit true
open Go renaming Calls->DJ,Value->AM,World->AC,maxLen->BH
open Go.Builtin renaming append->BQ,zeroCells->BU
open Go.Callee renaming builtin->BP
open Go.IntKind renaming wrap_u64->F0
open Go.Lib renaming hid->BX
open Go.RowKit renaming intOf->C0
open Go.Value renaming agg->F9
open Go.Value.slice renaming injEq->DB
open Go.World.ownsRow renaming lt->BL
open Int renaming natCast_nonneg->ED,tdiv_eq_ediv_of_nonneg->EZ
open List renaming append_nil->B5,eq_nil_of_length_eq_zero->BJ,flatten_append->BN,getElem?_eq_getElem->BY,getElem?_eq_some_iff->BK,length->FA,length_append->BO,length_cons->AT,length_pos_iff->F5
open Nat renaming div_div_eq_div_mul->EX,div_le_self->EY,le_refl->BE,le_trans->BF,lt_of_lt_of_le->BG,lt_or_ge->F7,mod_two_eq_zero_or_one->ES,xor_assoc->ET,xor_comm->EW,xor_div_two->EV,xor_zero->EU,zero_le->BW
open Option renaming none->AI,some->AF
open Option.some renaming inj->F8
open UInt8 renaming ofNat->D7
namespace Go.Proofs.YtfdmbomlkpkegaaGreat
open Go Go.RowKit
theorem VM(a b:Nat):(a ^^^ b)%2=(a%2+b%2)%2:=by have h:=@Nat.xor_mod_two_pow a b 1;rw[Nat.pow_one]at h;rw[h];rcases ES a with d|d<;>rcases ES b with f|f<;>rw[d,f]<;>rfl
theorem MJ(a p:Nat):a ^^^ p ^^^ p=a:=by rw[ET,Nat.xor_self,EU]
def Kz (r:Nat):Nat:=if r%2=0 then r/2 else r/2 ^^^ 3988292384
theorem SR(a b:Nat):Kz (a ^^^ b)=Kz a ^^^ Kz b:=by
 unfold Kz;rw[VM,EV];generalize a/2=x;generalize b/2=y;generalize 3988292384=p;rcases ES a with d|d<;>rcases ES b with f|f<;>simp only[d,f]<;>simp
 ·rw[ET]
 ·rw[ET,ET,EW p]
 ·rw[ET,<- ET p,EW p y,MJ]
theorem SH(a:Nat):Kz (2*a)=a:=by unfold Kz;rw[if_pos (by omega)];omega
theorem Of(r:Nat):Kz (Kz (Kz (Kz r)))=halfN r:=by
 have h:r=16*(r/16) ^^^ r%16:=by
  have d:r%16<2^4:=by omega
  have g:=Nat.two_pow_add_eq_or_of_lt d (r/16);have j:16*(r/16) ^^^ r%16=16*(r/16) ||| r%16:=by
   apply Nat.eq_of_testBit_eq;intro i;rw[Nat.testBit_xor,Nat.testBit_or];by_cases hi:i<4
   ·have:(2^4*(r/16)).testBit i=false:=by rw[Nat.testBit_two_pow_mul];simp;omega
    rw[show 16*(r/16)=2^4*(r/16)from rfl,this];simp
   ·have:(r%16).testBit i=false:=Nat.testBit_lt_two_pow (BG d (Nat.pow_le_pow_right (by decide) (by omega)));rw[this];simp
  rw[j,show 16*(r/16) ||| r%16=2^4*(r/16) ||| r%16 from rfl,<- g];omega
 have k:∀q,Kz (Kz (Kz (Kz (16*q))))=q:=by intro q;rw[show 16*q=2*(2*(2*(2*q)))by omega];simp only[SH]
 have n:∀m:Fin 16,Kz (Kz (Kz (Kz m.val)))=VV m.val:=by decide
 have f:=n ⟨r%16,by omega⟩;dsimp only at f;unfold halfN
 conv=>lhs;rw[h]
 simp only[SR];rw[k,f]
def Rm (r d:Nat):Nat:=if r%2=d then r/2 else r/2 ^^^ 3988292384
theorem YA(r c:Nat):Rm r (c%2) ^^^ (c/2)=Kz (r ^^^ c):=by
 unfold Rm Kz;rw[VM,EV];generalize r/2=x;generalize c/2=y;generalize 3988292384=p;rcases ES r with d|d<;>rcases ES c with f|f<;>simp only[d,f]<;>simp
 ·rw[ET,ET,EW p]
 ·rw[ET,ET,EW p]
def bitsN (r c:Nat):Nat->Nat
 | 0=>r
 | k+1=>Rm (bitsN r c k) (c/2^k%2)
theorem Vn(r c k:Nat):bitsN r c (k+1) ^^^ (c/2^(k+1))=Kz (bitsN r c k ^^^ (c/2^k)):=by rw[<- YA,Nat.pow_succ,<- EX];rfl
theorem VB(r:Nat)(x:UInt8):bitsN r x.toNat 8=Sq r x:=by
 have d:bitsN r x.toNat 8=bitsN r x.toNat 8 ^^^ (x.toNat/2^8):=by have:=x.toNat_lt;rw[show x.toNat/2^8=0 by omega,EU]
 rw[d,Vn,Vn,Vn,Vn,Of,Vn,Vn,Vn,Vn,Of];simp[bitsN,Sq]
theorem YB(r:Nat)(d:r<4294967296)(c:Nat):∀k,bitsN r c k<4294967296
 | 0=>d
 | k+1=>by
  have h:=YB r d c k
  unfold bitsN Rm
  split
  ·omega
  ·exact Nat.xor_lt_two_pow (n:=32) (by omega) (by omega)
theorem Fz[bn:Ib](K:ban.top<=w.heap.size)(n k:Nat)(R:k<=8)(N:n<2^64) :
  DJ Tryz.prog 191 #[.int .u64 n,.int .i64 k] w λe H=>∃v,e=.returned v/\Kr H w.heap.size v (layB n k)/\Xy No w H:=by
 have L:(k:Int)<=8:=by omega
 go_enter Tryz.func191,Tryz.ntmps191;go_wp2;go_loopw [0,5,6] (λO o i wr=>∃j:Nat,j<=k/\i=.int .i64 j/\O=.int .u64 (n/2^(8*j):Nat)/\Kr wr w.heap.size o (layB n j)/\Xy No w wr) (λ_ _ i _=>k-(C0 i).toNat);case atStart=>exact⟨0,BW _,rfl,by simp,Kr.nil _ _,Xy.refl _ _⟩
 case round =>
  obtain⟨j,Q,rfl,rfl,A,d⟩:=hrel;by_cases z:j<k
  ·have C:(j:Int)<(k:Int):=by omega
   have q:=Zu n j;obtain⟨ao,cap,rfl⟩:=A.form;have J:=Di n j;have I:n/2^(8*j)/256=n/2^(8*(j+1)):=by rw[EX,show 8*(j+1)=8*j+8 from rfl,Nat.pow_add]
   have E:n/2^(8*j)<2^64:=Nat.lt_of_le_of_lt (EY _ _) N;generalize n/2^(8*j)=m at *;have S:((m:Int)%256)=(((D7 m).toNat:Nat):Int):=by
    rw[UInt8.toNat_ofNat']
    push_cast
    rfl
   generalize D7 m=x at *;have M:Int.tdiv (m:Int) 256=((m/256:Nat):Int):=by rw[EZ (ED _)];omega
   have F:IntKind.u64.wrap ((m/256:Nat):Int)=((m/256:Nat):Int):=by rw[F0];omega
   clear E;have G:Xy No wr (wr.alloc (.cells #[.int .u8 x.toNat] 5)):=(Xy.refl _ _).alloc _;have B:Qv w.heap.size (wr.alloc (.cells #[.int .u8 x.toNat] 5)) (.slice (AF ⟨wr.heap.size,0,AI⟩) 1 1) [x]:=Qv.of_block [x] (Qy wr _) (by simp[BH]) (BF K d.size);have f:Kr (wr.alloc (.cells #[.int .u8 x.toNat] 5)) w.heap.size _ (layB n j):=A.keep G (λ_ _ h=>h);have p:=BX (A4 (d.then G) J z I);clear A d G J z I;rw[q]at f⊢;go_wp2_with(at_builtin;refine Zq rfl _ _ rfl w.heap.size f B rfl rfl (by rw[q];simp;omega) (by have:=p.out.1.size;omega) ?_;intro T H g D);go_roundw;case rel=>exact⟨j+1,by have:=p.out.qc;omega,by go_num,by rw[<- p.out.2.2.2,show(m:Int)/256=((m/256:Nat):Int)by omega,F],by rw[p.out.2.1];exact g,p.out.1.trans D (λb P h=>by have:=f.lt b h;omega)⟩
   case measure=>have:=p.out.qc;simp[C0];omega
  ·have C:¬(j:Int)<(k:Int):=by omega
   obtain rfl:j=k:=by omega
   go_wp2;go_ret;exact⟨_,rfl,A,d⟩
theorem Wp[bn:Ib](h:Qv base w v l) :
  DJ Tryz.prog 192 #[v] w λe Y=>e=.returned (.int .u32 (moreN 0 l:Nat))/\Y=w:=by
 have n:l.length<=BH:=by obtain⟨_,_,R,L,O,_⟩:=h;omega
 unfold BH at n;have Q:(l.length:Int)<=9223372036854775807:=by omega
 obtain⟨ao,cap,rfl,_,_,_,g⟩:=h;clear n;go_enter Tryz.func192,Tryz.ntmps192;go_wp2
 go_loop [3,10] (λr i=>∃j:Nat,j<=l.length/\i=.int .i64 j/\r=.int .u32 (foldN 4294967295 (l.take j):Nat)) (λ_ i=>l.length-(C0 i).toNat)
 case atStart=>exact⟨0,BW _,rfl,rfl⟩
 case round =>
  obtain⟨j,hj,rfl,rfl⟩:=hrel;by_cases p:j<l.length
  ·have J:(j:Int)<(l.length:Int):=by omega
   have z:l[j]?=AF l[j]:=BY p;obtain⟨Z,rfl,_,H⟩:=g j _ z;have o:=Hf (l.take j) (r:=4294967295) (by decide);have B:foldN 4294967295 (l.take (j+1))=bitsN (foldN 4294967295 (l.take j)) l[j].toNat 8:=by rw[List.take_add_one,z,VB];simp only[Option.toList_some,Ct];rfl
   have V:=l[j].toNat_lt;unfold u8v at H;generalize foldN 4294967295 (l.take j)=C at *;generalize l[j].toNat=x at *;have D:=BX (A3 B p o);have X:(x:Int)<256:=by omega
   clear B p o z g V;go_wp2
   go_loop [3,6] (λr k=>∃q:Nat,q<=8/\k=.int .i64 q/\r=.int .u32 (bitsN C x q:Nat)) (λ_ k=>8-(C0 k).toNat)
   case atStart=>exact⟨0,BW _,rfl,rfl⟩
   case round =>
    obtain⟨q,R,rfl,rfl⟩:=hrel;by_cases S:q<8
    ·have K:(q:Int)<8:=by omega
     have T:=YB C D.out.2.2 x q;have d:bitsN C x (q+1)=Rm (bitsN C x q) (x/2^q%2):=rfl;generalize bitsN C x q=f at *;have m:(x:Int)/2^q%4294967296%2=((x/2^q%2:Nat):Int):=by
      have L:(x:Int)/2^q=((x/2^q:Nat):Int):=by push_cast;rfl
      have O:=EY x (2^q);rw[L];omega
     generalize x/2^q%2=G at *;have A:(f:Int)%2=((f%2:Nat):Int):=by omega
     have P:Int.tdiv (f:Int) 2=((f/2:Nat):Int):=by rw[EZ (ED _)];omega
     have W:bits .xor .u32 ((f/2:Nat):Int) 3988292384=((f/2 ^^^ 3988292384:Nat):Int):=Sk _ _ (by omega) (by decide);have U:IntKind.u32.wrap ((f/2:Nat):Int)=((f/2:Nat):Int):=by rw[IntKind.wrap_u32];omega
     unfold Rm at d;by_cases E:f%2=G
     ·rw[if_pos E]at d;have I:((f:Int)%2 != (x:Int)/2^q%4294967296%2)=false:=by rw[m];simp;omega
      have F:=BX d;clear d E m A;go_wp2
      go_round
      case rel=>exact⟨q+1,by omega,by go_num,by rw[F.out];congr 1⟩
      case measure=>simp[C0];omega
     ·rw[if_neg E]at d;have I:((f:Int)%2 != (x:Int)/2^q%4294967296%2)=true:=by rw[m];simp;omega
      have F:=BX d;clear d E m A;go_wp2
      go_round
      case rel=>exact⟨q+1,by omega,by go_num,by rw[F.out];congr 1⟩
      case measure=>simp[C0];omega
    ·have K:¬(q:Int)<8:=by omega
     obtain rfl:q=8:=by omega
     rw[<- D.out.1];go_wp2
     go_round
     case rel=>exact⟨j+1,by have:=D.out.2.1;omega,by go_num,rfl⟩
     case measure=>have:=D.out.2.1;simp[C0];omega
  ·have J:¬(j:Int)<(l.length:Int):=by omega
   obtain rfl:j=l.length:=by omega
   rw[List.take_length]at *;have hf:=Hf l (r:=4294967295) (by decide);have M:moreN 0 l=4294967295-foldN 4294967295 l:=rfl;generalize foldN 4294967295 l=f at *;have N:=BX M;clear M;have hs:(4294967295:Int)-(f:Int)=((4294967295-f:Nat):Int):=by omega
   go_wp2;go_ret;exact⟨by rw[N.out];rfl,rfl⟩
theorem Ko[bn:Ib](k:Qv base w g a)(m:Qv base w h b) :
  Zb base (w.alloc (.cells #[g,h] 59)) (.slice (AF ⟨w.heap.size,0,AI⟩) 2 2) [a,b]:=by
 have j:Xy No w (w.alloc (.cells #[g,h] 59)):=(Xy.refl _ _).alloc _;exact Zb.of_block (Qy w _) [a,b] rfl (by simp[BH]) (λi u l d f=>by
  match i,d,f with
  | 0,d,f=>simp at d f;subst d f;exact k.no j
  | 1,d,f=>simp at d f;subst d f;exact m.no j)
theorem GT[bn:Ib](m:Qv base w h a)(n:Qv base w j b)(o:Qv base w k c) :
  Zb base (w.alloc (.cells #[h,j,k] 59)) (.slice (AF ⟨w.heap.size,0,AI⟩) 3 3) [a,b,c]:=by
 have g:Xy No w (w.alloc (.cells #[h,j,k] 59)):=(Xy.refl _ _).alloc _;exact Zb.of_block (Qy w _) [a,b,c] rfl (by simp[BH]) (λi u l d f=>by
  match i,d,f with
  | 0,d,f=>simp at d f;subst d f;exact m.no g
  | 1,d,f=>simp at d f;subst d f;exact n.no g
  | 2,d,f=>simp at d f;subst d f;exact o.no g)
theorem JB[bn:Ib](h:Qv base w v l)(z:ban.top<=w.heap.size)(E:l.length<=1099511627776) :
  DJ Tryz.prog 193 #[v] w λe o=>∃A,e=.returned A/\Kr o w.heap.size A (Ye l)/\Xy No w o:=by
 obtain⟨ao,cap,rfl⟩:=h.form;have n:=Wp h;have F:=Kc 0 l;unfold Ye;generalize moreN 0 l=m at *;have G:IntKind.u64.wrap (m:Int)=(m:Int):=by rw[F0];omega
 have j:=Fz z m 4 (by decide) (by omega);have i:=Zu m 4;generalize layB m 4=b at *;have d:=λ(o:AC) (B:AM) (k:Xy No w o) (D:Qv base o B b)=>Xv (Ko (h.no k) D) (by simp[i];omega);have C:=BX d;clear d h F i E;go_enter Tryz.func193,Tryz.ntmps193;go_wp2_with(first
  | (go_at_call 97;refine(C.out _ _ q p).mono ?_;rintro e N ⟨K,rfl,g,H⟩)
  | (go_at_call 191;refine j.mono ?_;rintro e M ⟨B,rfl,f,q⟩;obtain⟨J,I,rfl⟩:=f.form;have p:=f.bytes (base:=base) (λ_=>z))
  | (go_at_call 192;refine n.mono ?_;rintro e L ⟨rfl,rfl⟩))
 go_ret;refine⟨_,rfl,?_,(q.alloc _).then H⟩;have e:[l,b].flatten=l++b:=by simp
 rw[e]at g;exact g.mono (q.alloc _).size
theorem UK[bn:Ib](h:ban.top<=w.heap.size)(n:Nat)(j:n<2^64) :
  DJ Tryz.prog 149 #[.int .u64 n] w λe k=>∃v,e=.returned v/\Kr k w.heap.size v (Xt n)/\Xy No w k:=by
 have d:=Fz h n 8 (BE _) j;clear j;go_enter Tryz.func149,Tryz.ntmps149;go_wp2_with(first
  | (go_at_call 193;refine(JB (f.bytes (base:=w.heap.size) (λ_=>h)) (BF h i.size) (by rw[Zu];decide)).mono ?_;rintro e z ⟨p,rfl,g,m⟩)
  | (go_at_call 191;refine d.mono ?_;rintro e q ⟨o,rfl,f,i⟩))
 go_ret;exact⟨_,rfl,g.mono i.size,i.then m⟩
theorem Pg[bn:Ib](h:Qv base w v l)(z:ban.top<=w.heap.size)(W:l.length<=1099511627776) :
  DJ Tryz.prog 147 #[v] w λe d=>∃Q,e=.returned Q/\Kr d w.heap.size Q (recB l)/\Xy No w d:=by
 obtain⟨ao,cap,rfl⟩:=h.form;have B:=Fz z l.length 4 (by decide) (by omega);have X:IntKind.u64.wrap (l.length:Int)=(l.length:Int):=by rw[F0];omega
 have A:=Zu l.length 4;unfold recB;generalize layB l.length 4=a at *;have Y:=Kc 0 (a++l);have f:=λ(d:AC) (G:AM) (k:Xy No w d) (H:Qv base d G a)=>Xv (Ko H (h.no k)) (by simp[A];omega);have P:[a,l].flatten=a++l:=by simp
 rw[P]at f;have n:=λ(d:AC) (u:AM) (hu:Qv base d u (a++l))=>Wp hu;generalize moreN 0 (a++l)=m at *;have Z:IntKind.u64.wrap (m:Int)=(m:Int):=by rw[F0];omega
 have i:=λ(d:AC) (z:ban.top<=d.heap.size)=>Fz z m 4 (by decide) (by omega);have j:=Zu m 4;generalize layB m 4=b at *;have g:=λ(d:AC) (G v2:AM) (k:Xy No w d) (H:Qv base d G a) (V:Qv base d v2 b)=>Xv (GT H V (h.no k)) (by simp[A,j];omega);have R:=BX f;have S:=BX g;have T:=BX i;have U:=BX n;clear f g i n A j Y P h W;go_enter Tryz.func147,Tryz.ntmps147;go_wp2_with(first
  | (go_at_call 97;refine(S.out _ _ _ O L J).mono ?_;rintro e w5 ⟨v5,rfl,q,k5⟩)
  | (go_at_call 191;refine(T.out _ (BF z N.size)).mono ?_;rintro e w4 ⟨v4,rfl,p,E⟩;obtain⟨o4,c4,rfl⟩:=p.form;have J:=p.bytes (base:=base) (λ_=>BF z N.size);have L:=K.no E;have O:=N.then E)
  | (go_at_call 192;refine(U.out _ _ I).mono ?_;rintro e w6 ⟨rfl,rfl⟩)
  | (go_at_call 97;refine(R.out _ _ M C).mono ?_;rintro e w3 ⟨v3,rfl,F,D⟩;have I:=F.bytes (base:=base) (λ_=>BF z (M.alloc _).size);have K:=(C.no (((Xy.refl _ _).alloc _).then D));have N:=(M.alloc _).then D)
  | (go_at_call 191;refine B.mono ?_;rintro e w1 ⟨G,rfl,o,M⟩;obtain⟨o1,c1,rfl⟩:=o.form;have C:=o.bytes (base:=base) (λ_=>z)))
 go_ret;refine⟨_,rfl,?_,(O.alloc _).then k5⟩;have e:[a,b,l].flatten=a++(b++l):=by simp
 rw[e]at q;exact q.mono (O.alloc _).size
structure InS where
 l:List UInt8
 e:Int
structure Hx [bn:Ib](base:Nat)(w:AC)(g:Nat)(s:InS):Prop where
 at':base<=g
 blk:∃v,w.heap[g]?=AF (.cells #[v,.int .i64 s.e] 269 (0,0))/\Qv base w v s.l
def InS.fail (s:InS)(c:Int):InS:={s with e:=if s.e=0 then c else s.e}
def InS.end' (s:InS):InS:=if s.l=[]then s else s.fail 2
def InS.byte (s:InS):Nat×InS:=if s.e=0 then(match s.l with
 | []=>(0,s.fail 2)
 | b::r=>(b.toNat,{s with l:=r}))else(0,s)
theorem Hx.no[bn:Ib](h:Hx base w g s)(k:Xy No w d):Hx base d g s:=by obtain⟨f,v,i,j⟩:=h;exact⟨f,v,k.heap i id,j.no k⟩
theorem Hx.foot[bn:Ib]{base g:Nat}{w:AC}{s:InS}(h:Hx base w g s):Uz base w (·=g):=by obtain⟨f,v,d,i⟩:=h;rintro b rfl;exact⟨f,Qt d,λcs fr e=>by rw[d]at e;simp at e⟩
theorem Hx.setErr[bn:Ib](h:Hx base w g s)(c:Int):Hx base (w.setCell ⟨g,1,AI⟩ (.int .i64 c)) g {s with e:=c}:=by have hF:=h.foot;obtain⟨d,v,f,j⟩:=h;have k:Xy (·=g) w (w.setCell ⟨g,1,AI⟩ (.int .i64 c)):=Xy.setCell (F:=(·=g)) (Xy.refl _ _) (.inl rfl) _;exact⟨d,v,Qz (i:=1) (u:=.int .i64 c) f,j.keep hF k⟩
theorem Hx.setRest[bn:Ib](h:Hx base w g s){r:List UInt8}(j:Qv base w v r):Hx base (w.setCell ⟨g,0,AI⟩ v) g {s with l:=r}:=by have hF:=h.foot;obtain⟨d,u,f,m⟩:=h;have k:Xy (·=g) w (w.setCell ⟨g,0,AI⟩ v):=Xy.setCell (F:=(·=g)) (Xy.refl _ _) (.inl rfl) _;exact⟨d,v,Qz (i:=0) (u:=v) f,j.keep hF k⟩
theorem Qd{g i:Nat}(w:AC)(v:AM):Xy (·=g) w (w.setCell ⟨g,i,AI⟩ v):=Xy.setCell (F:=(·=g)) (Xy.refl _ _) (.inl rfl) _
theorem Vl[bn:Ib](h:Hx base w g s):DJ Tryz.prog 156 #[.pointer (AF ⟨g,0,AI⟩)] w λe i=>e=.returned (.int .i64 s.e)/\i=w:=by obtain⟨_,v,d,_⟩:=h;have f:=Qq d 1;simp at f;clear d;go_enter Tryz.func156,Tryz.ntmps156;go_wp2;go_ret;exact⟨rfl,rfl⟩
theorem KG[bn:Ib](h:Hx base w g s):DJ Tryz.prog 198 #[.pointer (AF ⟨g,0,AI⟩)] w λe j=>e=.returned (.int .i64 s.l.length)/\j=w:=by obtain⟨_,v,d,i⟩:=h;obtain⟨ao,cap,rfl⟩:=i.form;have f:=Qq d 0;simp at f;clear d;go_enter Tryz.func198,Tryz.ntmps198;go_wp2;go_ret;exact⟨rfl,rfl⟩
theorem Kb[bn:Ib]{base g:Nat}{w:AC}{s:InS}(h:Hx base w g s)(c:Int):DJ Tryz.prog 157 #[.pointer (AF ⟨g,0,AI⟩),.int .i64 c] w λe m=>e=.returned (.tuple #[])/\Hx base m g (s.fail c)/\Xy (·=g) w m:=by
 obtain⟨n,v,i,o⟩:=id h;have k:=Qq i 1;have q:=Qg i;simp at k;have j:=BX h;clear i h o n;by_cases d:s.e=0
 ·have f:s.fail c={s with e:=c}:=by unfold InS.fail;rw[if_pos d]
  rw[f];rw[d]at k;have p:=BX d;clear f d;go_enter Tryz.func157,Tryz.ntmps157;go_wp2
  go_end0
  exact⟨rfl,j.out.setErr c,Qd _ _⟩
 ·have f:s.fail c=s:=by unfold InS.fail;rw[if_neg d]
  have z:(s.e==0)=false:=by simpa using d
  rw[f];clear f;go_enter Tryz.func157,Tryz.ntmps157;go_wp2
  go_end0
  exact⟨rfl,j.out,Xy.refl _ _⟩
theorem Ws[bn:Ib]{base g:Nat}{w:AC}{s:InS}(h:Hx base w g s):DJ Tryz.prog 159 #[.pointer (AF ⟨g,0,AI⟩)] w λe k=>e=.returned (.int .i64 s.end'.e)/\Hx base k g s.end'/\Xy (·=g) w k:=by
 have i:=KG h;by_cases d:s.l=[]
 ·have f:s.end'=s:=by unfold InS.end';rw[if_pos d]
  have o:=Vl h;rw[f];rw[d]at i;have n:=BX h;clear f d h;go_enter Tryz.func159,Tryz.ntmps159;go_wp2_with(first
   | (go_at_call 156;refine o.mono ?_;rintro e m ⟨rfl,rfl⟩)
   | (go_at_call 198;refine i.mono ?_;rintro e z ⟨rfl,rfl⟩))
  go_ret;exact⟨rfl,n.out,Xy.refl _ _⟩
 ·have f:s.end'=s.fail 2:=by unfold InS.end';rw[if_neg d]
  have p:=Kb h 2;have j:(0:Int)<(s.l.length:Int):=by have:=F5.2 d;omega
  rw[f];clear f d h;go_enter Tryz.func159,Tryz.ntmps159;go_wp2_with(first
   | (go_at_call 156;refine(Vl hi).mono ?_;rintro e m ⟨rfl,rfl⟩)
   | (go_at_call 157;refine p.mono ?_;rintro e m ⟨rfl,hi,q⟩)
   | (go_at_call 198;refine i.mono ?_;rintro e z ⟨rfl,rfl⟩))
  go_ret;exact⟨rfl,hi,q⟩
theorem Cc[bn:Ib]{base g:Nat}{w:AC}{s:InS}(h:Hx base w g s):DJ Tryz.prog 108 #[.pointer (AF ⟨g,0,AI⟩)] w λe K=>e=.returned (.int .u8 s.byte.1)/\Hx base K g s.byte.2/\Xy (·=g) w K:=by
 have A:=Vl h;by_cases n:s.e=0
 ·cases B:s.l with
  | nil =>
   have i:s.byte=(0,s.fail 2):=by unfold InS.byte;rw[if_pos n,B]
   have P:=Kb h 2;obtain⟨N,v,p,f⟩:=id h;obtain⟨ao,cap,rfl⟩:=f.form;have E:=Qq p 0;simp at E;rw[B]at E;rw[i];rw[n]at A;clear i h p f;go_enter Tryz.func108,Tryz.ntmps108;go_wp2_with(first
    | (go_at_call 157;refine P.mono ?_;rintro e U ⟨rfl,hi,Q⟩)
    | (go_at_call 156;refine A.mono ?_;rintro e L ⟨rfl,rfl⟩))
   go_ret;exact⟨rfl,hi,Q⟩
  | cons b r =>
   have i:s.byte=(b.toNat,{s with l:=r}):=by unfold InS.byte;rw[if_pos n,B]
   obtain⟨N,v,p,f⟩:=id h;obtain⟨ao,cap,rfl⟩:=f.form;rw[B]at p f;obtain⟨I,O⟩:(b::r).length<=cap/\cap<=BH:=by obtain⟨_,_,C,S,T,_⟩:=f;simp at C;omega
   obtain⟨o,c,D,k⟩:=Rg ao (b::r).length cap 1 1 rfl (by simp) I;have d:=k base w (b::r) f;have J:((b::r).take (b::r).length).drop 1=r:=by simp
   rw[J]at d;have z:(b::r).length-1=r.length:=by simp
   rw[z]at d;simp only[z]at D;simp only[AT]at D;obtain⟨m,H,_,q⟩:∃m,ao=AF m/\True/\w.cell? m=AF (u8v b):=by
    obtain⟨_,_,C,_,_,_,F⟩:=f;simp only[DB]at C;obtain⟨rfl,_,rfl⟩:=C;obtain⟨m,e,_,F⟩:=F 0 b rfl;have M:m.add 0=m:=by simp[Addr.add]
    rw[M]at F;exact⟨m,e,trivial,F⟩
   subst H;have E:=Qq p 0;have R:=Qg p;simp at E;have j:=h.setRest d;rw[i];rw[n]at A;have G:=BX j;clear i h p f j d k B n J z;unfold u8v at q;go_enter Tryz.func108,Tryz.ntmps108;go_wp2_with(go_at_call 156;refine A.mono ?_;rintro e L ⟨rfl,rfl⟩);go_ret;exact⟨rfl,G.out,Qd _ _⟩
 ·have i:s.byte=(0,s):=by unfold InS.byte;rw[if_neg n]
  have C:(s.e==0)=false:=by simpa using n
  have G:=BX h;rw[i];clear i h;go_enter Tryz.func108,Tryz.ntmps108;go_wp2_with(go_at_call 156;refine A.mono ?_;rintro e L ⟨rfl,rfl⟩);go_ret;exact⟨rfl,G.out,Xy.refl _ _⟩
abbrev CQ:TypeId:=96
def Ht (w:AC)(b:Nat):Prop:=∃cs fr,w.heap[b]?=AF (.cells cs 96 fr)
def Zy (w:AC)(v:AM)(l:List Xc):Prop :=
 ∃ao cap,v=.slice ao l.length cap/\l.length<=cap/\cap<=BH/\(ao=AI->cap=0)/\(cap≠0->∃g o,ao=AF ⟨g,o,AI⟩/\Ht w g /\
  ∀(i:Nat) r,l[i]?=AF r->w.cell? ⟨g,o+i*2,AI⟩=AF (.int .u64 r.1)/\w.cell? ⟨g,o+i*2+1,AI⟩=AF (.int .u64 r.2))
def Zn (w:AC)(F:Nat->Prop):Prop:=∀b,F b->¬Ht w b
theorem Zn.no(w:AC):Zn w No:=λ_ h=>h.elim
theorem Ht.keep(h:Ht w b)(hF:Zn w F)(k:Xy F w f):Ht f b:=by obtain⟨cs,fr,d⟩:=h;exact⟨cs,fr,k.heap d (λg=>hF b g ⟨cs,fr,d⟩)⟩
theorem Zy.keep(h:Zy w v l)(hF:Zn w F)(k:Xy F w m):Zy m v l:=by obtain⟨ao,cap,n,p,q,z,A⟩:=h;refine⟨ao,cap,n,p,q,z,λB=>?_⟩;obtain⟨g,o,e,d,j⟩:=A B;have f:¬F g:=λC=>hF g C d;exact⟨g,o,e,d.keep hF k,λi r hi=>⟨k.cell (j i r hi).1 f,k.cell (j i r hi).2 f⟩⟩
theorem Zy.no(h:Zy w v l)(k:Xy No w d):Zy d v l:=h.keep (Zn.no _) k
theorem Zy.nil(w:AC):Zy w (.slice AI 0 0) []:=⟨AI,0,rfl,BE _,by decide,λ_=>rfl,λh=>absurd rfl h⟩
theorem Zy.form(h:Zy w v l):∃ao cap,v=.slice ao l.length cap/\l.length<=cap/\cap<=BH:=by obtain⟨ao,cap,d,f,g,_⟩:=h;exact⟨ao,cap,d,f,g⟩
theorem Zy.row(h:Zy w (.slice ao n cap) l)(m:l≠[]):∃g o,ao=AF ⟨g,o,AI⟩ /\
  ∀(i:Nat) r,l[i]?=AF r->w.cell? ⟨g,o+i*2,AI⟩=AF (.int .u64 r.1)/\w.cell? ⟨g,o+i*2+1,AI⟩=AF (.int .u64 r.2):=by
 obtain⟨j,d,f,q,z,A,k⟩:=h;simp only[DB]at f;obtain⟨rfl,rfl,rfl⟩:=f;have:=F5.2 m;obtain⟨g,o,e,_,p⟩:=k (by omega);exact⟨g,o,e,p⟩
theorem V6{w:AC}{x y:Nat}(k:w.cell? ⟨bs,0,AI⟩=AF (.slice (AF ⟨g,o,AI⟩) n cap))(j:w.cell? ⟨bnn,0,AI⟩=AF (.int .u64 x))(hi:i<n)(h:w.cell? ⟨g,o+i*2+1,AI⟩=AF (.int .u64 y)) :
  DJ Tryz.prog 188 #[.int .i64 i,.pointer (AF ⟨bs,0,AI⟩),.pointer (AF ⟨bnn,0,AI⟩)] w λe f=>e=.returned (.bool (decide (x<=y)))/\Xy No w f:=by
 have d:(i:Int)<(n:Int):=by omega
 go_enter Tryz.func188,Tryz.ntmps188;go_wp2_with fail;go_quiet (fail);go_wp2_with fail;go_ret;exact⟨by simp,(Xy.refl _ _).drewN _⟩
theorem J4{gf:Nat}{n k:Nat}{p:Nat->Bool}(O:∀args w,(callFunc gf args).run Tryz.prog w=.ok (.enter gf args) w)(P:n<=1099511627776)(I:∀(o:AC),Xy No w o->∀(i:Nat),i<n->DJ Tryz.prog gf (#[.int .i64 i]++cb) o λe N=>e=.returned (.bool (p i))/\Xy No o N)(J:k<=n)(G:∀i,i<k->p i=false)(H:∀i,k<=i->i<n->p i=true) :
  DJ Tryz.prog 187 #[.int .i64 n,.func (.func gf) #[] cb] w λe o=>e=.returned (.int .i64 k)/\Xy No w o:=by
 have C:=BX (A4 I G H J);clear I G H J;go_enter Tryz.func187,Tryz.ntmps187;go_wp2_with fail;go_loopw [5,6] (λlo hi wr=>∃(a b:Nat),lo=.int .i64 a/\hi=.int .i64 b/\a<=k/\k<=b/\b<=n/\Xy No w wr) (λlo hi _=>(C0 hi).toNat-(C0 lo).toNat);case atStart=>exact⟨0,n,rfl,rfl,BW _,C.out.2.2.2,BE _,Xy.refl _ _⟩
 case round =>
  obtain⟨a,b,rfl,rfl,D,E,g,d⟩:=hrel;have m:=BX (A4 D E g d);by_cases j:a<b
  ·have A:=C.out.1 wr d ((a+b)/2) (by omega);rw[show(((a+b)/2:Nat):Int)=((a:Int)+(b:Int))/2 by omega]at A;have B:(a:Int)<(b:Int):=by omega
   have K:(a:Int)<=1099511627776:=by omega
   have L:(b:Int)<=1099511627776:=by omega
   cases q:p ((a+b)/2)
   ·rw[q]at A;have f:(a+b)/2<k:=by
     rcases F7 ((a+b)/2) k with h|h
     ·exact h
     ·have:=C.out.qc _ h (by omega);rw[q]at this;cases this
    have z:=BX f;clear q f j D E g d;go_wp2_with(go_at_fn gf;refine A.mono ?_;rintro e o ⟨rfl,F⟩);go_roundw;case rel=>exact⟨(a+b)/2+1,b,by(congr 1<;>omega),rfl,by have:=z.out;omega,m.out.2.1,m.out.qc,m.out.2.2.2.then F⟩
    case measure=>simp[C0];omega
   ·rw[q]at A;have f:k<=(a+b)/2:=by
     rcases F7 ((a+b)/2) k with h|h
     ·have:=C.out.2.1 _ h;rw[q]at this;cases this
     ·exact h
    have z:=BX (A2 f j);clear q f j D E g d;go_wp2_with(go_at_fn gf;refine A.mono ?_;rintro e o ⟨rfl,F⟩);go_roundw;case rel=>exact⟨a,(a+b)/2,rfl,by congr 1,m.out.1,z.out.1,by have:=m.out.qc;have:=z.out.2;omega,m.out.2.2.2.then F⟩
    case measure=>have:=z.out.2;simp[C0];omega
  ·have M:a=k:=by omega
   have B:¬(a:Int)<(b:Int):=by omega
   clear D E g d j;subst M;go_wp2_with fail;go_ret;exact⟨rfl,m.out.2.2.2⟩
theorem Y5(hi:i<Yr l n)(d:l[i]?=AF r):decide (n<=r.2)=false:=by obtain⟨f,rfl⟩:=BK.1 d;have:=List.not_of_lt_findIdx (p:=λr:Xc=>decide (n<=r.2)) hi;simpa using this
theorem V5(h:Uk l)(hi:Yr l n<=i)(k:l[i]?=AF r):decide (n<=r.2)=true:=by
 obtain⟨j,rfl⟩:=BK.1 k;have f:Yr l n<l.length:=by omega
 have g:=Hh h _ (BY f);rcases F7 (Yr l n) i with d|d
 ·have:=List.pairwise_iff_getElem.1 h.gap _ i f j d;have:=h.run _ (List.getElem_mem j);simp;omega
 ·have e:Yr l n=i:=by omega
  simp only[e]at g;simpa using g.1
theorem Lg(h:Zy w v l)(G:Uk l)(n:Nat)(F:l.length<=1099511627776) :
  DJ Tryz.prog 136 #[.agg #[v],.int .u64 n] w λe q=>e=.returned (.int .i64 (Yr l n))/\Xy No w q:=by
 obtain⟨ao,cap,rfl,A,M⟩:=h.form;obtain⟨W,m⟩:∃W,W=(w.alloc (.cells #[.slice ao l.length cap] 90)).alloc (.cells #[.int .u64 n] 27):=⟨_,rfl⟩;have j:(w.alloc (.cells #[.slice ao l.length cap] 90)).heap.size=w.heap.size+1:=by simp
 have C:Xy No w W:=by rw[m];exact((Xy.refl _ _).alloc _).alloc _
 have z:W.heap[w.heap.size]?=AF (.cells #[.slice ao l.length cap] 90 (0,0)):=by rw[m];exact((Xy.refl No _).alloc _).heap (Qy _ _) id
 have E:W.heap[w.heap.size+1]?=AF (.cells #[.int .u64 n] 27 (0,0)):=by rw[m,<- j];exact Qy _ _
 have B:=J4 (w:=W) (gf:=188) (cb:=#[.pointer (AF ⟨w.heap.size,0,AI⟩),.pointer (AF ⟨w.heap.size+1,0,AI⟩)]) (n:=l.length) (k:=Yr l n)
  (p:=λi=>match l[i]? with|none=>false|some r=>decide (n<=r.2)) (enters_of Tryz.func188 (by kernel_rfl) rfl) F (λq k i hi=>by
   have d:l[i]?=AF l[i]:=BY hi;obtain⟨g,o,rfl,N⟩:=h.row (λe=>by subst e;simp at hi);have A:=(N i _ d).2;have I:=k.cell (Qq z 0) id;have J:=k.cell (Qq E 0) id;have:=V6 (w:=q) (bs:=w.heap.size) (bnn:=w.heap.size+1) (n:=l.length) (cap:=cap) (x:=n) I J hi ((C.then k).cell A id);rw[d];exact this) (Hd l n) (λi hi=>by
   have f:i<l.length:=BG hi (Hd l n);rw[BY f];exact Y5 hi (BY f)) (λi L D=>by
   rw[BY D]
   exact V5 G L (BY D))
 have K:=Qq z 0;simp at K;have H:=BX C;clear z E C h G j F A M;go_enter Tryz.func136,Tryz.ntmps136;go_wp2_with fail;rw[<- m];go_wp2_with fail;refine B.mono ?_;rintro e q⟨rfl,O⟩;go_wp2_with fail;go_ret;exact⟨rfl,H.out.then O⟩
theorem QO(h:l[Yr l n]?=AI):Yr l n=l.length:=by have d:=Hd l n;have f:=List.getElem?_eq_none_iff.1 h;omega
theorem QI(h:l[Yr l n]?=AF r):Yr l n<l.length:=(BK.1 h).1
theorem R3(h:Zy w v l)(E:Uk l)(n:Nat)(D:l.length<=1099511627776) :
  DJ Tryz.prog 91 #[.agg #[v],.int .u64 n] w λe F=>e=.returned (.bool (Z9 l n))/\Xy No w F:=by
 obtain⟨ao,cap,rfl,G,I⟩:=h.form;obtain⟨W,q⟩:∃W,W=w.alloc (.cells #[.slice ao l.length cap] 90):=⟨_,rfl⟩;have m:Xy No w W:=by rw[q];exact(Xy.refl _ _).alloc _
 have C:W.heap[w.heap.size]?=AF (.cells #[.slice ao l.length cap] 90 (0,0)):=by rw[q];exact Qy _ _
 have z:=Lg (h.no m) E n D;have B:=Qq C 0;simp at B;cases f:l[Yr l n]? with
 | none =>
  have e:Z9 l n=false:=by unfold Z9;rw[f]
  rw[QO f]at z;have A:=BX m;rw[e];clear C m h E D G I e f;go_enter Tryz.func91,Tryz.ntmps91;go_wp2_with fail;rw[<- q];go_wp2_with fail;refine z.mono ?_;rintro e F⟨rfl,j⟩;have J:=j.cell B id;go_wp2_with fail;go_ret;exact⟨rfl,A.out.then j⟩
 | some r =>
  have e:Z9 l n=decide (r.1<=n):=by unfold Z9;rw[f]
  have H:=QI f;obtain⟨g,o,rfl,i⟩:=h.row (λe=>by subst e;simp at f);have d:=m.cell (i _ _ f).1 id;obtain⟨k,p⟩:∃k,k=Yr l n:=⟨_,rfl⟩;rw[<- p]at z H d;have K:(k:Int)<(l.length:Int):=by omega
  have A:=BX m;rw[e];clear C m h E D G I e f i p H;go_enter Tryz.func91,Tryz.ntmps91;go_wp2_with fail;rw[<- q];go_wp2_with fail;refine z.mono ?_;rintro e F⟨rfl,j⟩;have J:=j.cell B id;have L:=j.cell d id;go_wp2_with fail;go_ret;exact⟨by simp,A.out.then j⟩
theorem R2(h:Zy w v l)(G:Uk l)(n m:Nat)(K:l.length<=1099511627776)(i:Z8 l n=AF m) :
  DJ Tryz.prog 168 #[.agg #[v],.int .u64 n] w λe L=>e=.returned (.tuple #[.int .u64 m,.bool true])/\Xy No w L:=by
 obtain⟨ao,cap,rfl,M,O⟩:=h.form;obtain⟨W,C⟩:∃W,W=w.alloc (.cells #[.slice ao l.length cap] 90):=⟨_,rfl⟩;have A:Xy No w W:=by rw[C];exact(Xy.refl _ _).alloc _
 have J:W.heap[w.heap.size]?=AF (.cells #[.slice ao l.length cap] 90 (0,0)):=by rw[C];exact Qy _ _
 have D:=Lg (h.no A) G n K;have I:=Qq J 0;simp at I;unfold Z8 at i;cases p:l[Yr l n]? with
 | none =>
  rw[p]at i;simp at i;subst i;rw[QO p]at D;have H:=BX A;clear J A h G K M O p;go_enter Tryz.func168,Tryz.ntmps168;go_wp2_with fail;rw[<- C];go_wp2_with fail;refine D.mono ?_;rintro e L⟨rfl,q⟩;have Q:=q.cell I id;go_wp2_with fail;go_ret2;exact⟨rfl,H.out.then q⟩
 | some r =>
  rw[p]at i;simp only at i;have N:=QI p;obtain⟨g,o,rfl,j⟩:=h.row (λe=>by subst e;simp at p);have d:=A.cell (j _ _ p).1 id;have f:=A.cell (j _ _ p).2 id;have F:=(G.run r (Ul p)).2;obtain⟨k,B⟩:∃k,k=Yr l n:=⟨_,rfl⟩;rw[<- B]at D N d f;have T:(k:Int)<(l.length:Int):=by omega
  have U:((k:Int)==(l.length:Int))=false:=by simp;omega
  have H:=BX A;by_cases z:n<r.1
  ·rw[if_pos z]at i;simp at i;subst i;have E:(n:Int)<(r.1:Int):=by omega
   clear J A h G K M O p j B N z F;go_enter Tryz.func168,Tryz.ntmps168;go_wp2_with fail;rw[<- C];go_wp2_with fail;refine D.mono ?_;rintro e L⟨rfl,q⟩;have Q:=q.cell I id;have S:=q.cell d id;go_wp2_with fail;go_ret2;exact⟨rfl,H.out.then q⟩
  ·rw[if_neg z]at i
   split at i
   ·cases i
   ·rename_i P;simp at i;have E:¬(n:Int)<(r.1:Int):=by omega
    have R:((r.2:Int)==18446744073709551615)=false:=by simp;omega
    have X:IntKind.u64.wrap ((r.2:Int)+1)=(m:Int):=by rw[wraps_u64 _ (by omega) (by omega)];omega
    clear J A h G K M O p j B N z F P i;go_enter Tryz.func168,Tryz.ntmps168;go_wp2_with fail;rw[<- C];go_wp2_with fail;refine D.mono ?_;rintro e L⟨rfl,q⟩;have Q:=q.cell I id;have S:=q.cell d id;have V:=q.cell f id;go_wp2_with fail;go_ret2;exact⟨rfl,H.out.then q⟩
def Ta (r:Xc):List AM:=[.int .u64 r.1,.int .u64 r.2]
def Yd (l:List Xc):List AM:=l.flatMap Ta
theorem Nm(l m:List Xc):Yd (l++m)=Yd l++Yd m:=by simp[Yd]
theorem Tv(l:List Xc):(Yd l).length=l.length*2:=by
 induction l with
 | nil=>rfl
 | cons x l d=>simp only[Yd,List.flatMap_cons,BO,AT]at d⊢;rw[d];simp[Ta];omega
theorem Mw:∀{l:List Xc} {i:Nat} {r:Xc},l[i]?=AF r->(Yd l)[i*2]?=AF (.int .u64 r.1)/\(Yd l)[i*2+1]?=AF (.int .u64 r.2)
 | [],i,r,h=>by simp at h
 | x::l,0,r,h=>by
  simp at h
  subst h
  exact⟨rfl,rfl⟩
 | x::l,i+1,r,h=>by
  obtain⟨d,f⟩:=Mw (l:=l) (i:=i) (r:=r) (by simpa using h)
  have e:Yd (x::l)=.int .u64 x.1 :: .int .u64 x.2::Yd l:=rfl
  rw[e,show(i+1)*2=i*2+1+1 by omega,show i*2+1+1+1=(i*2+1)+1+1 by omega]
  simp only[List.getElem?_cons_succ]
  exact⟨d,f⟩
theorem Ps(l:List Xc):∀u∈Yd l,u.oneCell'=true:=by intro u f;obtain⟨r,_,d⟩:=List.mem_flatMap.1 f;simp[Ta]at d;rcases d with rfl|rfl<;>rfl
theorem Bq(h:(Yd l)[j]?=AF u):∃r,l[j/2]?=AF r/\(u=if j%2=0 then .int .u64 r.1 else .int .u64 r.2):=by
 have d:=(BK.1 h).1;rw[Tv]at d;have k:l[j/2]?=AF l[j/2]:=BY (by omega);obtain⟨f,g⟩:=Mw k;refine⟨_,k,?_⟩;by_cases i:j%2=0
 ·rw[if_pos i];rw[show j/2*2=j by omega,h]at f;exact F8 f
 ·rw[if_neg i];rw[show j/2*2+1=j by omega,h]at g;exact F8 g
def Hl (w:AC)(B:Nat)(v:AM)(l:List Xc):Prop:=w.ownsRow B 96 2 v l.length (Yd l)
theorem Hl.nil(w:AC)(B:Nat):Hl w B (.slice AI 0 0) []:=World.ownsRow_nil _ _ _ _
theorem Hl.runs(h:Hl w B v l):Zy w v l:=by
 rcases h.2 with⟨rfl,m⟩|⟨g,cap,k,rfl,A,j,n,o,z,p⟩
 ·obtain rfl:l=[]:=BJ m;exact Zy.nil _
 ·refine⟨_,cap,rfl,n,o,λe=>(by cases e),λ_=>⟨g,0,rfl,⟨_,_,j⟩,λi r hi=>?_⟩⟩;have q:=(BK.1 hi).1;obtain⟨d,f⟩:=Mw hi;rw[<- p,List.getElem?_take]at d f;rw[if_pos (by omega)]at d f;rw[Qq j,Qq j];simp only[Nat.zero_add];exact⟨by simpa using d,by simpa using f⟩
theorem Hl.form(h:Hl w B v l):∃ao cap,v=.slice ao l.length cap/\l.length<=cap/\cap<=BH:=Kj h
theorem Hl.lt(h:Hl w B v l):∀b,v.ownBlock=AF b->B<=b/\b<w.heap.size:=BL h
theorem Hl.keep(h:Hl w B v l)(k:Xy F w d)(hF:∀b,v.ownBlock=AF b->¬F b):Hl d B v l:=Yu h k hF
theorem Ah:(Tryz.prog.info? 96).map (λi=>(i.zero,i.size,i.bytes))=AF (AF (.agg #[.int .u64 0,.int .u64 0]),2,16):=by kernel_rfl
theorem Bg(F:TypeId)(d:Hl w B v l)(p:Zy w u m)(I:l.length+m.length<=1099511627776)(Q:B<=w.heap.size) :
  ∃z q,(Builtin.append_ #[67,67] F #[v,u]).run Tryz.prog w=.ok z q/\Hl q B z (l++m)/\Xy (λb=>v.ownBlock=AF b) w q:=by
 obtain⟨K,hi,C,D,E⟩:=info_parts Ah;obtain⟨ao,cap,rfl,W,X,U,h⟩:=p;cases ao with
 | none =>
  obtain rfl:=U rfl;have A:m=[]:=BJ (by omega);subst A;have f:=run_append_owned_none (P:=Tryz.prog) w B 67 F 96 K 2 Tryz.underlying67 hi v l.length (Yd l) d;exact⟨v,w,f,by rw[B5];exact d,Xy.refl _ _⟩
 | some L =>
  obtain⟨z,q,f,N,O,_⟩:=run_append_own (P:=Tryz.prog) w B 67 F 96 K _ 2 16 Tryz.underlying67 hi C D E rfl (by decide) v l.length (Yd l) d
   L m.length cap (Yd m) (Tv m) (λj y R=>by
    obtain⟨r,J,V⟩:=Bq R;have T:=(BK.1 J).1;obtain⟨g,o,e,_,n⟩:=h (by omega);simp only[Option.some.injEq]at e;subst e;obtain⟨G,H⟩:=n _ _ J;have M:(⟨g,o,AI⟩:Addr).add j=⟨g,o+j,AI⟩:=by simp[Addr.add]
    rw[M,V];by_cases i:j%2=0
    ·rw[show o+j/2*2=o+j by omega]at G;rw[if_pos i];exact G
    ·rw[show o+j/2*2+1=o+j by omega]at H;rw[if_neg i]
     exact H) (Ps m) (by unfold BH;omega) (by omega) Q
  refine⟨z,q,f,?_,(Xy.refl _ w).grown O (λk S=>.inl S)⟩;unfold Hl;rw[BO,Nm];exact N
theorem Iq{o:Oper}(s x:Operand)(q:o.op=Op.call {callee:=BP BQ,args:=#[s,x],argTypes:=#[67,67]})(f:Hl w B v l)(g:Zy w u m)(A:a.eval s=v)(C:a.eval x=u)(d:l.length+m.length<=1099511627776)(n:B<=w.heap.size)(p:∀i h,Hl h B i (l++m)->Xy (λb=>v.ownBlock=AF b) w h->K (a.put o.dst i) h):o.wp Tryz.prog a w K Q:=by obtain⟨i,h,z,j,k⟩:=Bg o.type f g d n;unfold Oper.wp execOp;simp only[q,resolve,invoke,builtin,Sem.run_bind,Sem.run_pure,Result.andThen_ok,List.map_toArray,List.map_cons,List.map_nil,A,C,z];exact p _ _ j k
theorem Xo(C:o.guard=AI)(s x:Operand)(n:o.op=Op.call {callee:=BP BQ,args:=#[s,x],argTypes:=#[67,67]})(f:Hl w B v l)(g:Zy w u m)(D:a.eval s=v)(E:a.eval x=u)(d:l.length+m.length<=1099511627776)(z:B<=w.heap.size)(A:∀j i,Hl i B j (l++m)->Xy (λb=>v.ownBlock=AF b) w i->wpList Tryz.prog h Q rest (a.put o.dst j) i) :
  wpList Tryz.prog h Q (o::rest) a w :=
 wpList_plain C λF k=>Iq s x n f g D E d z (λj i p q=>k _ _ (A j i p q))
theorem UV(n:Nat)(J:n<=1099511627776)(A:B<=w.heap.size) :
  DJ Tryz.prog 215 #[.slice AI 0 0,.int .i64 n] w λe q=>∃p,e=.returned p/\Hl q B p []/\Xy No w q:=by
 obtain⟨G,hi,j,F,k⟩:=info_parts Ah;by_cases z:n=0
 ·subst z;go_enter Tryz.func215,Tryz.ntmps215;go_wp2;go_ret;exact⟨_,rfl,Hl.nil _ _,Xy.refl _ _⟩
 ·have K:(0:Int)<(n:Int):=by omega
  have I:(n:Int)<=1099511627776:=by omega
  have d:=λH=>Lib.run_append_nil_zeros (P:=Tryz.prog) w 67 3 H 96 G _ .i64 .i64 Tryz.underlying67 Tryz.underlying3 hi j n (by omega) (by omega) (by omega) (by rw[k];omega);have i:=grownCap_ge w n 0 96;have h:=grownCap_le_maxLen w n 0 96 (by unfold BH;omega);generalize grownCap w n 0 96=cap at d i h;obtain⟨cs,f⟩:∃cs,cs=BU (F9 #[.int .u64 0,.int .u64 0]).cells n++BU (F9 #[.int .u64 0,.int .u64 0]).cells (cap-n):=⟨_,rfl⟩;have g:cs.size=cap*2:=by rw[f,Array.size_append,size_zeroCells,size_zeroCells];simp[Value.cells];omega
  simp only[<- f]at d;clear f;have E:=λ(o:Obj)=>heap_alloc_new w.drew o;have C:(n:Int)<=(cap:Int):=by omega
  have D:(cap:Int)<=9223372036854775807:=by unfold BH at h;omega
  have m:=BX (A3 g i h);clear g i h;go_enter Tryz.func215,Tryz.ntmps215;go_wp2_with(at_builtin;refine Lib.wpList_append_run _ rfl _ _ _ _ rfl _ _ rfl rfl _ _ (d _) ?_);go_ret;exact⟨_,rfl,⟨rfl,.inr ⟨w.heap.size,cap,cs,rfl,A,E _,BW _,m.out.2.2,m.out.1,by simp[Yd]⟩⟩,(Xy.refl _ _).drew.alloc _⟩
def Wz (w:AC)(v:AM)(d:List (List Xc)):Prop :=
 ∃us:List AM,us.length=d.length/\(∀(i:Nat) u l,us[i]?=AF u->d[i]?=AF l->Zy w u l) /\
  ∃g cap,v=.slice (AF ⟨g,0,AI⟩) d.length cap/\d.length<=cap/\cap<=BH/\∀(i:Nat) u,us[i]?=AF u->w.cell? ⟨g,i,AI⟩=AF u
def Fe (d:List (List Xc))(k:Nat):List Xc:=(d.take k).flatten
theorem GP(d:List (List Xc)):Fe d 0=[]:=by simp[Fe]
theorem YO(d:List (List Xc)):Fe d d.length=d.flatten:=by simp[Fe]
theorem QP(h:d[k]?=AF l):Fe d (k+1)=Fe d k++l:=by obtain⟨f,rfl⟩:=BK.1 h;unfold Fe;rw[List.take_succ_eq_append_getElem f,BN,List.flatten_cons,List.flatten_nil,B5]
theorem GX(d:List (List Xc))(k:Nat):(Fe d k).length<=d.flatten.length:=by
 unfold Fe
 conv=>rhs;rw[<- List.take_append_drop k d]
 rw[BN,BO];omega
theorem Pu(h:Wz w v d)(Z:d.flatten.length<=549755813888) :
  DJ Tryz.prog 203 #[v] w λe R=>∃Q,e=.returned Q/\Hl R w.heap.size Q d.flatten/\Xy No w R:=by
 obtain⟨us,I,G,g,cap,rfl,Y,M,n⟩:=h;unfold BH at M;have hn:(d.length:Int)<=9223372036854775807:=by omega
 have F:=BX (A3 I G n);clear I G n;go_enter Tryz.func203,Tryz.ntmps203;go_wp2
 go_loop [3,11] (λs i=>∃k:Nat,k<=d.length/\i=.int .i64 k/\s=.int .i64 (Fe d k).length) (λ_ i=>d.length-(C0 i).toNat)
 case atStart=>exact⟨0,BW _,rfl,rfl⟩
 case round =>
  obtain⟨k,N,rfl,rfl⟩:=hrel;by_cases j:k<d.length
  ·have q:k<us.length:=by rw[F.out.1];exact j
   have T:=F.out.2.2 k us[k] (BY q);have f:d[k]?=AF d[k]:=BY j;obtain⟨V,S,U,_⟩:=(F.out.2.1 k _ _ (BY q) f).form;have E:=congrArg FA (QP f);rw[BO]at E;have z:=GX d (k+1);have L:((Fe d k).length:Int)+(d[k].length:Int)<=549755813888:=by omega
   have X:(0:Int)<=((Fe d k).length:Int)+(d[k].length:Int):=by omega
   have J:=BX E;rw[U]at T;generalize d[k].length=m at *;clear E z f U;have o:(k:Int)<(d.length:Int):=by omega
   go_wp2
   go_round
   case rel=>exact⟨k+1,by omega,by go_num,by rw[J.out];go_num⟩
   case measure=>simp[C0];omega
  ·have o:¬(k:Int)<(d.length:Int):=by omega
   obtain rfl:k=d.length:=by omega
   have z:=congrArg FA (YO d);have L:((Fe d d.length).length:Int)<=549755813888:=by omega
   clear z o j N;go_wp2_with(go_at_call 215;refine(UV (B:=w.heap.size) (Fe d d.length).length (by omega) (BE _)).mono ?_;rintro e w1 ⟨v0,rfl,C,H⟩);go_loopw [6,27] (λv i wr=>∃k:Nat,k<=d.length/\i=.int .i64 k/\Hl wr w.heap.size v (Fe d k)/\Xy No w wr) (λ_ i _=>d.length-(C0 i).toNat);case atStart=>exact⟨0,BW _,rfl,by rw[GP];exact C,H⟩
   case round =>
    clear C H;obtain⟨k,N,rfl,A,p⟩:=hrel;by_cases j:k<d.length
    ·have q:k<us.length:=by rw[F.out.1];exact j
     have T:=p.cell (F.out.2.2 k us[k] (BY q)) id;have f:d[k]?=AF d[k]:=BY j;have W:=(F.out.2.1 k _ _ (BY q) f).no p;have E:=QP f;have z:=GX d (k+1);rw[E,BO]at z;have o:(k:Int)<(d.length:Int):=by omega
     have J:=BX E;generalize us[k]=u at *;generalize d[k]=l at *;clear E f;have K:=p.size;go_wp2_with(at_builtin;refine Xo rfl _ _ rfl A W rfl rfl (by omega) K ?_;intro Q R D O);go_roundw;case rel=>exact⟨k+1,by omega,by go_num,by rw[J.out];exact D,p.trans O (λx hx P=>by have:=(A.lt x P).1;omega)⟩
     case measure=>simp[C0];omega
    ·have o:¬(k:Int)<(d.length:Int):=by omega
     obtain rfl:k=d.length:=by omega
     clear o j N;go_wp2;go_ret;exact⟨_,rfl,by rw[<- YO];exact A,p⟩
end Go.Proofs.YtfdmbomlkpkegaaGreat
