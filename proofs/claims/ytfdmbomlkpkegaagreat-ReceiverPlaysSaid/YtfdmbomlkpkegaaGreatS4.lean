/- Lemmas. -/
import Derived.Test.YtfdmbomlkpkegaaGreatS3
import Derived.Lib.EndianBits
set_option maxRecDepth 100000
set_option maxHeartbeats 8000000
set_option linter.all false
open BitVec renaming ofInt->EF,ofInt_natCast->EG,toNat_ofNat->EH
open Go renaming Addr->EK,Calls->DJ,Value->AM,World->AC,info_parts->EP,maxLen->BH,wraps_u64->EC
open Go.Instr renaming slice->EN
open Go.IntKind renaming wrap_u32->EJ
open Go.IntWalk renaming i64_in->EM
open Go.Lib renaming hid->BX
open Go.RowKit renaming intOf->C0
open Go.Value renaming oneCell'->ER,ownBlock->DK
open Go.Value.slice renaming injEq->DB
open Go.World renaming news_of_block->EQ
open Int renaming natCast_nonneg->ED,toNat_natCast->EO
open List renaming flatMap_cons->EL,getElem?_append_left->DO,getElem?_append_right->DP,getElem?_eq_getElem->BY,getElem?_eq_some_iff->BK,getElem?_take->BI,length_cons->AT,length_take->E9,take_add_one->E7,take_length->BZ
open Nat renaming le_refl->BE,le_trans->BF,min_eq_left->EA,mod_eq_of_lt->EI,mul_add->E3,mul_comm->E5,pow_add->E4,pow_le_pow_right->EB,xor_lt_two_pow->EE,zero_le->BW
open Option renaming none->AI,some->AF,toList_some->E8
open UInt8 renaming ofNat->D7,toNat_ofNat'->E6
namespace Go.Proofs.YtfdmbomlkpkegaaGreat
section
open Go Go.RowKit
def layB (n:Nat)(k:Nat):Qs:=(List.range k).map (λi=>D7 (n/2^(8*i)))
theorem Zu(n k:Nat):(layB n k).length=k:=by simp[layB]
theorem Di(n k:Nat):layB n (k+1)=layB n k++[D7 (n/2^(8*k))]:=by simp[layB,List.range_succ]
def takeN:Qs->Nat
 | []=>0
 | b::l=>b.toNat+256*takeN l
theorem Pp(l:Qs)(b:UInt8):takeN (l++[b])=takeN l+b.toNat*2^(8*l.length):=by
 induction l with
 | nil=>simp[takeN]
 | cons c l f =>
  simp only[List.cons_append,takeN,f,AT];rw[E3 8,E4,E3];have:b.toNat*(2^(8*l.length)*2^(8*1))=256*(b.toNat*2^(8*l.length)):=by rw[show(2:Nat)^(8*1)=256 from rfl,<- Nat.mul_assoc,E5]
  omega
theorem VU(l:Qs):takeN l<2^(8*l.length):=by
 induction l with
 | nil=>simp[takeN]
 | cons b l f =>
  simp only[takeN,AT];rw[E3 8,E4,show(2:Nat)^(8*1)=256 from rfl];have:=b.toNat_lt;omega
theorem Uf(n:Nat):∀k,takeN (layB n k)=n%2^(8*k):=by
 intro k
 induction k with
 | zero=>simp[layB,takeN,Nat.mod_one]
 | succ k f =>
  rw[Di,Pp,f,Zu,E6,E3 8,E4,Nat.mod_mul];simp[E5]
theorem At[bn:Ib]{w:AC}(K:ban.top<=w.heap.size)(n k:Nat)(P:k<=8) :
  DJ Tryz.prog 200 #[.int .u64 n,.int .i64 k] w λe w'=>∃v,e=.returned v/\Kr w' w.heap.size v (layB n k)/\Xy No w w':=by
 have M:(k:Int)<=8:=by omega
 go_enter Tryz.func200,Tryz.ntmps200;go_wp2;go_loopw [5,8] (λo i wr=>∃j:Nat,j<=k/\i=.int .i64 j/\Kr wr w.heap.size o (layB n j)/\Xy No w wr) (λ_ i _=>k-(C0 i).toNat);case atStart=>exact⟨0,BW _,rfl,Kr.nil _ _,Xy.refl _ _⟩
 case round =>
  obtain⟨j,O,rfl,B,f⟩:=hrel;by_cases D:j<k
  ·have G:(j:Int)<(k:Int):=by omega
   have C:=Zu n j;have E:Kr wr w.heap.size _ (layB n j):=B;obtain⟨ao,cap,rfl⟩:=B.form;have Q:((n:Int)/2^(8*j)%256)=(((D7 (n/2^(8*j))).toNat:Nat):Int):=by
    rw[E6]
    push_cast
    rfl
   have J:=Di n j;generalize D7 (n/2^(8*j))=x at *;have I:Xy No wr (wr.alloc (.cells #[.int .u8 x.toNat] 5)):=(Xy.refl _ _).alloc _;have F:Qv w.heap.size (wr.alloc (.cells #[.int .u8 x.toNat] 5)) (.slice (AF ⟨wr.heap.size,0,AI⟩) 1 1) [x]:=Qv.of_block [x] (Qy wr _) (by simp[BH]) (BF K f.size);have m:Kr (wr.alloc (.cells #[.int .u8 x.toNat] 5)) w.heap.size _ (layB n j):=B.keep I (λ_ _ h=>h);have A:=BX (A3 (f.then I) J D);clear B E f I J D;rw[C]at m⊢;go_wp2_with(at_builtin;refine Zq rfl _ _ rfl w.heap.size m F rfl rfl (by rw[C];simp;omega) (by have:=A.out.1.size;omega) ?_;intro R w' z H);go_roundw;case rel=>exact⟨j+1,by have:=A.out.2.2;omega,by go_num,by rw[A.out.2.1];exact z,A.out.1.trans H (λb N h=>by have:=m.lt b h;omega)⟩
   case measure=>have:=A.out.2.2;simp[C0];omega
  ·have G:¬(j:Int)<(k:Int):=by omega
   obtain rfl:j=k:=by omega
   go_wp2;go_ret;exact⟨_,rfl,B,f⟩
theorem Fy[bn:Ib]{base:Nat}{w:AC}{v:AM}{l:Qs}(h:Qv base w v l)(P:l.length<=8) :
  DJ Tryz.prog 154 #[v] w λe w'=>e=.returned (.int .u64 (takeN l:Nat))/\w'=w:=by
 have E:=h;obtain⟨ao,cap,rfl,O,Q,R,f⟩:=E;have G:(l.length:Int)<=8:=by omega
 go_enter Tryz.func154,Tryz.ntmps154;go_wp2
 go_loop [3,8] (λs i=>∃j:Nat,j<=l.length/\i=.int .i64 j/\s=.int .u64 (takeN (l.take j):Nat)) (λ_ i=>l.length-(C0 i).toNat)
 case atStart=>exact⟨0,BW _,rfl,by simp[takeN]⟩
 case round =>
  obtain⟨j,C,rfl,rfl⟩:=hrel;by_cases B:j<l.length
  ·have A:(j:Int)<(l.length:Int):=by omega
   have k:l[j]?=AF l[j]:=BY B;obtain⟨N,rfl,F,z⟩:=f j _ k;have m:takeN (l.take (j+1))=takeN (l.take j)+l[j].toNat*2^(8*j):=by rw[E7,k];simp only[E8];rw[Pp,E9,EA C]
   have o:=VU (l.take j);rw[E9,EA C]at o;have D:=l[j].toNat_lt;generalize l[j]=x at *;unfold u8v at z;have H:bits .or .u64 ((takeN (l.take j):Nat):Int) (IntKind.u64.wrap ((x.toNat:Int)*2^(8*j)))=((takeN (l.take (j+1)):Nat):Int):=by
    have J:2^(8*j+8)<=2^64:=EB (by decide) (by omega);rw[E4]at J;have S:x.toNat*2^(8*j)<2^8*2^(8*j):=Nat.mul_lt_mul_of_pos_right D (Nat.two_pow_pos _);have K:x.toNat*2^(8*j)%2^(8*j)=0:=Nat.mul_mod_left _ _;have M:2^(8*j)<=2^64:=EB (by decide) (by omega);have e:((x.toNat:Int)*2^(8*j))=((x.toNat*2^(8*j):Nat):Int):=by push_cast;rfl
    rw[e,m];generalize x.toNat*2^(8*j)=q at *;rw[EC _ (ED _) (by exact_mod_cast (by omega:q<2^64))];rw[bits_join_low .u64 64 (by decide) EC (8*j) _ _ (ED _) (by exact_mod_cast o) (by exact_mod_cast Nat.lt_of_lt_of_le o M) (ED _) (by exact_mod_cast K) (by exact_mod_cast (by omega:q<2^64))];omega
   have I:(x.toNat:Int)<256:=by omega
   clear m o D k f;go_wp2
   go_round
   case rel=>exact⟨j+1,by omega,by go_num,rfl⟩
   case measure=>simp[C0];omega
  ·have A:¬(j:Int)<(l.length:Int):=by omega
   obtain rfl:j=l.length:=by omega
   rw[BZ]at *;go_wp2;go_ret;exact⟨rfl,rfl⟩
def VV (k:Nat):Nat:=#[0,498536548,997073096,651767980,1994146192,1802195444,1303535960,1342533948,3988292384,4027552580,3604390888,3412177804,2607071920,2262029012,2685067896,3183342108].getD k 0
theorem YZ(k:Nat):VV k<4294967296:=by
 have h:∀k:Fin 16,VV k.val<4294967296:=by decide
 by_cases f:k<16
 ·exact h ⟨k,f⟩
 ·unfold VV;rw[Array.getD,dif_neg (by simpa using f)];decide
def halfN (r:Nat):Nat:=r/16 ^^^ VV (r%16)
theorem Ag{r:Nat}(h:r<4294967296):halfN r<4294967296:=EE (n:=32) (by omega) (YZ _)
def Sq (r:Nat)(x:UInt8):Nat:=halfN (halfN (r ^^^ x.toNat))
theorem S8{r:Nat}(h:r<4294967296)(x:UInt8):Sq r x<4294967296:=by have:=x.toNat_lt;exact Ag (Ag (EE (n:=32) (by omega) (by omega)))
def foldN (r:Nat)(l:Qs):Nat:=l.foldl Sq r
theorem Hf(l:Qs):∀{r:Nat},r<4294967296->foldN r l<4294967296:=by
 induction l with
 | nil=>intro r h;exact h
 | cons x l f=>intro r h;exact f (S8 h x)
def moreN (s:Nat)(l:Qs):Nat:=4294967295-foldN (4294967295-s) l
theorem Kc(s:Nat)(l:Qs):moreN s l<4294967296:=by unfold moreN;omega
theorem Ct(r:Nat)(a b:Qs):foldN r (a++b)=foldN (foldN r a) b:=by simp[foldN]
theorem Py(s:Nat)(a b:Qs):moreN (moreN s a) b=moreN s (a++b):=by have h:foldN (4294967295-s) a<4294967296:=Hf a (by omega);unfold moreN;rw[Ct];congr 2;omega
theorem Sk(a b:Nat)(i:a<4294967296)(j:b<4294967296) :
  bits .xor .u32 (a:Int) (b:Int)=((a ^^^ b:Nat):Int):=by
 have k:a ^^^ b<2^32:=EE (by omega) (by omega);have f:(EF 32 (a:Int)).toNat=a:=by rw[EG,EH];exact EI (by omega)
 have h:(EF 32 (b:Int)).toNat=b:=by rw[EG,EH];exact EI (by omega)
 show IntKind.u32.wrap ((EF 32 (a:Int) ^^^ EF 32 (b:Int)).toNat:Int)=_;rw[BitVec.toNat_xor,f,h,EJ];omega
theorem QF(a:Nat)(f:a<4294967296):bits .and .u32 (a:Int) 15=((a%16:Nat):Int):=by
 have h:=bits_mask .u32 32 (by decide) wraps_u32 4 (by decide) (a:Int) (ED _) (by exact_mod_cast f);rw[show((2:Int)^4-1)=15 from rfl]at h;rw[h]
 push_cast
 rfl
theorem GY(s:Nat)(f:s<4294967296):bits .xor .u32 IntKind.u32.max (s:Int)=((4294967295-s:Nat):Int):=by
 show IntKind.u32.wrap ((EF 32 IntKind.u32.max ^^^ EF 32 (s:Int)).toNat:Int)=_;have e:EF 32 IntKind.u32.max=BitVec.allOnes 32:=by decide
 rw[e,BitVec.allOnes_xor,BitVec.toNat_not,EG,EH,EI (by omega),EJ];omega
theorem Y9(w:AC):DJ Tryz.prog 213 #[] w λe w'=>e=.returned (.agg #[.int .u32 0,.int .u32 498536548,.int .u32 997073096,.int .u32 651767980,.int .u32 1994146192,.int .u32 1802195444,.int .u32 1303535960,.int .u32 1342533948,.int .u32 3988292384,.int .u32 4027552580,.int .u32 3604390888,.int .u32 3412177804,.int .u32 2607071920,.int .u32 2262029012,.int .u32 2685067896,.int .u32 3183342108])/\Xy No w w':=by have k:∀o,Xy No w (w.alloc o):=λo=>(Xy.refl _ _).alloc o;go_enter Tryz.func213,Tryz.ntmps213;go_wp2;refine bodyPost_ret (v:=.agg #[.int .u32 0,.int .u32 498536548,.int .u32 997073096,.int .u32 651767980,.int .u32 1994146192,.int .u32 1802195444,.int .u32 1303535960,.int .u32 1342533948,.int .u32 3988292384,.int .u32 4027552580,.int .u32 3604390888,.int .u32 3412177804,.int .u32 2607071920,.int .u32 2262029012,.int .u32 2685067896,.int .u32 3183342108]) (by simp[results,Tryz.results213,go_sem]) rfl ⟨rfl,k _⟩
theorem Wc[bn:Ib]{base:Nat}{w:AC}{v:AM}{l:Qs}(h:Qv base w v l)(s:Nat)(X:s<4294967296) :
  DJ Tryz.prog 196 #[.int .u32 s,v] w λe w'=>e=.returned (.int .u32 (moreN s l:Nat))/\Xy No w w':=by
 have I:=h;obtain⟨ao,cap,rfl⟩:=h.form;have A:l.length<=BH:=by obtain⟨_,_,Q,h1,S,_⟩:=h;omega
 unfold BH at A;have W:(l.length:Int)<=9223372036854775807:=by omega
 have Z:(s:Int)<=4294967295:=by omega
 have Y:(0:Int)<=(s:Int):=by omega
 clear A;go_enter Tryz.func196,Tryz.ntmps196;have N:=GY s X;have K:4294967295-s<4294967296:=by omega
 go_wp2_with(go_at_call 213;refine(Y9 _).mono ?_;rintro e G ⟨rfl,T⟩);have m:∀k,k<16->(G.alloc (.cells #[.int .u32 0,.int .u32 498536548,.int .u32 997073096,.int .u32 651767980,.int .u32 1994146192,.int .u32 1802195444,.int .u32 1303535960,.int .u32 1342533948,.int .u32 3988292384,.int .u32 4027552580,.int .u32 3604390888,.int .u32 3412177804,.int .u32 2607071920,.int .u32 2262029012,.int .u32 2685067896,.int .u32 3183342108] 316)).cell? ⟨G.heap.size,k,AI⟩=AF (.int .u32 (VV k)):=by
  intro k V;rw[Qq (Qy G _)]
  match k,V with
  | 0,_=>rfl
  | 1,_=>rfl
  | 2,_=>rfl
  | 3,_=>rfl
  | 4,_=>rfl
  | 5,_=>rfl
  | 6,_=>rfl
  | 7,_=>rfl
  | 8,_=>rfl
  | 9,_=>rfl
  | 10,_=>rfl
  | 11,_=>rfl
  | 12,_=>rfl
  | 13,_=>rfl
  | 14,_=>rfl
  | 15,_=>rfl
  | n+16,h=>exact absurd h (by omega)
 have J:Xy No w (G.alloc (.cells #[.int .u32 0,.int .u32 498536548,.int .u32 997073096,.int .u32 651767980,.int .u32 1994146192,.int .u32 1802195444,.int .u32 1303535960,.int .u32 1342533948,.int .u32 3988292384,.int .u32 4027552580,.int .u32 3604390888,.int .u32 3412177804,.int .u32 2607071920,.int .u32 2262029012,.int .u32 2685067896,.int .u32 3183342108] 316)):=T.alloc _;have S:=I.no J;generalize (G.alloc (.cells #[.int .u32 0,.int .u32 498536548,.int .u32 997073096,.int .u32 651767980,.int .u32 1994146192,.int .u32 1802195444,.int .u32 1303535960,.int .u32 1342533948,.int .u32 3988292384,.int .u32 4027552580,.int .u32 3604390888,.int .u32 3412177804,.int .u32 2607071920,.int .u32 2262029012,.int .u32 2685067896,.int .u32 3183342108] 316))=w2 at *;generalize G.heap.size=B at *;obtain⟨_,_,Q,_,_,_,f⟩:=S;simp only[DB]at Q;obtain⟨rfl,_,rfl⟩:=Q;clear N T I
 go_loop [6,14] (λr i=>∃j:Nat,j<=l.length/\i=.int .i64 j/\r=.int .u32 (foldN (4294967295-s) (l.take j):Nat)) (λ_ i=>l.length-(C0 i).toNat)
 case atStart=>exact⟨0,BW _,rfl,rfl⟩
 case round =>
  obtain⟨j,hj,rfl,rfl⟩:=hrel;by_cases D:j<l.length
  ·have P:(j:Int)<(l.length:Int):=by omega
   have F:l[j]?=AF l[j]:=BY D;obtain⟨ad,rfl,_,O⟩:=f j _ F;have C:=Hf (l.take j) K;have E:foldN (4294967295-s) (l.take (j+1))=Sq (foldN (4294967295-s) (l.take j)) l[j]:=by rw[E7,F];simp only[E8,Ct];rfl
   have hx:=l[j].toNat_lt;rw[show Sq (foldN (4294967295-s) (l.take j)) l[j]=halfN (halfN (foldN (4294967295-s) (l.take j) ^^^ l[j].toNat))from rfl]at E;unfold u8v at O;generalize foldN (4294967295-s) (l.take j)=M at *;generalize l[j]=x at *;have e0:bits .xor .u32 (M:Int) (x.toNat:Int)=((M ^^^ x.toNat:Nat):Int):=Sk _ _ C (by omega);have R:M ^^^ x.toNat<4294967296:=EE (n:=32) (by omega) (by omega);generalize M ^^^ x.toNat=o at *;have e1:bits .xor .u32 ((o:Int)/16) (VV (o%16):Int)=((halfN o:Nat):Int):=by rw[show((o:Int)/16)=((o/16:Nat):Int)by omega];exact Sk _ _ (by omega) (YZ _)
   have a1:=QF o R;have c1:=m (o%16) (by omega);have U:=Ag R;generalize halfN o=z at *;have e2:bits .xor .u32 ((z:Int)/16) (VV (z%16):Int)=((halfN z:Nat):Int):=by rw[show((z:Int)/16)=((z/16:Nat):Int)by omega];exact Sk _ _ (by omega) (YZ _)
   have a2:=QF z U;have c2:=m (z%16) (by omega);have m1:o%16<16:=by omega
   have m2:z%16<16:=by omega
   generalize o%16=q1 at *;generalize z%16=q2 at *;have aB:(q1:Int)<16:=by omega
   have aC:(q2:Int)<16:=by omega
   have aA:(x.toNat:Int)<256:=by omega
   have H:=BX (A2 E D);clear E D F f m C R U m1 m2 hx;go_wp2
   go_round
   case rel=>exact⟨j+1,by have:=H.out.2;omega,by go_num,by rw[H.out.1]⟩
   case measure=>have:=H.out.2;simp[C0];omega
  ·have P:¬(j:Int)<(l.length:Int):=by omega
   obtain rfl:j=l.length:=by omega
   rw[BZ]at *;have hf:=GY (foldN (4294967295-s) l) (Hf l K);go_wp2;go_ret;exact⟨rfl,J⟩
theorem Ow[bn:Ib]{base:Nat}{w:AC}{v:AM}{l:Qs}(h:Qv base w v l) :
  DJ Tryz.prog 197 #[v] w λe w'=>e=.returned (.int .u32 (moreN 0 l:Nat))/\Xy No w w':=by
 have f:=Wc h 0 (by decide);go_enter Tryz.func197,Tryz.ntmps197;go_wp2_with(go_at_call 196;refine f.mono ?_;rintro e j ⟨rfl,i⟩);go_ret;exact⟨rfl,i⟩
def Ye (l:Qs):Qs:=l++layB (moreN 0 l) 4
theorem Fg(l:Qs):(Ye l).length=l.length+4:=by simp[Ye,Zu]
theorem Bo[bn:Ib]{base:Nat}{w:AC}{v:AM}{l:Qs}(h:Qv base w v l)(U:ban.top<=w.heap.size)(V:l.length<=35184372088832) :
  DJ Tryz.prog 195 #[v] w λe w'=>∃N,e=.returned N/\Kr w' w.heap.size N (Ye l)/\Xy No w w':=by
 have m:=Ow h;have P:=Kc 0 l;unfold Ye;generalize moreN 0 l=n at *;go_enter Tryz.func195,Tryz.ntmps195;go_wp2_with(first
  | (go_at_call 197;refine m.mono ?_;rintro e w1 ⟨rfl,G⟩)
  | (go_at_call 99;refine(Ju (h.no G) V).mono ?_;rintro e X ⟨W,rfl,f,Q⟩))
 have f:Kr X w.heap.size W l:=⟨f.1,f.2.imp id (λ⟨g,cap,H,R,S,T⟩=>⟨g,cap,H,R,BF G.size S,T⟩)⟩;have E:=G.then Q;clear m h G Q;go_loopw [4,10] (λo i wr=>∃j:Nat,j<=4/\i=.int .i64 j/\Kr wr w.heap.size o (l++layB n j)/\Xy No w wr) (λ_ i _=>4-(C0 i).toNat);case atStart=>exact⟨0,BW _,rfl,by simpa[layB]using f,E⟩
 case round =>
  clear f E;obtain⟨j,Z,rfl,F,k⟩:=hrel;by_cases D:j<4
  ·have J:(j:Int)<4:=by omega
   have C:(l++layB n j).length=l.length+j:=by simp[Zu]
   obtain⟨ao,cap,rfl⟩:=F.form;have hx:((n:Int)/2^(8*j)%256)=(((D7 (n/2^(8*j))).toNat:Nat):Int):=by
    rw[E6]
    push_cast
    rfl
   have O:=Di n j;generalize D7 (n/2^(8*j))=x at *;have M:Xy No wr (wr.alloc (.cells #[.int .u8 x.toNat] 5)):=(Xy.refl _ _).alloc _;have I:Qv w.heap.size (wr.alloc (.cells #[.int .u8 x.toNat] 5)) (.slice (AF ⟨wr.heap.size,0,AI⟩) 1 1) [x]:=Qv.of_block [x] (Qy wr _) (by simp[BH]) (BF U k.size);have z:Kr (wr.alloc (.cells #[.int .u8 x.toNat] 5)) w.heap.size _ (l++layB n j):=F.keep M (λ_ _ h=>h);have B:=BX (A3 (k.then M) O D);clear F k M O D;rw[C]at z⊢;go_wp2_with(at_builtin;refine Zq rfl _ _ rfl w.heap.size z I rfl rfl (by rw[C];simp;omega) (by have:=B.out.1.size;omega) ?_;intro N w' A K);go_roundw;case rel=>exact⟨j+1,by have:=B.out.2.2;omega,by go_num,by rw[B.out.2.1,<- List.append_assoc];exact A,B.out.1.trans K (λb Y h=>by have:=z.lt b h;omega)⟩
   case measure=>have:=B.out.2.2;simp[C0];omega
  ·have J:¬(j:Int)<4:=by omega
   obtain rfl:j=4:=by omega
   go_wp2;go_ret;exact⟨_,rfl,F,k⟩
def Rf (l:Qs):Qs×Nat:=if l.length<4 then([],2)else if Ye (l.take (l.length-4))==l then(l.take (l.length-4),0)else([],3)
def Xt (first:Nat):Qs:=Ye (layB first 8)
theorem Zr(n:Nat):(Xt n).length=12:=by simp[Xt,Fg,Zu]
def recB (l:Qs):Qs:=layB l.length 4++(layB (moreN 0 (layB l.length 4++l)) 4++l)
theorem Zl(l:Qs):(recB l).length=l.length+8:=by simp[recB,Zu];omega
theorem As[bn:Ib]{w:AC}(k:ban.top<=w.heap.size)(n:Nat) :
  DJ Tryz.prog 166 #[.int .u64 n] w λe w'=>∃v,e=.returned v/\Kr w' w.heap.size v (Xt n)/\Xy No w w':=by
 have h:=At k n 8 (BE _);go_enter Tryz.func166,Tryz.ntmps166;go_wp2_with(first
  | (go_at_call 195;refine(Bo (i.bytes (base:=w.heap.size) (λ_=>k)) (BF k m.size) (by rw[Zu];decide)).mono ?_;rintro e F ⟨D,rfl,f,B⟩)
  | (go_at_call 200;refine h.mono ?_;rintro e E ⟨C,rfl,i,m⟩))
 go_ret;exact⟨_,rfl,⟨f.1,f.2.imp id (λ⟨g,cap,j,o,z,A⟩=>⟨g,cap,j,o,BF m.size z,A⟩)⟩,m.then B⟩
theorem Kr.mono{w:AC}{B B':Nat}{v:AM}{l:Qs}(h:Kr w B v l)(m:B'<=B):Kr w B' v l :=
 ⟨h.1,h.2.imp id (λ⟨g,cap,f,i,j,k⟩=>⟨g,cap,f,i,BF m j,k⟩)⟩
theorem Pq[bn:Ib]{base:Nat}{w:AC}{v:AM}{l:Qs}(h:Qv base w v l)(G:ban.top<=w.heap.size)(hl:l.length<=1099511627776) :
  DJ Tryz.prog 163 #[v] w λe w'=>∃v',e=.returned v'/\Kr w' w.heap.size v' (recB l)/\Xy No w w':=by
 have Z:=h;obtain⟨ao,cap,rfl⟩:=h.form;have K:=At G l.length 4 (by decide);have aA:(l.length:Int)<=1099511627776:=by omega
 have J:=Zu l.length 4;unfold recB;rw[<- Py];generalize layB l.length 4=a at *;have M:=Kc 0 a;have O:=λ(w':AC) (u:AM) (hu:Qv base w' u a)=>Ow hu;generalize moreN 0 a=s at *;have N:=Kc s l;have E:=λ(w':AC) (k:Xy No w w')=>Wc (h.no k) s M;generalize moreN s l=m at *;have aB:(m:Int)<4294967296:=by omega
 have f:=λ(w':AC) (G:ban.top<=w'.heap.size)=>At G m 4 (by decide);have A:=Zu m 4;generalize layB m 4=b at *;have z:=λ(w':AC) (T X:Option EK) (I U:Nat) (k:Xy No w w') (h1:Qv base w' (.slice T 4 I) a) (h2:Qv base w' (.slice X 4 U) b) =>
  Ev (Zb.of_block (Qy w' (.cells #[.slice T 4 I,.slice X 4 U,.slice ao l.length cap] 59)) [a,b,l] rfl (by simp[BH]) (λi u aC j o=>by
   have W:Xy No w' (w'.alloc (.cells #[.slice T 4 I,.slice X 4 U,.slice ao l.length cap] 59)):=(Xy.refl _ _).alloc _
   match i,j,o with
   | 0,j,o=>simp at j o;subst j o;exact h1.no W
   | 1,j,o=>simp at j o;subst j o;exact h2.no W
   | 2,j,o=>simp at j o;subst j o;exact Z.no (k.then W))) (by simp;omega)
 have HC:=BX z;have HL:=BX f;have Y:=BX (A2 J A);clear z f J A M N Z h;go_enter Tryz.func163,Tryz.ntmps163;go_wp2_with(first
  | (go_at_call 101;refine(HC.out _ _ _ _ _ (((Q.then H).then S).then V) (((F.no H).no S).no V) P).mono ?_;rintro e w5 ⟨v5,rfl,D,k5⟩)
  | (go_at_call 200;refine(HL.out _ (BF G ((Q.then H).then S).size)).mono ?_;rintro e w4 ⟨v4,rfl,C,V⟩;obtain⟨o4,c4,rfl⟩:=C.form;have P:=C.bytes (base:=base) (λ_=>BF G ((Q.then H).then S).size);rw[Y.out.2]at P⊢)
  | (go_at_call 196;refine(E _ (Q.then H)).mono ?_;rintro e w3 ⟨rfl,S⟩)
  | (go_at_call 197;refine(O _ _ F).mono ?_;rintro e w2 ⟨rfl,H⟩)
  | (go_at_call 200;refine K.mono ?_;rintro e w1 ⟨v1,rfl,B,Q⟩;obtain⟨T,I,rfl⟩:=B.form;have F:=B.bytes (base:=base) (λ_=>G);rw[Y.out.1]at F⊢))
 have R:=(((Q.then H).then S).then V);go_ret;refine⟨_,rfl,?_,(R.alloc _).then k5⟩;have e:[a,b,l].flatten=a++(b++l):=by simp
 rw[e]at D;exact D.mono (by have:=(R.alloc (.cells #[.slice T 4 I,.slice o4 4 c4,.slice ao l.length cap] 59)).size;omega)
theorem KE[bn:Ib]{base:Nat}{w:AC}{v:AM}{l:Qs}(h:Qv base w v l)(G:ban.top<=w.heap.size)(Z:l.length<=1099511627776) :
  DJ Tryz.prog 153 #[v] w λe w'=>∃M,e=.returned (.tuple #[M,.int .i64 (Rf l).2])/\Kr w' w.heap.size M (Rf l).1/\Xy No w w':=by
 have D:=h;obtain⟨ao,cap,rfl⟩:=h.form;have z:l.length<=cap/\cap<=BH:=by obtain⟨_,_,j,X,Y,_⟩:=h;simp at j;omega
 unfold BH at z;have O:(l.length:Int)<=(cap:Int):=by omega
 have J:(cap:Int)<=9223372036854775807:=by omega
 clear z;by_cases F:l.length<4
 ·have e:Rf l=([],2):=by unfold Rf;rw[if_pos F]
  rw[e];have N:(l.length:Int)<4:=by omega
  clear h D e;go_enter Tryz.func153,Tryz.ntmps153;go_wp2_with fail;go_ret2;exact⟨_,rfl,Kr.nil _ _,Xy.refl _ _⟩
 ·obtain⟨n,H⟩:∃n,l.length=n+4:=⟨l.length-4,by omega⟩;have P:(l.length:Int)-4=(n:Int):=by omega
  have K:(n:Int)<=(cap:Int):=by omega
  have I:=D.take n (by omega);have E:Rf l=if Ye (l.take n)==l then(l.take n,0)else([],3):=by unfold Rf;rw[if_neg F,H,Nat.add_sub_cancel]
  rw[E];have Q:(l.take n).length<=1099511627776:=by rw[E9];omega
  generalize l.take n=t at *;have f:=Bo I G (by omega);have o:=λ(w':AC) (u:AM) (k:Xy No w w') (R:Qv base w' u (Ye t))=>YW R (D.no k);have m:=λ(w':AC) (k:Xy No w w')=>Ju (I.no k) (by omega);have W:=BX H;clear h I H F D;by_cases j:(Ye t==l)=true
  ·rw[if_pos j];rw[j]at o;clear E j;go_enter Tryz.func153,Tryz.ntmps153;go_wp2_with(first
    | (go_at_call 99;refine(m _ (by subst C;exact A)).mono ?_;rintro e w2 ⟨v2,rfl,B,S⟩)
    | (go_at_call 113;refine(o _ _ A (i.bytes (λ_=>G))).mono ?_;rintro e V ⟨rfl,C⟩)
    | (go_at_call 195;refine f.mono ?_;rintro e U ⟨T,rfl,i,A⟩))
   go_ret2;subst C;exact⟨_,rfl,B.mono A.size,A.then S⟩
  ·have j:(Ye t==l)=false:=by simpa using j
   rw[j]at o;rw[j,if_neg (by decide)];clear E j;go_enter Tryz.func153,Tryz.ntmps153;go_wp2_with(first
    | (go_at_call 113;refine(o _ _ A (i.bytes (λ_=>G))).mono ?_;rintro e V ⟨rfl,C⟩)
    | (go_at_call 195;refine f.mono ?_;rintro e U ⟨T,rfl,i,A⟩))
   go_ret2;subst C;exact⟨_,rfl,Kr.nil _ _,A⟩
structure Nc where
 n:Int
 first:Nat
 count:Nat
 size:Nat
 whole:Bool
 headed:Bool
def Yy (s:Nc):List AM:=[.int .u64 s.n,.int .u64 s.first,.int .u64 s.count,.int .i64 s.size,.bool s.whole,.bool s.headed]
def Yf (l:List Nc):List AM:=l.flatMap Yy
theorem Nb(l:List Nc)(s:Nc):Yf (l++[s])=Yf l++Yy s:=by simp[Yf]
theorem XH:∀{l:List Nc} {i:Nat} {s:Nc},l[i]?=AF s->∀f,f<6->(Yf l)[i*6+f]?=(Yy s)[f]?:=by
 intro l
 induction l with
 | nil=>intro i s h;simp at h
 | cons x l m =>
  intro i s h f k;cases i with
  | zero =>
   simp at h;subst h;simp only[Yf,EL];rw[DO (by simp[Yy];omega)];simp
  | succ i =>
   have j:=m (i:=i) (by simpa using h) f k;rw[<- j];simp only[Yf,EL];rw[DP (by simp[Yy];omega)];congr 1;simp[Yy];omega
def Jn (base:Nat)(w:AC)(v:AM)(l:List Nc):Prop:=w.ownsRow base 265 6 v l.length (Yf l)
def Zp [bn:Ib](base:Nat)(w:AC)(v:AM)(l:List Qs):Prop :=
 ∃us:List AM,us.length=l.length/\(∀(i:Nat) u b,us[i]?=AF u->l[i]?=AF b->Qv base w u b)/\w.ownsRow base 59 1 v l.length us
def Vi [bn:Ib](base:Nat)(w:AC)(v:AM)(l:List Qs):Prop :=
 ∃us:List AM,us.length=l.length/\(∀(i:Nat) u b,us[i]?=AF u->l[i]?=AF b->Qv base w u b)/\Vz w base 59 v l.length us
structure Gi where
 size:Int
 segs:List Nc
 recs:List Qs
 next:Nat
structure Zd [bn:Ib](base:Nat)(w:AC)(g p:Nat)(sv lv:AM)(L:Gi):Prop where
 blk:w.heap[g]?=AF (.cells #[.pointer (AF ⟨p,0,AI⟩),.int .i64 L.size,sv,lv,.int .u64 L.next] 130 (0,0))
 segs:Jn base w sv L.segs
 recs:Vi base w lv L.recs
 gb:base<=g
def Yg (g:Nat)(sv lv:AM):Nat->Prop:=λb=>b=g\/sv.ownBlock=AF b\/lv.ownBlock=AF b
theorem Kj{w:AC}{base:Nat}{t:TypeId}{size n:Nat}{v:AM}{xs:List AM}(h:w.ownsRow base t size v n xs):∃ao cap,v=.slice ao n cap/\n<=cap/\cap<=BH:=by
 rcases h.2 with⟨rfl,i⟩|⟨g,cap,f,rfl,_,_,j,k,_⟩
 ·exact⟨AI,0,by rw[i],by omega,by decide⟩
 ·exact⟨_,_,rfl,j,k⟩
theorem Qa{w:AC}{base:Nat}{t:TypeId}{size n:Nat}{v:AM}{xs:List AM}(h:w.ownsRow base t size v n xs):∀b,v.ownBlock=AF b->base<=b/\∃f,w.heap[b]?=AF (.cells f t (0,0)):=by
 intro b i;rcases h.2 with⟨rfl,_⟩|⟨g,cap,f,rfl,j,k,_⟩
 ·simp[DK]at i
 ·simp[DK]at i;subst i;exact⟨j,f,k⟩
theorem Yu{w w':AC}{base:Nat}{t:TypeId}{size n:Nat}{v:AM}{xs:List AM}{F:Nat->Prop}(h:w.ownsRow base t size v n xs)(k:Xy F w w')(m:∀b,v.ownBlock=AF b->¬F b):w'.ownsRow base t size v n xs:=by
 refine⟨h.1,?_⟩;rcases h.2 with h|⟨g,cap,f,rfl,i,j,r⟩
 ·exact .inl h
 ·exact .inr ⟨g,cap,f,rfl,i,k.heap j (m g rfl),r⟩
theorem Gy{w:AC}{base:Nat}{t:TypeId}{size n cap:Nat}{ao:Option EK}{xs:List AM}(h:w.ownsRow base t size (.slice ao n cap) n xs){j:Nat}{x:AM}(f:xs[j]?=AF x)(C:xs.length=n*size) :
  ∃g,ao=AF ⟨g,0,AI⟩/\w.cell? ⟨g,j,AI⟩=AF x:=by
 have i:=(BK.1 f).1;rcases h.2 with⟨k,z⟩|⟨g,m,o,k,D,A,E,F,G,B⟩
 ·subst z;rw[C]at i;omega
 ·simp only[DB]at k;obtain⟨rfl,_,rfl⟩:=k;refine⟨g,rfl,?_⟩;rw[Qq A];rw[<- B,BI]at f
  split at f
  ·simpa using f
  ·cases f
theorem Zp.keep[bn:Ib]{base:Nat}{w w':AC}{v:AM}{l:List Qs}{F:Nat->Prop}(h:Zp base w v l)(hF:Uz base w F)(k:Xy F w w')(z:∀b,v.ownBlock=AF b->¬F b):Zp base w' v l:=by obtain⟨us,f,j,m⟩:=h;exact⟨us,f,λi u b A o=>(j i u b A o).keep hF k,Yu m k z⟩
theorem Zp.form[bn:Ib]{base:Nat}{w:AC}{v:AM}{l:List Qs}(h:Zp base w v l):∃ao cap,v=.slice ao l.length cap/\l.length<=cap/\cap<=BH:=by obtain⟨us,_,_,f⟩:=h;exact Kj f
theorem Jn.form{base:Nat}{w:AC}{v:AM}{l:List Nc}(h:Jn base w v l):∃ao cap,v=.slice ao l.length cap/\l.length<=cap/\cap<=BH:=Kj h
theorem Cz(l:List Nc):(Yf l).length=l.length*6:=by
 induction l with
 | nil=>rfl
 | cons x l f=>simp only[Yf,EL,List.length_append,AT]at f⊢;rw[f];simp[Yy];omega
theorem Jn.cell{base:Nat}{w:AC}{ao:Option EK}{n cap:Nat}{l:List Nc}(h:Jn base w (.slice ao n cap) l){i:Nat}{s:Nc}(hi:l[i]?=AF s) :
  ∃g,ao=AF ⟨g,0,AI⟩/\w.cell? ⟨g,i*6,AI⟩=AF (.int .u64 s.n)/\w.cell? ⟨g,i*6+1,AI⟩=AF (.int .u64 s.first)/\w.cell? ⟨g,i*6+2,AI⟩=AF (.int .u64 s.count) /\
   w.cell? ⟨g,i*6+3,AI⟩=AF (.int .i64 s.size)/\w.cell? ⟨g,i*6+4,AI⟩=AF (.bool s.whole)/\w.cell? ⟨g,i*6+5,AI⟩=AF (.bool s.headed):=by
 obtain⟨o,k,m,_⟩:=h.form;simp only[DB]at m;obtain⟨rfl,rfl,rfl⟩:=m;have B:=Cz l;have c:=λ(f:Nat) (A:f<6) (x:AM) (C:(Yy s)[f]?=AF x)=>Gy h (j:=i*6+f) (x:=x) (by rw[XH hi f A];exact C) B;obtain⟨g,rfl,z⟩:=c 0 (by decide) _ rfl;refine⟨g,rfl,z,?_,?_,?_,?_,?_⟩
 ·obtain⟨_,e,h⟩:=c 1 (by decide) _ rfl;simp at e;subst e;exact h
 ·obtain⟨_,e,h⟩:=c 2 (by decide) _ rfl;simp at e;subst e;exact h
 ·obtain⟨_,e,h⟩:=c 3 (by decide) _ rfl;simp at e;subst e;exact h
 ·obtain⟨_,e,h⟩:=c 4 (by decide) _ rfl;simp at e;subst e;exact h
 ·obtain⟨_,e,h⟩:=c 5 (by decide) _ rfl;simp at e;subst e;exact h
theorem Zp.cell[bn:Ib]{base:Nat}{w:AC}{ao:Option EK}{n cap:Nat}{l:List Qs}(h:Zp base w (.slice ao n cap) l){i:Nat}{b:Qs}(hi:l[i]?=AF b) :
  ∃g u,ao=AF ⟨g,0,AI⟩/\w.cell? ⟨g,i,AI⟩=AF u/\Qv base w u b:=by
 obtain⟨z,j,m,_⟩:=h.form;simp only[DB]at m;obtain⟨rfl,rfl,rfl⟩:=m;obtain⟨us,k,A,B⟩:=h;have f:i<us.length:=by rw[k];exact(BK.1 hi).1
 have o:us[i]?=AF us[i]:=BY f;obtain⟨g,rfl,C⟩:=Gy B o (by rw[k];omega);exact⟨g,_,rfl,C,A i _ b o hi⟩
theorem Vi.of[bn:Ib]{base:Nat}{w:AC}{v:AM}{l:List Qs}(h:Zp base w v l):Vi base w v l:=by obtain⟨us,f,i,j⟩:=h;exact⟨us,f,i,VK j⟩
theorem Vi.nil[bn:Ib](base:Nat)(w:AC):Vi base w (.slice AI 0 0) []:=⟨[],rfl,λi u b h=>by simp at h,NS _ _ _⟩
theorem Vi.keep[bn:Ib]{base:Nat}{w w':AC}{v:AM}{l:List Qs}{F:Nat->Prop}(h:Vi base w v l)(hF:Uz base w F)(k:Xy F w w')(z:∀b,v.ownBlock=AF b->¬F b):Vi base w' v l:=by obtain⟨us,f,j,m⟩:=h;exact⟨us,f,λi u b A o=>(j i u b A o).keep hF k,SD m k z⟩
theorem Vi.form[bn:Ib]{base:Nat}{w:AC}{v:AM}{l:List Qs}(h:Vi base w v l):∃ao cap,v=.slice ao l.length cap/\l.length<=cap/\cap<=BH:=by obtain⟨us,_,_,f⟩:=h;exact SC f
theorem Vi.foot[bn:Ib]{base:Nat}{w:AC}{v:AM}{l:List Qs}(h:Vi base w v l):Uz base w (λb=>v.ownBlock=AF b):=by intro b k;obtain⟨us,_,_,m⟩:=h;obtain⟨j,i,f⟩:=Vf m b k;exact⟨j,Qt f,λcs fr e=>by rw[f]at e;simp at e⟩
theorem Vi.cell[bn:Ib]{base:Nat}{w:AC}{ao:Option EK}{n cap:Nat}{l:List Qs}(h:Vi base w (.slice ao n cap) l){i:Nat}{b:Qs}(hi:l[i]?=AF b) :
  ∃g off u,ao=AF ⟨g,off,AI⟩/\w.cell? ⟨g,off+i,AI⟩=AF u/\Qv base w u b:=by
 obtain⟨o,j,k,_⟩:=h.form;simp only[DB]at k;obtain⟨rfl,rfl,rfl⟩:=k;obtain⟨us,z,A,B⟩:=h;have f:i<us.length:=by rw[z];exact(BK.1 hi).1
 have m:us[i]?=AF us[i]:=BY f;obtain⟨g,off,rfl,C⟩:=ZR B m;exact⟨g,off,_,rfl,C,A i _ b m hi⟩
section
variable [bn:Ib]{base:Nat}{w w':AC}{g p:Nat}{sv lv:AM}{L:Gi}
theorem Zd.kind(h:Zd base w g p sv lv L){b:Nat}(f:Yg g sv lv b):base<=b/\∃cs t,w.heap[b]?=AF (.cells cs t (0,0))/\(t=130\/t=265\/t=59):=by
 rcases f with rfl|f|f
 ·exact⟨h.gb,_,_,h.blk,.inl rfl⟩
 ·obtain⟨j,i,k⟩:=Qa h.segs b f;exact⟨j,_,_,k,.inr (.inl rfl)⟩
 ·obtain⟨us,_,_,m⟩:=h.recs;obtain⟨j,i,k⟩:=Vf m b f;exact⟨j,_,_,k,.inr (.inr rfl)⟩
theorem Zd.foot(h:Zd base w g p sv lv L):Uz base w (Yg g sv lv):=by intro b k;obtain⟨j,cs,t,i,f⟩:=h.kind k;exact⟨j,Qt i,λcs fr e=>by rw[i]at e;simp at e;obtain⟨_,rfl,_⟩:=e;rcases f with f|f|f<;>simp at f⟩
theorem Zd.keep{F:Nat->Prop}(h:Zd base w g p sv lv L)(hF:Uz base w F)(k:Xy F w w')(i:∀b,Yg g sv lv b->¬F b):Zd base w' g p sv lv L :=
 ⟨k.heap h.blk (i g (.inl rfl)),Yu h.segs k (λb f=>i b (.inr (.inl f))),h.recs.keep hF k (λb f=>i b (.inr (.inr f))),h.gb⟩
theorem Zd.no(h:Zd base w g p sv lv L)(k:Xy No w w'):Zd base w' g p sv lv L:=h.keep (Uz.no _ _) k (λ_ _ h=>h)
theorem Zd.lt(h:Zd base w g p sv lv L):∀b,Yg g sv lv b->b<w.heap.size:=λb f=>(h.foot b f).2.1
variable {q n s:Nat}{wv:AM}{d:Qr}
theorem Zd.apart(h:Zd base w g p sv lv L)(k:Qo base w q n s wv d){b:Nat}(z:Yg g sv lv b):¬Go.Proofs.YtfdmbomlkpkegaaGreat.foot q n s wv b:=λm=>by
 obtain⟨_,cs,t,j,i⟩:=h.kind z
 rcases m with rfl|rfl|rfl|m
 ·rw[k.blk]at j;simp at j;obtain⟨_,rfl⟩:=j;rcases i with i|i|i<;>simp at i
 ·obtain⟨_,_,f⟩:=k.now.kind;rw[j]at f;cases f
 ·obtain⟨_,_,f⟩:=k.safe.kind;rw[j]at f;cases f
 ·obtain⟨_,o,f⟩:=k.wait.kind b m
  rw[j]at f;simp at f;obtain⟨_,rfl⟩:=f;rcases i with i|i|i<;>simp at i
theorem Zd.byD(h:Zd base w g p sv lv L)(f:Qo base w q n s wv d)(k:Xy (Go.Proofs.YtfdmbomlkpkegaaGreat.foot q n s wv) w w'):Zd base w' g p sv lv L :=
 h.keep f.foot_ok k (λ_ i=>h.apart f i)
theorem Qo.byL(f:Qo base w q n s wv d)(h:Zd base w g p sv lv L)(k:Xy (Yg g sv lv) w w'):Qo base w' q n s wv d :=
 f.keep h.foot k (λ_ i j=>h.apart f j i)
end
end
section
open Go Go.RowKit Go.Dr
theorem KC[bn:Ib]{base:Nat}{w:AC}{g p:Nat}{sv lv:AM}{L:Gi}(h:Zd base w g p sv lv L) :
  DJ Tryz.prog 105 #[.pointer (AF ⟨g,0,AI⟩)] w λe w'=>e=.returned (.int .u64 L.next)/\w'=w:=by
 have f:=Qq h.blk 4;simp at f;go_enter Tryz.func105,Tryz.ntmps105;go_wp2;go_ret;exact⟨rfl,rfl⟩
theorem Tc[bn:Ib]{base:Nat}{w:AC}{g p:Nat}{sv lv:AM}{L:Gi}(h:Zd base w g p sv lv L) :
  DJ Tryz.prog 17 #[.pointer (AF ⟨g,0,AI⟩)] w λe w'=>e=.returned (.pointer (AF ⟨p,0,AI⟩))/\w'=w:=by
 have f:=Qq h.blk 0;simp at f;go_enter Tryz.func17,Tryz.ntmps17;go_wp2;go_ret;exact⟨rfl,rfl⟩
theorem Em[bn:Ib]{base:Nat}{w:AC}{g p:Nat}{sv lv:AM}{L:Gi}(h:Zd base w g p sv lv L)(F:L.next<=9223372036854775807)(C:L.recs.length<=L.next) :
  DJ Tryz.prog 104 #[.pointer (AF ⟨g,0,AI⟩)] w λe w'=>e=.returned (.int .u64 (L.next-L.recs.length:Nat))/\Xy No w w':=by
 obtain⟨ao,cap,rfl,i,f⟩:=h.recs.form;have j:=Qq h.blk 3;have k:=Qq h.blk 4;simp at j k;have D:IntKind.u64.wrap ((L.recs.length:Nat):Int)=(L.recs.length:Int):=EC _ (by omega) (by omega);have E:IntKind.u64.wrap ((L.next:Int)-(L.recs.length:Int))=((L.next-L.recs.length:Nat):Int):=by rw[EC _ (by omega) (by omega)];omega
 have B:(L.recs.length:Int)<=9223372036854775807:=by omega
 clear i f C;go_enter Tryz.func104,Tryz.ntmps104;go_wp2_with fail;refine Ql (λw'=>Xy No w w') [0,1,2,3,4,5,6,7,8,9] [10] [11] (by kernel_rfl) (by kernel_rfl) (λ_ _ _ _ _ h=>h) (Xy.refl _ _).drew ?_;iterate 10(refine Qk (v:=?_) rfl rfl rfl ?_ ?_;rotate_left;focus(
  intro w' m;have o:=m.cell j id;have z:=m.cell k id;go_simp
  try with_reducible rfl))
 refine Qj ?_;refine Qx rfl rfl (λK A=>?_);go_simp;refine A _ _ (Xy.refl _ _).drew ?_;refine Qh (Qu rfl (Qm ?_));go_wp2;go_ret;exact⟨rfl,(Xy.refl _ _).drew⟩
theorem KF[bn:Ib]{base:Nat}{w:AC}{g p n s:Nat}{sv lv wv:AM}{L:Gi}{d:Qr}(h:Zd base w g p sv lv L)(k:Qo base w p n s wv d)(j:base<=w.heap.size) :
  DJ Tryz.prog 62 #[.pointer (AF ⟨g,0,AI⟩)] w (Vh base w p (foot p n s wv) d.sync (.int .i64 0)):=by
 have i:=Qq h.blk 0;simp at i;have m:=SS k j;go_enter Tryz.func62,Tryz.ntmps62;go_wp2_with(go_at_call 114;refine m.mono ?_;rintro e o ⟨rfl,f⟩);go_ret;exact⟨rfl,f⟩
def Ke (L:Gi):Nat:=match L.segs.getLast? with|none=>0|some s=>s.size
def Jk (L:Gi)(size:Int):Bool:=match L.segs.getLast? with | none=>true | some s=>!s.headed || (!s.whole || decide (L.size<=size))
theorem Un{l:List Nc}(h:l≠[]):∃(k:Nat) (s:Nc),l.length=k+1/\l[k]?=AF s/\l.getLast?=AF s:=by
 rcases List.eq_nil_or_concat l with rfl|⟨i,s,rfl⟩
 ·exact absurd rfl h
 ·exact⟨i.length,s,by simp,by simp,by simp⟩
theorem Am[bn:Ib]{base:Nat}{w:AC}{g p:Nat}{sv lv:AM}{L:Gi}(h:Zd base w g p sv lv L) :
  DJ Tryz.prog 165 #[.pointer (AF ⟨g,0,AI⟩)] w λe w'=>e=.returned (.int .i64 (Ke L))/\Xy No w w':=by
 obtain⟨ao,cap,rfl,A,j⟩:=h.segs.form;have B:=Qq h.blk 2;simp at B;by_cases f:L.segs=[]
 ·have N:L.segs.length=0:=by rw[f];rfl
  have e:Ke L=0:=by unfold Ke;rw[f];rfl
  rw[e];clear f e;go_enter Tryz.func165,Tryz.ntmps165;go_wp2;go_ret;exact⟨rfl,Xy.refl _ _⟩
 ·obtain⟨k,s,F,z,C⟩:=Un f;have e:Ke L=s.size:=by unfold Ke;rw[C]
  rw[e];obtain⟨r,rfl,_,_,_,J,_,_⟩:=h.segs.cell z;unfold BH at j;generalize L.segs.length=m at *;have o:(m:Int)=(k:Int)+1:=by omega
  have G:(m:Int)<=9223372036854775807:=by omega
  have D:¬((m:Int)=0):=by omega
  have O:IntKind.i64.wrap ((m:Int)-1)=(k:Int):=by rw[o];rw[show((k:Int)+1-1)=(k:Int)by omega];exact EM _ (by omega)
  have H:(k:Int)<(m:Int):=by omega
  clear f e C z F A j o;go_enter Tryz.func165,Tryz.ntmps165;go_wp2_with fail;refine Ql (λw'=>Xy No w w') [0,1,2,3,4,5,6,7,8] [9,10,11,12] [13] (by kernel_rfl) (by kernel_rfl) (λ_ _ _ _ _ h=>h) (Xy.refl _ _).drew ?_;have kd:Xy No w w.drew:=(Xy.refl _ _).drew;iterate 9(refine Qk (v:=?_) rfl rfl rfl ?_ ?_;rotate_left;focus(
   intro w' I;have E:=I.cell B id;go_simp
   try with_reducible rfl))
  refine Qj ?_;refine Qx rfl rfl (λK i=>?_);go_simp;refine i _ _ kd ?_;clear i K;iterate 3(refine Qx rfl rfl (λK i=>?_);have M:=kd.cell J id;go_simp;refine i _ _ kd ?_;clear i K)
  refine Qh (Qu rfl (Qm ?_));go_wp2;go_ret;exact⟨rfl,kd⟩
theorem Ec[bn:Ib]{base:Nat}{w:AC}{g p:Nat}{sv lv:AM}{L:Gi}(h:Zd base w g p sv lv L)(z:Int) :
  DJ Tryz.prog 164 #[.pointer (AF ⟨g,0,AI⟩),.int .i64 z] w λe w'=>e=.returned (.bool (Jk L z))/\w'=w:=by
 obtain⟨ao,cap,rfl,C,j⟩:=h.segs.form;have H:=Qq h.blk 1;have I:=Qq h.blk 2;simp at H I;by_cases f:L.segs=[]
 ·have Q:L.segs.length=0:=by rw[f];rfl
  have e:Jk L z=true:=by unfold Jk;rw[f];rfl
  rw[e];clear f e;go_enter Tryz.func164,Tryz.ntmps164;go_wp2;go_ret;exact⟨rfl,rfl⟩
 ·obtain⟨k,s,K,A,F⟩:=Un f;have e:Jk L z=(!s.headed || (!s.whole || decide (L.size<=z))):=by unfold Jk;rw[F]
  rw[e];obtain⟨r,rfl,_,_,_,_,S,T⟩:=h.segs.cell A;unfold BH at j;generalize L.segs.length=m at *;have o:(m:Int)=(k:Int)+1:=by omega
  have M:(m:Int)<=9223372036854775807:=by omega
  have B:¬((m:Int)=0):=by omega
  have R:IntKind.i64.wrap ((m:Int)-1)=(k:Int):=by rw[o];rw[show((k:Int)+1-1)=(k:Int)by omega];exact EM _ (by omega)
  have N:(k:Int)<(m:Int):=by omega
  have O:(m:Int)-1=(k:Int):=by omega
  clear f e F A K C j o;generalize s.headed=J at *;generalize s.whole=P at *;cases J with
  | false =>
   go_enter Tryz.func164,Tryz.ntmps164;go_wp2;go_ret;exact⟨rfl,rfl⟩
  | true =>
   cases P with
   | false =>
    go_enter Tryz.func164,Tryz.ntmps164;go_wp2;go_ret;exact⟨rfl,rfl⟩
   | true =>
    by_cases E:L.size<=z
    ·rw[decide_eq_true E];go_enter Tryz.func164,Tryz.ntmps164;go_wp2;go_ret;exact⟨rfl,rfl⟩
    ·have i:decide (L.size<=z)=false:=decide_eq_false E;rw[i];have G:=BX i;clear E i;go_enter Tryz.func164,Tryz.ntmps164;go_wp2;go_ret;refine⟨?_,rfl⟩;have D:((m:Int)==0)=false:=by simpa using B
     simp[G.out,D]
theorem N2[bn:Ib]{base:Nat}{w:AC}{g p:Nat}{sv lv:AM}{L:Gi}(h:Zd base w g p sv lv L)(P:L.next<=9223372036854775807)(Q:L.recs.length<=L.next){i:Nat}{b:Qs}(hi:L.recs[i]?=AF b)(W:b.length<=35184372088832) :
  DJ Tryz.prog 106 #[.pointer (AF ⟨g,0,AI⟩),.int .u64 (L.next-L.recs.length+i:Nat)] w λe w'=>∃T,e=.returned (.tuple #[T,.int .i64 0])/\Kr w' w.heap.size T b/\Xy No w w':=by
 obtain⟨ao,cap,rfl,H,E⟩:=h.recs.form;have M:=Qq h.blk 3;have O:=Qq h.blk 4;simp at M O;obtain⟨r,off,u,rfl,X,R⟩:=h.recs.cell hi;have G:=(BK.1 hi).1;have F:=λ(w':AC) (k:Xy No w w')=>Em (h.no k) P Q;have z:=λ(w':AC) (k:Xy No w w')=>Ju (R.no k) W;obtain⟨f,A⟩:∃f,L.next-L.recs.length=f:=⟨_,rfl⟩;rw[A]at F⊢;generalize L.recs.length=m at *;generalize L.next=x at *;obtain⟨n,B⟩:∃n,f+i=n:=⟨_,rfl⟩;rw[B];have h1:¬((n:Int)<(f:Int)):=by omega
 have h2:¬((x:Int)<=(n:Int)):=by omega
 have h3:(i:Int)<(m:Int):=by omega
 have hw:IntKind.u64.wrap ((n:Int)-(f:Int))=(i:Int):=by rw[EC _ (by omega) (by omega)];omega
 have J:=BX F;have U:=BX z;clear F z H E P Q hi G A B R h;go_enter Tryz.func106,Tryz.ntmps106;go_wp2_with(go_at_call 104;refine(J.out _ (Xy.refl _ _)).mono ?_;rintro e I ⟨rfl,o⟩;have D:=o.cell M id;have V:=o.cell O id);refine Ql (λw'=>Xy No I w') [0,1,2,3,4,5] [6,7,8,9,10] [11,12] (by kernel_rfl) (by kernel_rfl) (λ_ _ _ _ _ h=>h) (Xy.refl _ _).drew ?_;have kd:Xy No I I.drew:=(Xy.refl _ _).drew;iterate 6(refine Qk (v:=?_) rfl rfl rfl ?_ ?_;rotate_left;focus(
  intro w' Z;have N:=Z.cell D id;go_simp
  try with_reducible rfl))
 refine Qj ?_;refine Qx rfl rfl (λK j=>?_);go_simp;refine(J.out _ (o.then kd)).mono ?_;rintro e w2⟨rfl,k2⟩;have kd:=kd.then k2;refine j _ _ kd ?_;clear j K;have Y:=(o.then kd).cell X id;iterate 3(refine Qx rfl rfl (λK j=>?_);go_simp;refine j _ _ kd ?_;clear j K)
 refine Qx rfl rfl (λK j=>?_);go_simp;refine(U.out _ (o.then kd)).mono ?_;rintro e w3⟨v3,rfl,C,S⟩;refine j _ _ (kd.then S) ?_;clear j K;refine Qh (Qu rfl (Qu rfl (Qm ?_)));go_wp2;go_ret2;exact⟨_,rfl,C.mono (o.then kd).size,(o.then kd).then S⟩
theorem Addr.add_add(a:EK)(m n:Nat):(a.add m).add n=a.add (m+n):=by
 unfold Addr.add;by_cases f:m=0
 ·subst f;simp
 ·by_cases h:n=0
  ·subst h;simp[f]
  ·simp[f,h,Nat.add_assoc]
theorem Db[bn:Ib]{base:Nat}{w:AC}{ao:Option EK}{n cap lo hi:Nat}{l:Qs}(h:Qv base w (.slice ao n cap) l)(H:lo<=hi)(I:hi<=n) :
  Qv base w (sliced ao lo hi cap 1) ((l.take hi).drop lo):=by
 obtain⟨C,o,B,J,K,D,E⟩:=h;simp only[DB]at B;obtain⟨rfl,rfl,rfl⟩:=B;have A:((l.take hi).drop lo).length=hi-lo:=by simp;omega
 unfold sliced;by_cases z:cap=lo
 ·rw[if_pos z];refine⟨ao,cap-lo,by rw[A],by omega,by omega,λ_=>by omega,λi x f=>?_⟩;have:=(BK.1 f).1;omega
 ·rw[if_neg z];cases ao with
  | none=>exact absurd (D rfl) (by omega)
  | some m =>
   refine⟨AF (m.add (lo*1)),cap-lo,by rw[A];rfl,by omega,by omega,λh=>(by cases h),λi x f=>?_⟩;have G:=(BK.1 f).1;rw[List.getElem?_drop,BI,if_pos (by omega)]at f;obtain⟨j,e,F,k⟩:=E (lo+i) x f;obtain rfl:m=j:=by simpa using e
   refine⟨_,rfl,by rw[Addr.block_add];exact F,?_⟩;rw[Addr.add_add,Nat.mul_one];exact k
theorem Ch:Tryz.prog.underlying 59=AF (.slice (Tryz.prog.elem 59)):=by kernel_rfl
theorem Ce(w:AC):(sizeOf (Tryz.prog.elem 59)).run Tryz.prog w=.ok 1 w:=by kernel_rfl
theorem Ub[bn:Ib](ao:Option EK)(n cap lo hi:Nat)(L H:Int)(k:L=lo)(j:H=hi)(f:lo<=hi)(i:hi<=n)(m:n<=cap) :
  ∃o c,(∀w,(EN 59 (.slice ao n cap) (AF (.int .i64 L)) (AF (.int .i64 H)) AI).run Tryz.prog w=.ok (.slice o (hi-lo) c) w) /\
   ∀base w l,Qv base w (.slice ao n cap) l->Qv base w (.slice o (hi-lo) c) ((l.take hi).drop lo):=by
 refine⟨_,_,λw=>?_,λbase w l h=>Db h f i⟩;subst k j;rw[run_slice_lh w 59 ao n cap Ch .i64 .i64 _ _ (by omega) (by omega) (by omega),EO,EO,Ce];rfl
theorem Rg[bn:Ib](ao:Option EK)(n cap lo:Nat)(L:Int)(j:L=lo)(i:lo<=n)(f:n<=cap) :
  ∃o c,(∀w,(EN 59 (.slice ao n cap) (AF (.int .i64 L)) AI AI).run Tryz.prog w=.ok (.slice o (n-lo) c) w) /\
   ∀base w l,Qv base w (.slice ao n cap) l->Qv base w (.slice o (n-lo) c) ((l.take n).drop lo):=by
 refine⟨_,_,λw=>?_,λbase w l h=>Db h i (BE _)⟩;subst j;rw[run_slice_l w 59 ao n cap Ch .i64 _ (by omega) (by omega),EO,Ce];rfl
theorem Lq:(Tryz.prog.info? 59).map (λi=>(i.zero,i.size,i.bytes))=AF (AF (.slice AI 0 0),1,24):=by kernel_rfl
theorem RJ:(Tryz.prog.info? 265).map (λi=>(i.zero,i.size,i.bytes))=AF (AF (.agg #[.int .u64 0,.int .u64 0,.int .u64 0,.int .i64 0,.bool false,.bool false]),6,40):=by kernel_rfl
theorem Jr{w w':AC}{v:AM}(h:w.grownBy w' v.ownBlock):Xy (λb=>v.ownBlock=AF b) w w':=(Xy.refl _ _).grown h (λ_ e=>.inl e)
theorem Zp.foot[bn:Ib]{base:Nat}{w:AC}{v:AM}{l:List Qs}(h:Zp base w v l):Uz base w (λb=>v.ownBlock=AF b):=by intro b k;obtain⟨us,_,_,m⟩:=h;obtain⟨j,i,f⟩:=Qa m b k;exact⟨j,Qt f,λcs fr e=>by rw[f]at e;simp at e⟩
theorem Ff[bn:Ib]{base:Nat}{w:AC}{o:Oper}{a:Act}{K:Act->AC->Prop}{Q:Exit->Act->AC->Prop}(s x:Operand)(Z:o.op=.call {callee:=.builtin .append,args:=#[s,x],argTypes:=#[128,128]}){v:AM}{rs:List Qs}(h:Zp base w v rs)(hs:a.eval s=v){B:Nat}{u:AM}(U:w.heap[B]?=AF (.cells #[u] 59 (0,0)))(hx:a.eval x=.slice (AF ⟨B,0,AI⟩) 1 1){b:Qs}(O:Qv base w u b)(hl:rs.length<=1099511627776)(W:base<=w.heap.size)(V:∀M w',Zp base w' M (rs++[b])->Xy (λb=>v.ownBlock=AF b) w w'->(∀b,M.ownBlock=AF b->v.ownBlock=AF b\/w.heap.size<=b)->K (a.put o.dst M) w'):o.wp Tryz.prog a w K Q:=by
 have hF:=h.foot;obtain⟨us,R,S,T⟩:=h;obtain⟨i0,m,F,G,H⟩:=EP Lq;obtain⟨J,I,rfl⟩:=O.form;refine wp_append_lies w s x 128 Z base 59 i0 _ 1 24 Tryz.underlying128 m F G H rfl (by omega) v rs.length us hs T
  ⟨B,0,AI⟩ 1 1 [.slice J b.length I] hx rfl (EQ (cs:=#[.slice J b.length I]) (t:=59) (fr:=(0,0)) U) (by simp[ER]) (by omega) (by unfold BH;omega) (by omega) W w.heap.size rfl ?_
 intro g cap w' A X j Y;have k:=Jr X;refine V _ _ ⟨us++[.slice J b.length I],by simp[R],λi u' P f z=>?_,by simpa using A⟩ k (λc N=>?_)
 ·by_cases hi:i<us.length
  ·rw[DO hi]at f;rw[DO (by omega)]at z;exact(S i u' P f z).keep hF k
  ·rw[DP (by omega)]at f;rw[DP (by omega)]at z;have C:=BK.1 f;obtain⟨D,f⟩:=C;have m:i-us.length=0:=by simp at D;omega
   have E:i-rs.length=0:=by omega
   rw[E]at z;simp at z;simp only[m]at f;simp at f;subst f z;exact O.keep hF k
 ·simp[DK]at N;subst N;rcases j with j|rfl
  ·exact .inl j
  ·exact .inr (BE _)
theorem De[bn:Ib]{base:Nat}{w:AC}{o:Oper}{a:Act}{K:Act->AC->Prop}{Q:Exit->Act->AC->Prop}(s x:Operand)(W:o.op=.call {callee:=.builtin .append,args:=#[s,x],argTypes:=#[128,128]}){v:AM}{rs:List Qs}(h:Vi base w v rs)(X:a.eval s=v){B:Nat}{u:AM}(T:w.heap[B]?=AF (.cells #[u] 59 (0,0)))(Y:a.eval x=.slice (AF ⟨B,0,AI⟩) 1 1){b:Qs}(I:Qv base w u b)(hl:rs.length<=1099511627776)(V:base<=w.heap.size)(U:∀A w',Vi base w' A (rs++[b])->Xy (λb=>v.ownBlock=AF b) w w'->(∀b,A.ownBlock=AF b->v.ownBlock=AF b\/w.heap.size<=b)->K (a.put o.dst A) w'):o.wp Tryz.prog a w K Q:=by
 have hF:=h.foot;obtain⟨us,h1,h2,S⟩:=h;have E:=S;rcases S.2 with⟨rfl,h0⟩|⟨g,off,cap,aA,rfl,_⟩
 ·obtain rfl:rs=[]:=List.eq_nil_of_length_eq_zero h0;exact Ff s x W (rs:=[]) ⟨[],rfl,λi u b h=>by simp at h,World.ownsRow_nil _ _ _ _⟩ X T Y I hl V (λA w' Z a2 a3=>U A w' (Vi.of Z) a2 a3)
 ·obtain⟨i0,m,J,M,N⟩:=EP Lq;obtain⟨R,O,rfl⟩:=I.form;obtain⟨A,w',hr,C,hg,f⟩:=Br (P:=Tryz.prog) w base 128 o.type 59 i0 _ 24 Tryz.underlying128 m J M N rfl _ rs.length us E
   ⟨B,0,AI⟩ 1 1 [.slice R b.length O] rfl (EQ (cs:=#[.slice R b.length O]) (t:=59) (fr:=(0,0)) T) (by simp[ER]) (by unfold BH;omega) (by omega) V ⟨_,_,_,rfl⟩
  have k:=Jr hg;unfold Oper.wp execOp;simp only[W,resolve,invoke,builtin,Sem.run_bind,Sem.run_pure,Result.andThen_ok,List.map_toArray,List.map_cons,List.map_nil,X,Y,hr];refine U _ _ ⟨us++[.slice R b.length O],by simp[h1],λi u' b' j z=>?_,by simpa using C⟩ k (λc F=>?_)
  ·by_cases hi:i<us.length
   ·rw[DO hi]at j;rw[DO (by omega)]at z;exact(h2 i u' b' j z).keep hF k
   ·rw[DP (by omega)]at j;rw[DP (by omega)]at z;have D:=BK.1 j;obtain⟨G,j⟩:=D;have m:i-us.length=0:=by simp at G;omega
    have H:i-rs.length=0:=by omega
    rw[H]at z;simp at z;simp only[m]at j;simp at j;subst j z;exact I.keep hF k
  ·rcases f with f|f
   ·exact .inl (by rw[<- f];exact F)
   ·rw[f]at F;cases F;exact .inr (BE _)
theorem Mc{base:Nat}{w:AC}{o:Oper}{a:Act}{K:Act->AC->Prop}{Q:Exit->Act->AC->Prop}(s x:Operand)(I:o.op=.call {callee:=.builtin .append,args:=#[s,x],argTypes:=#[127,127]}){v:AM}{l:List Nc}(h:Jn base w v l)(J:a.eval s=v){B:Nat}{c:Nc}(D:w.heap[B]?=AF (.cells (Yy c).toArray 265 (0,0)))(M:a.eval x=.slice (AF ⟨B,0,AI⟩) 1 1)(O:l.length<=1099511627776)(F:base<=w.heap.size)(E:∀A w',Jn base w' A (l++[c])->Xy (λb=>v.ownBlock=AF b) w w'->(∀b,A.ownBlock=AF b->v.ownBlock=AF b\/w.heap.size<=b)->K (a.put o.dst A) w'):o.wp Tryz.prog a w K Q:=by
 obtain⟨N,j,k,m,z⟩:=EP RJ;refine wp_append_lies w s x 127 I base 265 N _ 6 40 Tryz.underlying127 j k m z rfl (by omega) v l.length (Yf l) J h
  ⟨B,0,AI⟩ 1 1 (Yy c) M rfl (EQ (cs:=(Yy c).toArray) (t:=265) (fr:=(0,0)) D) (by simp[Yy,ER]) (by omega) (by unfold BH;omega) (by omega) F w.heap.size rfl ?_
 intro g cap w' i G f H;refine E _ _ ?_ (Jr G) (λb C=>?_)
 ·unfold Jn;rw[Nb];simpa using i
 ·simp[DK]at C;subst C;rcases f with f|rfl
  ·exact .inl f
  ·exact .inr (BE _)
section
variable [bn:Ib]{base:Nat}{w:AC}{g:Nat}{sv lv:AM}{sg:List Nc}{rs:List Qs}
theorem Ut{cs f:Array AM}(h:w.heap[g]?=AF (.cells cs 130 (0,0)))(gb:base<=g)(C:Jn base w sv sg)(B:Vi base w lv rs)(i:Nat)(u:AM)(D:cs.setIfInBounds i u=f) :
  (w.setCell ⟨g,i,AI⟩ u).heap[g]?=AF (.cells f 130 (0,0))/\Jn base (w.setCell ⟨g,i,AI⟩ u) sv sg/\Vi base (w.setCell ⟨g,i,AI⟩ u) lv rs/\Xy (·=g) w (w.setCell ⟨g,i,AI⟩ u):=by
 have hF:Uz base w (·=g):=by rintro b rfl;exact⟨gb,Qt h,λcs fr e=>by rw[h]at e;simp at e⟩
 have z:Xy (·=g) w (w.setCell ⟨g,i,AI⟩ u):=Xy.setCell (F:=(·=g)) (Xy.refl _ _) (p:=⟨g,i,AI⟩) (.inl rfl) _;refine⟨by rw[Qz h,D],Yu C z (λb m o=>?_),B.keep hF z (λb m o=>?_),z⟩
 ·obtain⟨_,k,j⟩:=Qa C b m;rw[o,h]at j;simp at j
 ·obtain⟨us,_,_,A⟩:=B;obtain⟨_,k,j⟩:=Vf A b m;rw[o,h]at j;simp at j
end
end
end Go.Proofs.YtfdmbomlkpkegaaGreat
