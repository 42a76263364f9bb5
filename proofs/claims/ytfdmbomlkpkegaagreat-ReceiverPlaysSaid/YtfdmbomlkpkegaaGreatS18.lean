/- Lemmas. -/
import Derived.Test.YtfdmbomlkpkegaaGreatS4
import Derived.Test.YtfdmbomlkpkegaaGreatS17
set_option maxRecDepth 100000
set_option maxHeartbeats 8000000
set_option linter.all false
set_option autoImplicit true
set_option relaxedAutoImplicit true
open Go renaming Value->AM,World->AC,undef->LW,wraps_u64->EC,yielded->AW
open Go.Act renaming put->AQ
open Go.Lib renaming hid->BX
open Go.Region renaming wanted->AV
open Go.Value renaming ownBlock->DK,slice->DN
open List renaming append_assoc->B7,drop_left'->LY,drop_length->LZ,drop_take->LX,getElem?_eq_getElem->BY,getElem_mem->Ln,length_append->BO,length_map->D6,length_take->E9,take_add_one->E7,take_append_drop->FM,take_append_of_le_length->E2,take_length->BZ,take_of_length_le->DU
open Nat renaming le_refl->BE,le_trans->BF,mod_eq_of_lt->EI,zero_le->BW
open Option renaming none->AI,some->AF
namespace Go.Proofs.YtfdmbomlkpkegaaGreat
open Go Go.RowKit Go.Dr
def Xx (rs:List Qs):Qs:=(rs.map recB).flatten
theorem Lr(r:Qs)(rs:List Qs):Xx (r::rs)=recB r++Xx rs:=rfl
theorem Kn(a b:List Qs):Xx (a++b)=Xx a++Xx b:=by simp[Xx]
def U9 (t:Qs):Prop:=t.length<8\/(takeN (t.take 4)<=1048576/\t.length<8+takeN (t.take 4))
theorem Ww(r rest:Qs)(h:r.length<=1048576) :
  8+r.length<=(recB r++rest).length/\takeN ((recB r++rest).take 4)=r.length/\(recB r++rest).take 4=layB r.length 4/\takeN (((recB r++rest).take 8).drop 4)=moreN (moreN 0 (layB r.length 4)) r /\
   ((recB r++rest).take (8+r.length)).drop 8=r/\((recB r++rest).take (recB r++rest).length).drop (8+r.length)=rest:=by
 have d:(recB r++rest).take 4=layB r.length 4:=by unfold recB;rw[B7,E2 (by simp[Zu]),DU (by simp[Zu])]
 have g:((recB r++rest).take 8).drop 4=layB (moreN 0 (layB r.length 4++r)) 4:=by unfold recB;rw[LX,B7,LY (by rw[Zu]),B7,E2 (by simp[Zu]),DU (by simp[Zu])]
 have f:∀x:Qs,(recB r++x).drop 8=r++x:=λx=>by
  unfold recB;rw[<- B7,B7,LY (by simp[Zu])]
 refine⟨by rw[BO,Zl];omega,?_,d,?_,?_,?_⟩
 ·rw[d,Uf];exact EI (by omega)
 ·rw[g,Uf,Py];exact EI (by have:=Kc 0 (layB r.length 4++r);omega)
 ·rw[LX,f,show 8+r.length-8=r.length by omega,E2 (BE _),DU (BE _)]
 ·rw[DU (BE _),<- List.drop_drop,f,LY rfl]
theorem Zd.pushed[bn:Ib](h:Zd base w g p n lv L)(k:Xy (λb=>lv.ownBlock=AF b) w j)(q:Vi base j B rs) :
  j.heap[g]?=AF (.cells #[.pointer (AF ⟨p,0,AI⟩),.int .i64 L.size,n,lv,.int .u64 L.next] 130 (0,0))/\Jn base j n L.segs:=by
 obtain⟨us,_,_,d⟩:=h.recs;refine⟨k.heap h.blk (λe=>?_),Yu h.segs k (λb z A=>?_)⟩
 ·obtain⟨_,m,i⟩:=Vf d g e;rw[h.blk]at i;simp at i
 ·obtain⟨_,m,i⟩:=Vf d b A;obtain⟨_,o,f⟩:=Qa h.segs b z;rw[i]at f;simp at f
def U6 [bn:Ib](base:Nat)(w:AC)(g p:Nat)(f lv:AM)(L:Gi)(rs:List Qs)(tail:Qs)(pv:AM)(wr:AC):Prop :=
 ∃(j:Nat) (d:AM),j<=rs.length/\Qv base wr pv (Xx (rs.drop j)++tail)/\Zd base wr g p f d {L with recs:=L.recs++rs.take j,next:=L.next+j}/\Xy (Yg g f lv) w wr /\
  ∀b,d.ownBlock=AF b->lv.ownBlock=AF b\/w.heap.size<=b
def YC [bn:Ib](base:Nat)(w:AC)(g p:Nat)(h lv:AM)(L:Gi)(rs:List Qs)(tail:Qs)(e:Ending)(f:AC):Prop :=
 ∃i d,e=.returned (.tuple #[i,.int .i64 0])/\Qv base f i tail/\Zd base f g p h d {L with recs:=L.recs++rs,next:=L.next+rs.length}/\Xy (Yg g h lv) w f /\
  ∀b,d.ownBlock=AF b->lv.ownBlock=AF b\/w.heap.size<=b
theorem U6.post[bn:Ib](n:j=rs.length)(h:Qv base wr pv (Xx (rs.drop j)++tail))(i:Zd base wr g p f d {L with recs:=L.recs++rs.take j,next:=L.next+j})(k:Xy (Yg g f lv) w wr)(m:∀b,d.ownBlock=AF b->lv.ownBlock=AF b\/w.heap.size<=b) :
  YC base w g p f lv L rs tail (.returned (.tuple #[pv,.int .i64 0])) wr:=by
 subst n;rw[LZ]at h;rw[BZ]at i;exact⟨pv,d,rfl,h,i,k,m⟩
theorem Ip[bn:Ib](h:Zd base w g p sv lv L)(hb:base<=w.heap.size)(hT:ban.top<=w.heap.size)(hp:Qv base w pv (Xx rs++tail))(hr:∀r∈rs,r.length<=1048576)(ht:U9 tail)(hn:L.next+rs.length<=9223372036854775807)(hl:L.recs.length+rs.length<=1099511627776)(hz:(Xx rs++tail).length<=1099511627776) :
  Calls Tryz.prog 155 #[.pointer (AF ⟨g,0,AI⟩),pv] w (YC base w g p sv lv L rs tail):=by
 have B:U6 base w g p sv lv L rs tail pv w:=⟨0,lv,BW _,by simpa using hp,by simpa using h,Xy.refl _ _,λb e=>.inl e⟩;obtain⟨ao,cap,rfl⟩:=hp.form;have HN:=BX (A5 hn hl hb hT hz);clear h hb hT hp hn hl hz;generalize Z:(Xx rs++tail).length=len at *;have U:=BX Z;clear Z;go_enter Tryz.func155,Tryz.ntmps155;go_wp2;go_loopw [1] (λpv wr=>U6 base w g p sv lv L rs tail pv wr) (λpv _=>match pv with|.slice _ n _=>n|_=>0);case atStart=>exact B
 case round =>
  clear B;obtain⟨bF,aY⟩:∃x,x=u1:=⟨_,rfl⟩;rw[<- aY]at hrel⊢;obtain⟨j,bP,hj,V,hL,i,hO⟩:=hrel;clear aY;by_cases C:j<rs.length
  ·have ad:rs[j]?=AF rs[j]:=BY C;have af:=hr _ (Ln C);have aI:rs.drop j=rs[j]::rs.drop (j+1):=List.drop_eq_getElem_cons C;have al:rs.take (j+1)=rs.take j++[rs[j]]:=by rw[E7,ad];rfl
   generalize rs[j]=r at *;rw[aI,Lr,B7]at V;obtain⟨q1,q2,q3,q4,q5,q6⟩:=Ww r (Xx (rs.drop (j+1))++tail) af;generalize z:Xx (rs.drop (j+1))++tail=rest at *;have au:=BX z;have bE:(recB r++rest).length<=1099511627776:=by
    have h1:=U.out;have h2:=HN.out.re;have h3:Xx rs=Xx (rs.take j)++Xx (rs.drop j):=by rw[<- Kn,FM]
    rw[h3,aI,Lr,B7,B7,z,BO]at h1;omega
   clear z;have aV:j+1<=rs.length:=C;generalize recB r++rest=l1 at *;have f:=V;obtain⟨po,O,rfl⟩:=V.form;have R:l1.length<=O/\O<=maxLen:=by obtain⟨_,_,hq,h1,h2,_⟩:=f;simp at hq;omega
   unfold maxLen at R;obtain⟨A,aX⟩:=R;have b4:=f.take 4 (by omega);have N:=Fy b4 (by rw[E9];omega);rw[q2]at N;obtain⟨o1,c1,aC,aD⟩:=Ub po l1.length O 8 (8+r.length) 8 (8+(r.length:Int)) rfl (by omega) (by omega) q1 A;have bq:=aD _ _ _ f;rw[q5]at bq;rw[show 8+r.length-8=r.length by omega]at bq aC;obtain⟨o2,c2,aq,aE⟩:=Ub po l1.length O 4 8 4 8 rfl rfl (by omega) (by omega) A;have b8:=aE _ _ _ f;have aL:=λ(E:AC) (k:Xy No wr E)=>Fy (b8.no k) (by simp;omega);rw[q4]at aL;have J:=λ(E:AC) (k:Xy No wr E)=>Ow (b4.no k);rw[q3]at J;have ag:=Kc 0 (layB r.length 4);generalize moreN 0 (layB r.length 4)=s1 at *;have H:=λ(E:AC) (k:Xy No wr E)=>Wc (bq.no k) s1 ag;have bB:=Kc s1 r;generalize moreN s1 r=s2 at *;have d:=λ(E:AC) (k:Xy No wr E)=>Ju (bq.no k) (by omega);obtain⟨o3,c3,bH,aF⟩:=Rg po l1.length O (8+r.length) (8+(r.length:Int)) (by omega) q1 A;have br:=aF _ _ _ f;rw[q6]at br;have ah:IntKind.u64.wrap (s2:Int)=(s2:Int):=EC _ (by omega) (by omega);have ax:(8:Int)<=(l1.length:Int):=by omega
   have az:¬((1048576:Int)<(r.length:Int)):=by omega
   have ac:(r.length:Int)<=1099511627776:=by omega
   have ae:¬((l1.length:Int)-8<(r.length:Int)):=by omega
   have bG:(l1.length:Int)<=1099511627776:=by omega
   have G:(4:Int)<=(O:Int):=by omega
   have HT:=BX (A4 aL J H d);have HB:=BX (A2 br hO);have HQ:=BX (A3 aV al q1);clear aL J H d br hO ag bB q1 q2 q3 q4 q5 q6 aD aE aF b4 b8 bq V f aV al aI ad af C hj A aX bE;generalize l1.length=m at *;generalize r.length=n at *;go_wp2_with(go_at_call 154;refine N.mono ?_;rintro e w1 ⟨rfl,rfl⟩);refine Ql (λE=>Xy No w1 E) [0,1,3,4,6] [2,5,7,8,9] [] (by kernel_rfl) (by kernel_rfl) (λ_ _ _ _ _ h=>h) (Xy.refl _ _).drew ?_;have kd:Xy No w1 w1.drew:=(Xy.refl _ _).drew;iterate 5(refine Qk (v:=?_) rfl rfl rfl ?_ ?_;rotate_left;focus(
    intro E hq;go_simp
    try with_reducible rfl))
   refine Qj ?_;refine Qx rfl rfl (λK i=>?_);go_simp;refine(HT.out.1 _ kd).mono ?_;rintro e w2⟨rfl,rfl⟩;refine i _ _ kd ?_;clear i K;refine Qx rfl rfl (λK i=>?_);go_simp;refine(HT.out.2.1 _ kd).mono ?_;rintro e w2⟨rfl,k2⟩;have kd:=kd.then k2;refine i _ _ kd ?_;clear i K;refine Qx rfl rfl (λK i=>?_);go_simp;refine(HT.out.qc _ kd).mono ?_;rintro e w3⟨rfl,k3⟩;have kd:=kd.then k3;refine i _ _ kd ?_;clear i K;iterate 2(refine Qx rfl rfl (λK i=>?_);go_simp;refine i _ _ kd ?_;clear i K)
   refine Qh (Qm ?_);go_upto_region 10 with fail;have o:=hL.no kd;have d:=HT.out.2.2.2;have aH:(L.recs++rs.take j).length<=1099511627776:=by have:=HQ.out.1;have:=HN.out.2.1;simp;omega
   have aJ:L.next+j+1<=9223372036854775807:=by have:=HQ.out.1;have:=HN.out.1;omega
   generalize aR:L.recs++rs.take j=dn at o aH;generalize aW:L.next+j=nx at o aJ;obtain⟨lo,lc,rfl,aT,aU⟩:=o.recs.form;have d3:=Qq o.blk 3;simp at d3;have ay:¬(DN lo dn.length lc).ownBlock=AF g:=λe=>by
    obtain⟨us,_,_,bA⟩:=o.recs;obtain⟨_,bI,hz⟩:=Vf bA g e;rw[o.blk]at hz;simp at hz
   have aS:=i.then kd;have aG:=BX (A3 aR aW aJ);have F:=BX (A2 aS aH);clear hL i HT N aC aq ah az ac ae ax aR aS aH G aT aU aW aJ;generalize aw:dn.length=dm at *;refine Ql (λE=>Xy (λb=>(DN lo dm lc).ownBlock=AF b) w3 E) [0,1,2,3,4,5] [6,7,8] [9,10,11] (by kernel_rfl) (by kernel_rfl) (λ_ _ _ _ _ h=>h) (Xy.refl _ _).drew ?_;have T:Xy No w3 w3.drew:=(Xy.refl _ _).drew;iterate 6(refine Qk (v:=?_) rfl rfl rfl ?_ ?_;rotate_left;focus(
    intro E hq;have bJ:=hq.cell d3 ay;go_simp
    try with_reducible rfl))
   refine Qj ?_;refine Qx rfl rfl (λK i=>?_);go_simp;refine(d _ (kd.then T)).mono ?_;rintro e w4⟨v4,rfl,M,k4⟩;have an:=M.bytes (base:=base) (λ_=>BF HN.out.qd (F.out.1.then T).size);obtain⟨o4,c4,rfl⟩:=M.form;have aK:=T.then k4;refine i _ _ aK.no ?_;clear i K;refine Qx rfl rfl (λK i=>?_);go_simp;have kA:Xy No w4 (w4.alloc (.cells #[.slice o4 r.length c4] 59)):=(Xy.refl _ _).alloc _;have D:=aK.then kA;have aP:=Qy w4 (.cells #[.slice o4 r.length c4] 59);have ap:=an.no kA;refine i _ _ D.no ?_;clear i K;have P:=o.no D;refine Qx rfl rfl (λK i=>?_);refine De _ _ rfl P.recs rfl aP rfl ap (by show dn.length<=_;rw[aw];exact F.out.2) (BF HN.out.qc (F.out.1.then D).size) ?_;intro v6 w6 S k6 aB;have kS:Xy (λb=>(DN lo dm lc).ownBlock=AF b) w3 w6:=D.no.trans k6 (λ_ _ e=>e);refine i _ _ kS ?_;clear i K;refine Qh (Qu rfl (Qu rfl (Qu rfl (Qm ?_))));obtain⟨Q,ai⟩:=P.pushed k6 S;obtain⟨a6,c6,rfl,_,_⟩:=S.form;have aA:=(F.out.1.then D).size;have gb:=P.gb;generalize (dn++[r]).length=x6 at *;have f3:=Qg Q 3;have e3:=Qq Q 3;simp at e3;obtain⟨q,aj,aZ,k7⟩:=Ut Q gb ai S 3 (.slice a6 x6 c6) rfl;have W:Xy (Yg g sv (.slice lo dm lc)) w3 w6:=kS.mono (λ_ _ e=>.inr (.inr e));have X:Xy (Yg g sv (.slice lo dm lc)) w3 (w6.setCell ⟨g,3,AI⟩ (.slice a6 x6 c6)):=W.trans k7 (λ_ _ e=>.inl e);have aO:=o.foot;have aN:=HB.out.1.no kd;have HX:=BX (A7 aB aA aj aZ X aO aN);have ar:=BX q;clear kS k6 k7 W X ai S P aP ap an M D aK k4 kA d o aB aA aj aZ aO aN q T d3;go_upto_region 11 with fail;have q:=ar.out;generalize w6.setCell ⟨g,3,AI⟩ (.slice a6 x6 c6)=w7 at *;clear Q f3 e3;have d4:=Qq q 4;have f4:=Qg q 4;simp at d4;have bO:IntKind.u64.wrap ((nx:Int)+1)=((nx+1:Nat):Int):=by have:=aG.out.2.2;rw[EC _ (by omega) (by omega)];omega
   obtain⟨aQ,ak,ab,k8⟩:=Ut q gb HX.out.qc HX.out.qd 4 (.int .u64 (nx+1:Nat)) rfl;have H8:=BX (A4 aQ ak ab k8);clear aQ ak ab k8 q;go_wp2;go_roundw;case rel =>
    have Y:Xy (Yg g sv (.slice lo dm lc)) w3 _:=HX.out.2.2.2.2.1.trans H8.out.2.2.2 (λ_ _ e=>.inl e);have e1:L.recs++rs.take (j+1)=dn++[r]:=by rw[HQ.out.2.1,<- B7,aG.out.1]
    have e2:L.next+(j+1)=nx+1:=by have:=aG.out.2.1;omega
    refine⟨j+1,.slice a6 x6 c6,HQ.out.1,?_,?_,?_,?_⟩
    ·rw[au.out];exact HX.out.2.2.2.2.2.2.keep HX.out.qf Y
    ·rw[e1,e2];exact⟨H8.out.1,H8.out.2.1,H8.out.qc,gb⟩
    ·refine F.out.1.trans Y (λx hx e=>?_);rcases e with e|e|e
     ·exact .inl e
     ·exact .inr (.inl e)
     ·rcases HB.out.2 x e with h|h
      ·exact .inr (.inr h)
      ·omega
    ·intro b hb;rcases HX.out.1 b hb with h|h
     ·exact HB.out.2 b h
     ·exact .inr (BF HX.out.2.1 h)
   case measure =>have:=HQ.out.2.2;simp;omega
  ·obtain rfl:j=rs.length:=by omega
   have I:=U6.post (tail:=tail) rfl V hL i hO;have f:Qv base wr bF tail:=by rw[LZ]at V;exact V
   have am:tail.length<=1099511627776:=by have h1:=U.out;have h2:=HN.out.re;rw[BO]at h1;omega
   obtain⟨po,O,rfl⟩:=f.form;have aM:=BX I;clear I V hL i hO C hj hr;by_cases h8:tail.length<8
   ·clear ht f;have av:¬((8:Int)<=(tail.length:Int)):=by omega
    generalize tail.length=m at *;clear h8 am;go_wp2;go_ret2;exact aM.out
   ·rcases ht with ht|⟨bC,bD⟩
    ·exact absurd ht h8
    ·have R:tail.length<=O/\O<=maxLen:=by obtain⟨_,_,hq,h1,h2,_⟩:=f;simp at hq;omega
     have b4:=f.take 4 (by omega);have N:=Fy b4 (by rw[E9];omega);generalize takeN (tail.take 4)=n at *;have G:(4:Int)<=(O:Int):=by omega
     generalize tail.length=m at *;have av:(8:Int)<=(m:Int):=by omega
     have bK:(m:Int)<=1099511627776:=by omega
     have bL:¬((1048576:Int)<(n:Int)):=by omega
     have bM:(n:Int)<=1099511627776:=by omega
     have bN:(m:Int)-8<(n:Int):=by omega
     clear bC bD h8 am b4 f R;go_wp2_with(go_at_call 154;refine N.mono ?_;rintro e w1 ⟨rfl,rfl⟩);go_ret2;exact aM.out
structure Jh where
 n:Int
 first:Nat
 headed:Bool
 recs:List Qs
 tail:Qs
def Jh.bytes (s:Jh):Qs:=if s.headed then Xt s.first++(Xx s.recs++s.tail)else s.tail
def Jh.view (s:Jh):Nc:={n:=s.n,first:=if s.headed then s.first else 0,count:=s.recs.length,size:=s.bytes.length,whole:=s.headed&&s.tail.isEmpty,headed:=s.headed}
structure Jh.Ok (s:Jh):Prop where
 head:s.headed=true->1<=s.first/\s.first<4611686018427387904/\(∀r∈s.recs,r.length<=1048576)/\U9 s.tail
 bare:s.headed=false->s.recs=[]/\s.tail.length<12
def Gi.add (L:Gi)(s:Jh):Gi:={L with segs:=L.segs++[s.view],recs:=L.recs++s.recs,next:=if s.headed then s.first+s.recs.length else L.next}
def ZL [bn:Ib](base:Nat)(w:AC)(g p:Nat)(h lv:AM)(L:Gi)(e:Ending)(i:AC):Prop :=
 e=.returned (.int .i64 0)/\∃f d,Zd base i g p f d L/\Xy (Yg g h lv) w i/\∀b,Yg g f d b->Yg g h lv b\/w.heap.size<=b
theorem Zd.pushedSeg[bn:Ib](h:Zd base w g p i lv L)(k:Xy (λb=>i.ownBlock=AF b) w j)(_:Jn base j B l) :
  j.heap[g]?=AF (.cells #[.pointer (AF ⟨p,0,AI⟩),.int .i64 L.size,i,lv,.int .u64 L.next] 130 (0,0))/\Vi base j lv L.recs:=by
 have hF:Uz base w (λb=>i.ownBlock=AF b):=λb A=>h.foot b (.inr (.inl A));obtain⟨us,_,_,n⟩:=h.recs;refine⟨k.heap h.blk (λe=>?_),h.recs.keep hF k (λb q z=>?_)⟩
 ·obtain⟨_,m,f⟩:=Qa h.segs g e;rw[h.blk]at f;simp at f
 ·obtain⟨_,m,f⟩:=Qa h.segs b z;obtain⟨_,o,d⟩:=Vf n b q;rw[f]at d;simp at d
theorem Zd.not_seg[bn:Ib](h:Zd base w g p f lv L):¬f.ownBlock=AF g:=λe=>by
 obtain⟨_,i,d⟩:=Qa h.segs g e
 rw[h.blk]at d;simp at d
theorem KP[bn:Ib](h:Zd base w g p sv lv L)(j:base<=w.heap.size)(hp:Qv base w pv s.bytes)(ho:s.Ok)(S:s.headed=false)(hl:L.segs.length<=1000000) :
  Calls Tryz.prog 102 #[.pointer (AF ⟨g,0,AI⟩),.int .u64 s.n,pv] w (ZL base w g p sv lv (L.add s)):=by
 obtain⟨hr,ht⟩:=ho.bare S;have H:s.bytes=s.tail:=by unfold Jh.bytes;rw[S];rfl
 have J:s.view={n:=s.n,first:=0,count:=0,size:=s.tail.length,whole:=false,headed:=false}:=by unfold Jh.view;rw[S,hr,H];rfl
 have A:L.add s={L with segs:=L.segs++[s.view]}:=by unfold Gi.add;rw[S,hr];simp
 rw[A];rw[H]at hp;obtain⟨po,pc,rfl⟩:=hp.form;have aI:(s.tail.length:Int)<12:=by omega
 obtain⟨z,D⟩:∃c,c=s.view:=⟨_,rfl⟩;rw[<- D]at J⊢;have kA:Xy No w (w.alloc (.cells #[.int .u64 s.n,.int .u64 0,.int .u64 0,.int .i64 s.tail.length,.bool false,.bool false] 265)):=(Xy.refl _ _).alloc _;have d:=Qy w (.cells #[.int .u64 s.n,.int .u64 0,.int .u64 0,.int .i64 s.tail.length,.bool false,.bool false] 265);have i:Yy z=[.int .u64 s.n,.int .u64 0,.int .u64 0,.int .i64 s.tail.length,.bool false,.bool false]:=by rw[J];rfl
 have O:=h.no kA;have f:¬sv.ownBlock=AF w.heap.size:=λe=>by have:=h.lt _ (.inr (.inl e));omega
 have M:=BX (A4 j i hl kA);clear kA;clear J D A H hr ht hp ho S h j i hl;generalize s.tail.length=m at *;obtain⟨so,sc,rfl,_,_⟩:=O.segs.form;go_enter Tryz.func102,Tryz.ntmps102;go_upto_region 3 with fail;generalize aJ:w.alloc (.cells #[.int .u64 s.n,.int .u64 0,.int .u64 0,.int .i64 m,.bool false,.bool false] 265)=N at *;have d2:=Qq O.blk 2;simp at d2;have b0:=Qq d 0;have b1:=Qq d 1;have b2:=Qq d 2;have b3:=Qq d 3;have b4:=Qq d 4;have b5:=Qq d 5;simp at b0 b1 b2 b3 b4 b5;have aA:=O.not_seg;refine Ql (λw'=>Xy (λb=>(DN so L.segs.length sc).ownBlock=AF b) N w') [0,1,2,3,4,5] [6,7] [8,9,10] (by kernel_rfl) (by kernel_rfl) (λ_ _ _ _ _ h=>h) (Xy.refl _ _).drew ?_;iterate 6(refine Qk (v:=?_) rfl rfl rfl ?_ ?_;rotate_left;focus(
  intro w' I;have aH:=I.cell d2 aA;have aB:=I.cell b0 f;have aC:=I.cell b1 f;have aD:=I.cell b2 f;have aE:=I.cell b3 f;have aF:=I.cell b4 f;have aG:=I.cell b5 f;go_simp
  try with_reducible rfl))
 refine Qj ?_;have kd:Xy No N (N.alloc (.cells #[.int .u64 s.n,.int .u64 0,.int .u64 0,.int .i64 m,.bool false,.bool false] 265)).drew:=((Xy.refl _ _).alloc _).drew;have Q:=Qy N (.cells #[.int .u64 s.n,.int .u64 0,.int .u64 0,.int .i64 m,.bool false,.bool false] 265);refine Qx rfl rfl (λK P=>?_);go_simp;refine P _ _ kd.no ?_;clear P K;have k:=O.no kd;refine Qx rfl rfl (λK P=>?_);refine Mc (c:=z) _ _ rfl k.segs rfl (B:=N.heap.size) (by rw[M.out.2.1];exact Q) rfl (by have:=M.out.qc;omega) (BF M.out.1 (M.out.2.2.2.then kd).size) ?_;intro v6 w6 q k6 E;have kS:Xy (λb=>(DN so L.segs.length sc).ownBlock=AF b) N w6:=kd.no.trans k6 (λ_ _ e=>e);refine P _ _ kS ?_;clear P K;refine Qh (Qu rfl (Qu rfl (Qu rfl (Qm ?_))));obtain⟨o,T⟩:=k.pushedSeg k6 q;obtain⟨Y,Z,rfl,_,_⟩:=q.form;have gb:=k.gb;have W:=(M.out.2.2.2.then kd).size;generalize (L.segs++[z]).length=x6 at *;have f2:=Qg o 2;have e2:=Qq o 2;simp at e2;obtain⟨R,V,U,k7⟩:=Ut o gb q T 2 (.slice Y x6 Z) rfl;have C:Zd base (w6.setCell ⟨g,2,AI⟩ (.slice Y x6 Z)) g p (.slice Y x6 Z) lv {L with segs:=L.segs++[z]}:=⟨R,V,U,gb⟩;have hk:=((M.out.2.2.2.no (F:=Yg g (.slice so L.segs.length sc) lv)).trans (kS.mono (G:=Yg g (.slice so L.segs.length sc) lv) (λ_ _ e=>.inr (.inl e))) (λ_ _ e=>e)).trans k7 (λ_ _ e=>.inl e);have X:=BX (A4 C hk E W);clear C hk E W R V U k7 o q T kS k6 k Q kd O d d2 b0 b1 b2 b3 b4 b5;go_wp2;go_ret;refine⟨rfl,.slice Y x6 Z,lv,X.out.1,X.out.2.1,λb j=>?_⟩;rcases j with j|j|j
 ·exact .inl (.inl j)
 ·rcases X.out.qc b j with h|h
  ·exact .inl (.inr (.inl h))
  ·exact .inr (BF X.out.2.2.2 h)
 ·exact .inl (.inr (.inr j))
theorem K0(n:Nat):Rf (Xt n)=(layB n 8,0):=by
 have d:=Zr n;unfold Rf;rw[if_neg (by omega),d];have e:(Xt n).take (12-4)=layB n 8:=by unfold Xt Ye;rw[E2 (by simp[Zu]),DU (by simp[Zu])]
 rw[e,if_pos (by simp[Xt])]
theorem Bw{base:Nat}{w:AC}{B:Nat}{cs:Array AM}(h:w.heap[B]?=AF (.cells cs 265 (0,0)))(d:base<=B):Uz base w (·=B):=by rintro b rfl;exact⟨d,Qt h,λcs fr e=>by rw[h]at e;simp at e⟩
theorem KW[bn:Ib](h:Zd base w g p sv lv L)(D:base<=w.heap.size)(hT:ban.top<=w.heap.size)(hp:Qv base w pv s.bytes)(ho:s.Ok)(hd:s.headed=true)(az:L.next=0\/s.first=L.next)(hl:L.segs.length<=1000000)(bD:L.recs.length+s.recs.length<=1000000)(hz:s.bytes.length<=1099511627776) :
  Calls Tryz.prog 102 #[.pointer (AF ⟨g,0,AI⟩),.int .u64 s.n,pv] w (ZL base w g p sv lv (L.add s)):=by
 obtain⟨bL,bM,hr,ht⟩:=ho.head hd;have T:s.bytes=Xt s.first++(Xx s.recs++s.tail):=by unfold Jh.bytes;rw[hd];rfl
 have ab:s.view={n:=s.n,first:=s.first,count:=s.recs.length,size:=s.bytes.length,whole:=s.tail.isEmpty,headed:=true}:=by unfold Jh.view;rw[hd];simp
 have aH:L.add s={L with segs:=L.segs++[s.view],recs:=L.recs++s.recs,next:=s.first+s.recs.length}:=by unfold Gi.add;rw[hd];rfl
 rw[aH];obtain⟨aG,aO⟩:∃c,c=s.view:=⟨_,rfl⟩;rw[<- aO]at ab⊢;obtain⟨wh,bH⟩:∃wh,(((s.tail.length:Nat):Int)==0)=wh:=⟨_,rfl⟩;have A:Yy aG=[.int .u64 s.n,.int .u64 s.first,.int .u64 s.recs.length,.int .i64 s.bytes.length,.bool wh,.bool true]:=by
  rw[ab,<- bH];have:s.tail.isEmpty=(((s.tail.length:Nat):Int)==0):=by
   cases s.tail with
   | nil=>rfl
   | cons x t=>simp;omega
  simp only[Yy,this]
 have aF:=hp;obtain⟨po,pc,rfl⟩:=hp.form;have bA:s.bytes.length<=pc:=by obtain⟨_,_,f,h1,h2,_⟩:=aF;simp at f;omega
 have aT:12<=s.bytes.length:=by rw[T,BO,Zr];omega
 have bh:=aF.take 12 aT;have eh:s.bytes.take 12=Xt s.first:=by rw[T,E2 (by rw[Zr];exact BE _),DU (by rw[Zr];exact BE _)]
 rw[eh]at bh;obtain⟨o1,c1,aQ,aR⟩:=Rg po s.bytes.length pc 12 12 rfl aT bA;have br:=aR _ _ _ aF;have er:(s.bytes.take s.bytes.length).drop 12=Xx s.recs++s.tail:=by rw[DU (BE _),T,LY (Zr _)]
 rw[er]at br;have av:(Xx s.recs++s.tail).length<=1099511627776:=by rw[T,BO]at hz;omega
 have aL:s.bytes.length-12=(Xx s.recs++s.tail).length:=by rw[T,BO,Zr];omega
 rw[aL]at br aQ;have kA:Xy No w (w.alloc (.cells #[.int .u64 s.n,.int .u64 0,.int .u64 0,.int .i64 s.bytes.length,.bool false,.bool false] 265)):=(Xy.refl _ _).alloc _;have aI:=Qy w (.cells #[.int .u64 s.n,.int .u64 0,.int .u64 0,.int .i64 s.bytes.length,.bool false,.bool false] 265);have h1:=h.no kA;have ay:∀b,Yg g sv lv b->b≠w.heap.size:=λb D e=>by have:=h.lt b D;omega
 have aY:=λ(z:AC) (k:Xy No w z)=>KE (bh.no k) (BF hT k.size) (by rw[Zr];omega);rw[K0]at aY;have aw:¬((s.bytes.length:Int)<12):=by omega
 have bB:(12:Int)<=(pc:Int):=by omega
 have q:=BX (A11 D A hl kA hT bD hr ht br av ay);have HF:=BX (A2 bL bM);clear ab aO aH T hr ht hp ho hd h D A hl kA aF aT bh eh er av aL bD hz hT br bA aR ay;generalize s.bytes.length=m at *;generalize ax:(Xx s.recs++s.tail).length=ml at *;have ae:=BX ax;clear ax;go_enter Tryz.func102,Tryz.ntmps102;go_upto_region 5 with fail;generalize bX:w.alloc (.cells #[.int .u64 s.n,.int .u64 0,.int .u64 0,.int .i64 m,.bool false,.bool false] 265)=w1 at *;have aM:=aY w1 q.out.qd;clear aY;go_upto_region 8 with(go_at_call 153;refine aM.mono ?_;rintro e w2 ⟨v2,rfl,H,k2⟩);have aX:(layB s.first 8).length=8:=Zu _ _;have H:Kr w2 w1.heap.size v2 (layB s.first 8):=H;obtain⟨o2,c2,rfl⟩:=H.form;have aZ:=H.bytes (base:=base) (λ_=>BF q.out.qe q.out.2.2.2.1.size);rw[aX]at aZ⊢;have ad:=Fy aZ (by rw[aX];decide);rw[Uf,EI (by have:=HF.out.2;omega)]at ad;have j:=k2.heap aI id;have h2:=h1.no k2;have e1:=Qq j 1;have f1:=Qg j 1;have e5:=Qq j 5;have f5:=Qg j 5;simp at e1 e5;have aW:=q.out.2.2.2.1.then k2;clear aM H aZ aX h1 aI;go_upto_region 9 with(go_at_call 154;refine ad.mono ?_;rintro e w3 ⟨rfl,rfl⟩);have N:=Qz (i:=5) (u:=.bool true) (Qz (i:=1) (u:=.int .u64 s.first) j);have aU:=Bw j q.out.1;have k4:Xy (·=w.heap.size) w3 ((w3.setCell ⟨w.heap.size,1,AI⟩ (.int .u64 s.first)).setCell ⟨w.heap.size,5,AI⟩ (.bool true)) :=
  Xy.setCell (F:=(·=w.heap.size)) (Xy.setCell (F:=(·=w.heap.size)) (Xy.refl _ _) (p:=⟨w.heap.size,1,AI⟩) (.inl rfl) _) (p:=⟨w.heap.size,5,AI⟩) (.inl rfl) _
 have h4:=h2.keep aU k4 q.out.rk;have ag:=(q.out.2.2.2.2.2.2.2.2.1.no aW).keep aU k4;have ap:Xy No w ((w3.setCell ⟨w.heap.size,1,AI⟩ (.int .u64 s.first)).setCell ⟨w.heap.size,5,AI⟩ (.bool true)):=aW.absorb k4 (λb e=>by rw[e];exact BE _);generalize ((w3.setCell ⟨w.heap.size,1,AI⟩ (.int .u64 s.first)).setCell ⟨w.heap.size,5,AI⟩ (.bool true))=w4 at *;have H4:=BX (A4 N h4 ag ap);have E:=Qq h4.blk 4;have C:=Qq N 1;simp at E C;clear N aU k4 h4 ag ap aW h2 j e1 f1 e5 f5 ad;go_cut [63] (λv wx=>v=.bool false/\Xy No w4 wx);case first =>
  have bU:decide ((s.first:Int)<1)=false:=decide_eq_false (by have:=HF.out.1;omega);have bV:decide ((4611686018427387904:Int)<=(s.first:Int))=false:=decide_eq_false (by have:=HF.out.2;omega);have bW:decide (0<s.first)=true:=decide_eq_true (by have:=HF.out.1;omega);rcases az with h0|h0
  ·rw[h0]at E;refine Ql (λz=>Xy No w4 z) [0,1,2,3,4,5,6,7,8,9,10,11,12,13,14,15,16,17,18,19,20,21,22,23] [] [] (by kernel_rfl) (by kernel_rfl) (λ_ _ _ _ _ h=>h) (Xy.refl _ _).drew ?_;iterate 4(refine Qk (v:=?_) rfl rfl rfl ?_ ?_;rotate_left;focus(
    intro z f;have S:=f.cell E id;have J:=f.cell C id;go_simp
    try with_reducible rfl))
   iterate 3(refine Qe (v:=?_) rfl rfl (by first|kernel_rfl|simp[AV,AW,AQ,LW]) ?_ ?_;rotate_left;focus(
    intro z f;have S:=f.cell E id;have J:=f.cell C id;go_simp
    try with_reducible rfl))
   iterate 2(refine Qk (v:=?_) rfl rfl rfl ?_ ?_;rotate_left;focus(
    intro z f;go_simp
    try with_reducible rfl))
   iterate 6(refine Qe (v:=?_) rfl rfl (by first|kernel_rfl|simp[AV,AW,AQ,LW]) ?_ ?_;rotate_left;focus(
    intro z f;have S:=f.cell E id;have J:=f.cell C id;go_simp
    try with_reducible rfl))
   iterate 7(refine Sh rfl rfl (by first|kernel_rfl|simp[AV,AW,AQ,LW]) ?_)
   iterate 1(refine Qe (v:=?_) rfl rfl (by first|kernel_rfl|simp[AV,AW,AQ,LW]) ?_ ?_;rotate_left;focus(
    intro z f;go_simp
    try with_reducible rfl))
   iterate 1(refine Qk (v:=?_) rfl rfl rfl ?_ ?_;rotate_left;focus(
    intro z f;go_simp
    try with_reducible rfl))
   refine Qj ?_;refine Qh (Qm ?_);go_simp;go_wp2;go_meet;exact⟨rfl,(Xy.refl _ _).drew⟩
  ·rw[<- h0]at E;clear h0;refine Ql (λz=>Xy No w4 z) [0,1,2,3,4,5,6,7,8,9,10,11,12,13,14,15,16,17,18,19,20,21,22,23] [] [] (by kernel_rfl) (by kernel_rfl) (λ_ _ _ _ _ h=>h) (Xy.refl _ _).drew ?_;iterate 4(refine Qk (v:=?_) rfl rfl rfl ?_ ?_;rotate_left;focus(
    intro z f;have S:=f.cell E id;have J:=f.cell C id;go_simp
    try with_reducible rfl))
   iterate 3(refine Qe (v:=?_) rfl rfl (by first|kernel_rfl|simp[AV,AW,AQ,LW]) ?_ ?_;rotate_left;focus(
    intro z f;have S:=f.cell E id;have J:=f.cell C id;go_simp
    try with_reducible rfl))
   iterate 2(refine Qk (v:=?_) rfl rfl rfl ?_ ?_;rotate_left;focus(
    intro z f;go_simp
    try with_reducible rfl))
   iterate 13(refine Qe (v:=?_) rfl rfl (by first|kernel_rfl|simp[AV,AW,AQ,LW]) ?_ ?_;rotate_left;focus(
    intro z f;have S:=f.cell E id;have J:=f.cell C id;go_simp
    try with_reducible rfl))
   iterate 1(refine Qe (v:=?_) rfl rfl (by first|kernel_rfl|simp[AV,AW,AQ,LW]) ?_ ?_;rotate_left;focus(
    intro z f;go_simp
    try with_reducible rfl))
   iterate 1(refine Qk (v:=?_) rfl rfl rfl ?_ ?_;rotate_left;focus(
    intro z f;go_simp
    try with_reducible rfl))
   refine Qj ?_;refine Qh (Qm ?_);go_simp;go_wp2;go_meet;exact⟨rfl,(Xy.refl _ _).drew⟩
 case rest =>
  obtain⟨rfl,k5⟩:=hcut;generalize wc=w5 at *;have O:=k5.heap H4.out.1 id;have h5:=H4.out.2.1.no k5;have ah:=H4.out.2.2.1.no k5;have aq:=H4.out.2.2.2.then k5;have C:=Qq O 1;have E:=Qq h5.blk 4;have f4:=Qg h5.blk 4;simp at C E;obtain⟨M,P,aB,k6⟩:=Ut h5.blk h5.gb h5.segs h5.recs 4 (.int .u64 s.first) rfl;have h6:Zd base (w5.setCell ⟨g,4,AI⟩ (.int .u64 s.first)) g p sv lv {L with next:=s.first}:=⟨M,P,aB,h5.gb⟩;have R:Xy (Yg g sv lv) w5 (w5.setCell ⟨g,4,AI⟩ (.int .u64 s.first)):=k6.mono (λ_ _ e=>.inl e);have ai:=ah.keep h5.foot R;have Z:=R.heap O (λe=>q.out.rk _ e rfl);have ar:=(aq.no (F:=Yg g sv lv)).trans R (λ_ _ e=>e);have H6:=BX (A4 h6 ai Z ar);clear h6 ai Z ar R k6 M P aB aq ah h5 O k5 H4;go_upto_region 12 with fail;generalize w5.setCell ⟨g,4,AI⟩ (.int .u64 s.first)=w6 at *;clear E f4 C;have aN:=Ip H6.out.1 (BF q.out.1 H6.out.2.2.2.size) (BF q.out.qe H6.out.2.2.2.size) H6.out.2.1 q.out.qg q.out.qh (by have:=HF.out.2;have:=q.out.qf;show s.first+s.recs.length<=_;omega) (by have:=q.out.qf;show L.recs.length+s.recs.length<=_;omega) (by rw[ae.out];exact q.out.qj);go_upto_region 15 with(go_at_call 155;refine aN.mono ?_;rintro e w7 ⟨v7,bI,rfl,aj,h7,k7,I⟩;obtain⟨o7,c7,rfl⟩:=aj.form);have o:=k7.heap H6.out.qc (λe=>q.out.rk _ e rfl);have au:=H6.out.2.2.2.trans k7 (λ_ _ e=>e);have bN:IntKind.u64.wrap (((s.first+s.recs.length:Nat):Int)-(s.first:Int))=(s.recs.length:Int):=by have:=HF.out.2;have:=q.out.qf;rw[EC _ (by omega) (by omega)];omega
  have E:=Qq h7.blk 4;simp only[List.getElem?_toArray]at E;have E:w7.cell? ⟨g,4,AI⟩=AF (.int .u64 (s.first+s.recs.length:Nat)):=E;generalize s.first+s.recs.length=x7 at *;have C:=Qq o 1;have b4:=Qq o 4;simp at C b4;have kd:Xy No w7 w7.drew:=(Xy.refl _ _).drew;have aV:=kd.heap o id;have e2:=Qq aV 2;have f2:=Qg aV 2;simp at e2;have HX:=BX (A3 h7 I au);have aE:¬g=w.heap.size:=λe=>q.out.rk g (.inl rfl) e;clear h7 I au aj k7 aN;refine Ql (λz=>Xy (·=w.heap.size) w7 z/\z.cell? ⟨w.heap.size,1,AI⟩=AF (.int .u64 s.first)) [0,1,2,3,4,5,7,8,9] [6,10,11] [12,13] (by kernel_rfl) (by kernel_rfl) (λ_ _ _ _ _ h=>h) ⟨kd.no,kd.cell C id⟩ ?_;iterate 6(refine Qk (v:=?_) rfl rfl rfl ?_ ?_;rotate_left;focus(
   intro z f;have S:=f.1.cell E aE;have J:=f.2;go_simp
   try with_reducible rfl))
  iterate 3(refine Qk (v:=?_) rfl rfl rfl ?_ ?_;rotate_left;focus(
   intro z f;go_simp
   try with_reducible rfl))
  refine Qj ?_;refine Qx rfl rfl (λK Q=>?_);go_simp;refine Q _ _ ⟨kd.no,kd.cell C id⟩ ?_;clear Q K;refine Qx rfl rfl (λK Q=>?_);go_simp;refine Q _ _ ⟨kd.no,kd.cell C id⟩ ?_;clear Q K;refine Qx rfl rfl (λK Q=>?_);go_simp;have Y:=Qz (i:=2) (u:=.int .u64 s.recs.length) o;have k8:Xy (·=w.heap.size) w7 (w7.setCell ⟨w.heap.size,2,AI⟩ (.int .u64 s.recs.length)).drew:=(Xy.setCell (F:=(·=w.heap.size)) (Xy.refl _ _) (p:=⟨w.heap.size,2,AI⟩) (.inl rfl) _).drew;have aS:=Qq Y 1;simp at aS;refine Q _ _ ⟨k8,aS⟩ ?_;clear Q K;refine Qh (Qu rfl (Qu rfl (Qm ?_)));have ao:=Qz (i:=4) (u:=.bool wh) Y;have k9:Xy (·=w.heap.size) w7 ((w7.setCell ⟨w.heap.size,2,AI⟩ (.int .u64 s.recs.length)).setCell ⟨w.heap.size,4,AI⟩ (.bool wh)) :=
   Xy.setCell (F:=(·=w.heap.size)) (Xy.setCell (F:=(·=w.heap.size)) (Xy.refl _ _) (p:=⟨w.heap.size,2,AI⟩) (.inl rfl) _) (p:=⟨w.heap.size,4,AI⟩) (.inl rfl) _
  have af:=Qq Y 4;have bK:=Qg Y 4;simp at af;have H9:=BX (A2 ao k9);clear ao k9 k8 aS aV e2 f2 kd C b4 E;go_upto_region 16 with fail;have aA:((w7.setCell ⟨w.heap.size,2,AI⟩ (.int .u64 s.recs.length)).setCell ⟨w.heap.size,4,AI⟩ (.bool wh)).heap[w.heap.size]?=AF (.cells #[.int .u64 s.n,.int .u64 s.first,.int .u64 s.recs.length,.int .i64 m,.bool wh,.bool true] 265 (0,0)):=by have:=H9.out.1;simpa using this
  have k9:=H9.out.2;clear af bK Y;generalize (w7.setCell ⟨w.heap.size,2,AI⟩ (.int .u64 s.recs.length)).setCell ⟨w.heap.size,4,AI⟩ (.bool wh)=w9 at *;have ac:Xy No w9 w9.drew:=(Xy.refl _ _).drew;have d:=ac.heap aA id;have ak:base<=w.heap.size:=q.out.1;have al:=Bw o ak;have X:=k9.then ac;have W:=HX.out.1.keep al X (λb D e=>by
   rcases D with D|D|D
   ·exact aE (D.symm.trans e)
   ·exact q.out.rk b (.inr (.inl D)) e
   ·rcases HX.out.2.1 b D with h|h
    ·exact q.out.rk b (.inr (.inr h)) e
    ·have:=H6.out.qc;have:=Qt this
     omega)
  have aK:=HX.out.2.2.trans X (λx hx e=>by omega);have U:¬sv.ownBlock=AF w.heap.size:=λe=>q.out.rk _ (.inr (.inl e)) rfl;have hl:=q.out.qc;have A:=q.out.2.1;have I:=HX.out.2.1;have bG:=H6.out.2.2.2.size;obtain⟨so,sc,rfl,_,_⟩:=W.segs.form;have HY:=BX (A5 I bG aK hl A);clear I bG aK hl A al ak HX H6 H9 k9 ac aA o X bN ae aQ aw bB bH az;generalize w9.drew=V at *;have d2:=Qq W.blk 2;simp at d2;have b0:=Qq d 0;have C:=Qq d 1;have b2:=Qq d 2;have b3:=Qq d 3;have b4:=Qq d 4;have b5:=Qq d 5;simp at b0 C b2 b3 b4 b5;have aE:=W.not_seg;refine Ql (λz=>Xy (λb=>(DN so L.segs.length sc).ownBlock=AF b) V z) [0,1,2,3,4,5] [6,7] [8,9,10] (by kernel_rfl) (by kernel_rfl) (λ_ _ _ _ _ h=>h) (Xy.refl _ _).drew ?_;iterate 6(refine Qk (v:=?_) rfl rfl rfl ?_ ?_;rotate_left;focus(
   intro z f;have bT:=f.cell d2 aE;have bO:=f.cell b0 U;have J:=f.cell C U;have bP:=f.cell b2 U;have bQ:=f.cell b3 U;have bR:=f.cell b4 U;have bS:=f.cell b5 U;go_simp
   try with_reducible rfl))
  refine Qj ?_;have kd:Xy No V (V.alloc (.cells #[.int .u64 s.n,.int .u64 s.first,.int .u64 s.recs.length,.int .i64 m,.bool wh,.bool true] 265)).drew:=((Xy.refl _ _).alloc _).drew;have am:=Qy V (.cells #[.int .u64 s.n,.int .u64 s.first,.int .u64 s.recs.length,.int .i64 m,.bool wh,.bool true] 265);refine Qx rfl rfl (λK Q=>?_);go_simp;refine Q _ _ kd.no ?_;clear Q K;have aD:=W.no kd;refine Qx rfl rfl (λK Q=>?_);refine Mc (c:=aG) _ _ rfl aD.segs rfl (B:=V.heap.size) (by rw[HY.out.re];exact am) rfl (by show L.segs.length<=_;have:=HY.out.qd;omega) (BF q.out.1 (HY.out.2.2.1.then kd).size) ?_;intro v6 bJ P k6 aP;have kS:Xy (λb=>(DN so L.segs.length sc).ownBlock=AF b) V bJ:=kd.no.trans k6 (λ_ _ e=>e);refine Q _ _ kS ?_;clear Q K;refine Qh (Qu rfl (Qu rfl (Qu rfl (Qm ?_))));obtain⟨M,aB⟩:=aD.pushedSeg k6 P;obtain⟨a6,c6,rfl,_,_⟩:=P.form;have gb:=aD.gb;have bF:=(HY.out.2.2.1.then kd).size;generalize (L.segs++[aG]).length=x6 at *;have f2:=Qg M 2;have e2:=Qq M 2;simp at e2;obtain⟨an,bE,bC,k7⟩:=Ut M gb P aB 2 (.slice a6 x6 c6) rfl;have aJ:Zd base (bJ.setCell ⟨g,2,AI⟩ (.slice a6 x6 c6)) g p (.slice a6 x6 c6) bI {L with segs:=L.segs++[aG],recs:=L.recs++s.recs,next:=x7}:=⟨an,bE,bC,gb⟩;have hk:=(HY.out.2.2.1.trans (kS.mono (G:=Yg g (.slice so L.segs.length sc) lv) (λ_ _ e=>.inr (.inl e))) (λ_ _ e=>e)).trans k7 (λ_ _ e=>.inl e);have aC:=BX (A4 aJ hk aP bF);clear aJ hk aP bF an bE bC k7 M P aB kS k6 aD am kd W d d2 b0 C b2 b3 b4 b5;go_wp2;go_ret;refine⟨rfl,.slice a6 x6 c6,bI,aC.out.1,aC.out.2.1,λb D=>?_⟩;rcases D with D|D|D
  ·exact .inl (.inl D)
  ·rcases aC.out.qc b D with h|h
   ·exact .inl (.inr (.inl h))
   ·exact .inr (BF aC.out.2.2.2 h)
  ·rcases HY.out.1 b D with h|h
   ·exact .inl (.inr (.inr h))
   ·exact .inr (BF HY.out.2.1 h)
def Zz (x:Nat)(ss:List Jh):Nat:=ss.foldl (λx s=>if s.headed then s.first+s.recs.length else x) x
def Qw (ss:List Jh):List Qs:=(ss.map (·.recs)).flatten
def Kv (size:Int)(ss:List Jh):Gi:={size:=size,segs:=ss.map Jh.view,recs:=Qw ss,next:=Zz 0 ss}
theorem Xp(a b:List Jh):Qw (a++b)=Qw a++Qw b:=by simp[Qw]
theorem Ky(x:Nat)(a b:List Jh):Zz x (a++b)=Zz (Zz x a) b:=by simp[Zz]
theorem RN(size:Int)(ss:List Jh)(s:Jh):(Kv size ss).add s=Kv size (ss++[s]):=by unfold Kv Gi.add;rw[Xp,Ky];simp[Qw,Zz]
structure MV (d:Qr)(ss:List Jh):Prop where
 keys:Yk d.now=ss.map (·.n)
 bytes:∀s∈ss,Uu d.now s.n=AF s.bytes
 ok:∀s∈ss,s.Ok
 chain:∀(i:Nat) s,ss[i]?=AF s->s.headed=true->Zz 0 (ss.take i)=0\/s.first=Zz 0 (ss.take i)
 few:ss.length<=10000
 recs:(Qw ss).length<=1000000
 sum:msum d.now<=1099511627776
def S3 [bn:Ib](base:Nat)(w:AC)(g p n s:Nat)(wv h:AM)(size:Int)(d:Qr)(ss:List Jh)(j:Nat)(wr:AC):Prop :=
 ∃f lv,Zd base wr g p f lv (Kv size (ss.take j))/\Xy No w wr/\(∀b,Yg g f lv b->w.heap.size<=b)/\Kh wr h (ss.map (·.n))/\Qo base wr p n s wv d
theorem Zd.nums[bn:Ib](h:Zd base w g p j lv L)(A:Kh w v l)(k:Xy (Yg g j lv) w m):Kh m v l:=by
 obtain⟨ao,cap,rfl,o,q,f⟩:=A;refine⟨ao,cap,rfl,o,q,?_⟩;rcases f with f|⟨r,rfl,f⟩
 ·exact .inl f
 ·refine .inr ⟨r,rfl,f.keep k (λz=>?_)⟩;obtain⟨cs,B,_⟩:=f;obtain⟨_,n,t,d,i⟩:=h.kind z;rw[B]at d;simp at d;obtain⟨_,rfl⟩:=d;rcases i with i|i|i<;>simp at i
def MN [bn:Ib](base:Nat)(w:AC)(p n s:Nat)(wv:AM)(d:Qr)(L:Gi)(e:Ending)(f:AC):Prop :=
 ∃g h lv,e=.returned (.tuple #[.pointer (AF ⟨g,0,AI⟩),.int .i64 0])/\Zd base f g p h lv L/\Qo base f p n s wv d/\Xy No w f/\∀b,Yg g h lv b->w.heap.size<=b
theorem KD[bn:Ib]{base:Nat}{w:AC}{p n s:Nat}{wv:AM}{d:Qr}{ss:List Jh}(h:Qo base w p n s wv d)(q:base<=w.heap.size)(hT:ban.top<=w.heap.size)(W:MV d ss){size:Int}(hz:1<=size) :
  Calls Tryz.prog 54 #[.pointer (AF ⟨p,0,AI⟩),.int .i64 size] w (MN base w p n s wv d {Kv size ss with next:=max (Zz 0 ss) 1}):=by
 have aM:¬(size<1):=by omega
 have kA:Xy No w (w.alloc (.cells #[.pointer (AF ⟨p,0,AI⟩),.int .i64 size,.slice AI 0 0,.slice AI 0 0,.int .u64 0] 130)):=(Xy.refl _ _).alloc _;have N:Zd base (w.alloc (.cells #[.pointer (AF ⟨p,0,AI⟩),.int .i64 size,.slice AI 0 0,.slice AI 0 0,.int .u64 0] 130)) w.heap.size p (.slice AI 0 0) (.slice AI 0 0) (Kv size []) :=
  ⟨Qy w _,World.ownsRow_nil _ _ _ _,Vi.nil _ _,q⟩
 have E:=h.no kA;have R:=V2 E (by have:=W.few;have:=congrArg List.length W.keys;rw[Pc,D6]at this;omega);rw[W.keys]at R;have C:=BX (A6 E N kA q hT W);clear h E N kA q hT W hz;go_enter Tryz.func54,Tryz.ntmps54;go_upto_block 1 with(go_at_call 83;refine R.mono ?_;rintro e w1 ⟨kv,rfl,B,k1⟩;obtain⟨ko,kc,rfl,aH,aI⟩:=B.form);have hO:S3 base w w.heap.size p n s wv (.slice ko (ss.map (·.n)).length kc) size d ss 0 w1 :=
  ⟨.slice AI 0 0,.slice AI 0 0,C.out.2.1.no k1,C.out.2.2.1.then k1,λb q=>by rcases q with rfl|q|q;exact BE _;simp[DK]at q;simp[DK]at q,B,C.out.1.no k1⟩
 have M:(ss.map (λs:Jh=>s.n)).length=ss.length:=D6 _;rw[M]at hO;clear B aH aI M R k1;go_cut [] (λwx=>S3 base w w.heap.size p n s wv (.slice ko ss.length kc) size d ss ss.length wx);case first =>
  go_wp2_with fail;have aL:(ss.length:Int)<=10000:=by have:=C.out.2.2.2.2.2.few;omega
  go_loopw [25] (λi wr=>∃j:Nat,j<=ss.length/\i=.int .i64 j/\S3 base w w.heap.size p n s wv (.slice ko ss.length kc) size d ss j wr) (λi _=>ss.length-(intOf i).toNat);case atStart=>exact⟨0,BW _,rfl,hO⟩
  case round =>
   clear hO;obtain⟨j,hj,rfl,sv,lv,g,G,L,B,F⟩:=hrel;by_cases z:j<ss.length
   ·have K:ss[j]?=AF ss[j]:=BY z;have m:=Ln z;have T:ss.take (j+1)=ss.take j++[ss[j]]:=by rw[E7,K];rfl
    generalize ss[j]=o at *;have Y:(ss.map (λs:Jh=>s.n))[j]?=AF o.n:=by simp[K]
    have aG:(j:Int)<(ss.length:Int):=by omega
    obtain⟨r,rfl,aF⟩:=B.cell Y;have f:=C.out.rf;have aA:=R4 F f.sum o.n;have A:d.read o.n=(o.bytes,0):=by unfold Qr.read;rw[f.bytes o m]
    rw[A]at aA;have V:o.bytes.length<=1099511627776:=by have E:=Hb d.now o.n;have h2:=f.sum;rw[f.bytes o m]at E;simp at E;omega
    have aB:(Qw (ss.take j)).length+o.recs.length<=1000000:=by
     have E:=f.recs;have h2:Qw ss=Qw (ss.take j)++(o.recs++Qw (ss.drop (j+1))):=by
      have h3:ss=ss.take j++(o::ss.drop (j+1)):=by
       conv=>lhs;rw[<- FM (j+1) ss,T,B7]
       rfl
      conv=>lhs;rw[h3]
      rw[Xp];rfl
     rw[h2]at E;simp at E;omega
    have S:(Kv size (ss.take j)).segs.length<=1000000:=by have:=f.few;simp[Kv];omega
    have Z:=λ(w':AC) (v:AM) (k:Xy No wr w') (hv:Qv base w' v o.bytes)=>show Calls Tryz.prog 102 #[.pointer (AF ⟨w.heap.size,0,AI⟩),.int .u64 o.n,v] w' (ZL base w' w.heap.size p sv lv (Kv size (ss.take (j+1))))from by
     rw[T,<- RN];have P:=G.then k;cases O:o.headed with
     | true=>exact KW (g.no k) (BF C.out.qd P.size) (BF C.out.qe P.size) hv (f.ok o m) O (f.chain j o K O) S aB V
     | false=>exact KP (g.no k) (BF C.out.qd P.size) hv (f.ok o m) O S
    have D:=BX (A7 Z g G L B F z);clear Z g G L B F Y K m T f A V aB S z hj;go_wp2_with(first
     | (go_at_call 102;refine(D.out.1 _ _ k2 aC).mono ?_;rintro e w3 ⟨rfl,Q⟩)
     | (go_at_call 81;refine aA.mono ?_;rintro e w2 ⟨v2,rfl,aC,_,k2⟩;obtain⟨o2,c2,rfl⟩:=aC.form))
    obtain⟨aK,aJ,aE,kS,aD⟩:=Q;go_roundw;case rel =>
     have X:=D.out.2.2.1.then k2;have U:=D.out.2.1.no k2;refine⟨j+1,by have:=D.out.rg;omega,by go_num,aK,aJ,aE,X.absorb kS D.out.qd,λb q=>?_,U.nums (D.out.2.2.2.2.1.no k2) kS,(D.out.2.2.2.2.2.1.no k2).byL U kS⟩;rcases aD b q with h|h
     ·exact D.out.qd b h
     ·exact BF X.size h
    case measure=>have:=D.out.rg;simp[intOf];omega
   ·have aG:¬(j:Int)<(ss.length:Int):=by omega
    obtain rfl:j=ss.length:=by omega
    clear z;go_wp2;go_meet;exact⟨sv,lv,g,G,L,B,F⟩
 case rest =>
  clear hO;obtain⟨sv,lv,g,G,L,B,F⟩:=hcut;rw[BZ]at g;generalize wc=w2 at *;have c4:=Qq g.blk 4;have f4:=Qg g.blk 4;simp at c4;have e:max ((Kv size ss).next:Int) 1=((max (Zz 0 ss) 1:Nat):Int):=by show max ((Zz 0 ss:Nat):Int) 1=_;omega
  obtain⟨H,J,I,k3⟩:=Ut g.blk g.gb g.segs g.recs 4 (.int .u64 (max ((Kv size ss).next:Int) 1)) rfl;have HR:=BX (A9 H J I k3 g G L F e);clear H J I k3 g G L B F e;go_wp2;go_ret2;obtain⟨H,J,I,k3,g,G,L,F,e⟩:=HR.out;refine⟨w.heap.size,sv,lv,rfl,⟨?_,J,I,C.out.qd⟩,F.byL g (k3.mono (λ_ _ e=>.inl e)),G.absorb k3 (λb e=>by rw[e];exact BE _),L⟩;rw[H];simp[e]
end Go.Proofs.YtfdmbomlkpkegaaGreat
