/- Lemmas for ReceiverNil. -/
import Derived.Test.YtfdmbomlkpkegaaGreatS22
import Derived.Test.YtfdmbomlkpkegaaGreatS10
import Derived.Test.YtfdmbomlkpkegaaGreatS23
set_option maxRecDepth 100000
set_option maxHeartbeats 8000000
set_option linter.all false
namespace Go.Proofs.YtfdmbomlkpkegaaGreat
open Go Go.RowKit
structure Good (j:Nat) (l:List Qf) (ss:List SegL):Prop where
 ok:∀ s∈ss,s.Ok
 pos:∀ s∈ss,1<=s.n/\s.n<=(j:Int)
 chain:∀ (i:Nat) s,ss[i]?=some s->s.headed=true->Zz 0 (ss.take i)=0\/s.first=Zz 0 (ss.take i)
 map:segs6 l=segMap ss
 next:max (Zz 0 ss) 1<=j+1
 recs:(Qw ss).length+1<=max (Zz 0 ss) 1
 len:l.length+ss.length<=2*j
 sum:wsum l<=1100*j
theorem Good.nil:Good 0 [] []:=⟨by simp,by simp,by simp,rfl,by decide,by decide,by decide,by decide⟩
theorem Good.mono {j k:Nat} {l:List Qf} {ss:List SegL} (h:Good j l ss) (hk:j<=k):Good k l ss :=
 ⟨h.ok,fun s hs=>by have:=h.pos s hs;omega,h.chain,h.map,by have:=h.next;omega,h.recs,by have:=h.len;omega,by have:=h.sum;omega⟩
theorem Good.sorted {j:Nat} {l:List Qf} {ss:List SegL} (h:Good j l ss):Kd (segMap ss):=by rw [<- h.map];exact Ve l
theorem Uy (ini:List SegL) (s:SegL):segMap (ini++[s])=segMap ini++[(s.n,s.bytes)]:=by simp [segMap]
theorem Good.below {j:Nat} {l:List Qf} {ini:List SegL} {sl:SegL} (h:Good j l (ini++[sl])):∀ e∈segMap ini,e.1<sl.n:=by
 have hs:=h.sorted
 rw [Uy] at hs
 unfold Kd at hs
 rw [List.pairwise_append] at hs
 exact fun e he=>hs.2.2 e he (sl.n,sl.bytes) (List.mem_singleton.2 rfl)
theorem Yh (ss:List SegL) (s:SegL):Zz 0 (ss++[s])=if s.headed then s.first+s.recs.length else Zz 0 ss:=by rw [Ky];rfl
theorem Yx (ss:List SegL) (s:SegL):Qw (ss++[s])=Qw ss++s.recs:=by rw [Xp];simp [Qw]
theorem Good.putNew {j:Nat} {l:List Qf} {ss:List SegL} (h:Good j l ss) (s:SegL) (hs:s.Ok) (hlt:∀ e∈segMap ss,e.1<s.n) (h1:1<=s.n) (h2:s.n<=(j:Int)+1)
  (hf:s.headed=true->s.first=max (Zz 0 ss) 1) (hr:s.recs.length<=1) (hb:s.bytes.length<=1100):Good (j+1) (l++[⟨s.n,s.bytes,false⟩]) (ss++[s]):=by
 have hn:=h.next
 have hrc:=h.recs
 refine ⟨fun t ht=>?_,fun t ht=>?_,fun i t ht hh=>?_,?_,?_,?_,?_,?_⟩
 ·rcases List.mem_append.1 ht with ht | ht
  ·exact h.ok t ht
  ·rw [List.mem_singleton.1 ht];exact hs
 ·rcases List.mem_append.1 ht with ht | ht
  ·have:=h.pos t ht;omega
  ·rw [List.mem_singleton.1 ht];omega
 ·rcases Jy ht with ht | ⟨rfl,rfl⟩
  ·have:=(List.getElem?_eq_some_iff.1 ht).1
   rw [Kt (by omega)]
   exact h.chain i t ht hh
  ·rw [Kt (Nat.le_refl _),List.take_length]
   have:=hf hh
   omega
 ·rw [Gv,h.map,step6_new s.bytes hlt,Uy]
 ·rw [Yh]
  cases hh:s.headed with
  | true=>have:=hf hh;simp only [if_true];omega
  | false=>simp only [Bool.false_eq_true,if_false];omega
 ·rw [Yh,Yx,List.length_append]
  cases hh:s.headed with
  | true=>have:=hf hh;simp only [if_true];omega
  | false=>rw [(hs.bare hh).1];simp only [Bool.false_eq_true,if_false,List.length_nil];omega
 ·have:=h.len;simp;omega
 ·rw [Um];have:=h.sum;dsimp only;omega
theorem Good.putLast {j:Nat} {l:List Qf} {ini:List SegL} {sl sl':SegL} {ex:List Qs} (p:Qs) (h:Good j l (ini++[sl])) (hs:sl'.Ok) (hn:sl'.n=sl.n) (hd:sl.headed=true) (hh:sl'.headed=true) (hf:sl'.first=sl.first) (hb:sl'.bytes=sl.bytes++p) (hr:sl'.recs=sl.recs++ex)
  (hex:ex.length<=1) (hp:p.length<=1100):Good (j+1) (l++[⟨sl.n,p,false⟩]) (ini++[sl']):=by
 have hlt:=h.below
 have hnx:=h.next
 have hrc:=h.recs
 rw [Yh,hd] at hnx hrc
 rw [Yx,List.length_append] at hrc
 simp only [if_true] at hnx hrc
 have hrl:sl'.recs.length=sl.recs.length+ex.length:=by rw [hr,List.length_append]
 have hf1:=((h.ok sl (by simp)).head hd).1
 refine ⟨fun t ht=>?_,fun t ht=>?_,fun i t ht hh'=>?_,?_,?_,?_,?_,?_⟩
 ·rcases List.mem_append.1 ht with ht | ht
  ·exact h.ok t (by simp [ht])
  ·rw [List.mem_singleton.1 ht];exact hs
 ·rcases List.mem_append.1 ht with ht | ht
  ·have:=h.pos t (by simp [ht]);omega
  ·rw [List.mem_singleton.1 ht,hn];have:=h.pos sl (by simp);omega
 ·rcases Jy ht with ht | ⟨rfl,rfl⟩
  ·have hi:=(List.getElem?_eq_some_iff.1 ht).1
   have:=h.chain i t (by rw [List.getElem?_append_left hi];exact ht) hh'
   rw [Kt (by omega)] at this ⊢
   exact this
  ·have:=h.chain ini.length sl (by simp) hd
   rw [Kt (Nat.le_refl _)] at this ⊢
   rw [hf];exact this
 ·rw [Gv,h.map,Uy,step6_last _ _ hlt,Uy,hn,hb]
 ·rw [Yh,hh,hf,hrl];simp only [if_true];omega
 ·rw [Yh,Yx,hh,hf,List.length_append,hrl];simp only [if_true];omega
 ·have:=h.len;simp at this ⊢;omega
 ·rw [Um];have:=h.sum;dsimp only;omega
theorem Good.append {j:Nat} {l:List Qf} {ss:List SegL} (h:Good j l ss) (size:Int) (p:Qs) (hp:p.length<=1000) (hj:j<=1000000) :
  ∃ ss',Good (j+1) (l++[⟨(appS (logD size ss)).n,appB (logD size ss) p,false⟩]) ss'/\(logD size ss).append p=logD size ss'/\Qw ss'=Qw ss++[p] /\
   ∀ t,0<t->t<(appB (logD size ss) p).length->∃ s2,Good (j+1) (l++[⟨(appS (logD size ss)).n,(appB (logD size ss) p).take t,false⟩]) s2/\Qw s2=Qw ss/\max (Zz 0 s2) 1=max (Zz 0 ss) 1:=by
 have hnx:=h.next
 obtain ⟨nx,hnxe⟩:∃ nx,max (Zz 0 ss) 1=nx:=⟨_,rfl⟩
 have hL:(logD size ss).next=nx:=hnxe
 rw [hnxe] at hnx
 have hnx1:1<=nx:=by omega
 cases hfr:Jk (logD size ss) (Ke (logD size ss)) with
 | true =>
  have eB:appB (logD size ss) p=Xt nx++recB p:=by unfold appB;rw [hfr,hL];rfl
  have eS:appS (logD size ss)=Xh (logD size ss):=by unfold appS;rw [hfr];rfl
  obtain ⟨sn,hsn⟩:∃ sn,(appS (logD size ss)).n=sn:=⟨_,rfl⟩
  have hN:(∀ e∈segMap ss,e.1<sn)/\1<=sn/\sn<=(j:Int)+1:=by
   rw [<- hsn,eS]
   rcases List.eq_nil_or_concat ss with rfl | ⟨ini,sl,rfl⟩
   ·refine ⟨(fun e he=>by cases he),(by show (1:Int)<=1;omega),(by show (1:Int)<=_;omega)⟩
   ·rw [List.concat_eq_append] at h ⊢
    have hb:=h.below
    have hpn:=h.pos sl (by simp)
    have e:(Xh (logD size (ini++[sl]))).n=sl.n+1:=by unfold Xh;rw [Uc];rfl
    rw [e]
    refine ⟨fun e he=>?_,by omega,by omega⟩
    rw [Uy] at he
    rcases List.mem_append.1 he with he | he
    ·have:=hb e he;omega
    ·rw [List.mem_singleton.1 he];show sl.n<sl.n+1;omega
  obtain ⟨hlt,hs1,hs2⟩:=hN
  have hbl:(Xt nx++recB p).length<=1100:=by rw [List.length_append,Zr,Zl];omega
  let s:SegL:={ n:=sn,first:=nx,headed:=true,recs:=[p],tail:=[] }
  have hsb:s.bytes=appB (logD size ss) p:=by
   rw [eB]
   show Xt nx++(Xx [p]++[])=_
   simp [Xx]
  have hso:s.Ok:=⟨fun _=>⟨hnx1,by show nx<_;omega,fun r hr=>by rw [List.mem_singleton.1 hr];omega,torn_nil⟩,fun hc=>(by cases hc)⟩
  have hput:=h.putNew s hso hlt hs1 hs2 (fun _=>hnxe.symm) (by simp [s]) (by rw [hsb,eB];exact hbl)
  refine ⟨ss++[s],?_,?_,by rw [Yx],fun t h0 ht=>?_⟩
  ·rw [hsn,<- hsb];exact hput
  ·unfold LogS.append
   rw [hfr,eS]
   have hv:{ Xh (logD size ss) with count:=(Xh (logD size ss)).count+1,size:=(Xh (logD size ss)).size+(appB (logD size ss) p).length }=s.view:=by
    have e1:(Xh (logD size ss)).n=s.n:=by rw [<- eS,hsn]
    have e2:(Xh (logD size ss)).first=s.first:=hL
    unfold SegL.view
    rw [hsb]
    show SegV.mk (Xh (logD size ss)).n (Xh (logD size ss)).first (0+1) (0+(appB (logD size ss) p).length) true true=SegV.mk s.n s.first 1 _ true true
    rw [e1,e2,Nat.zero_add,Nat.zero_add]
   rw [hv]
   show (LogS.mk _ _ _ _)=LogS.mk _ _ _ _
   congr 1
   ·simp [logD,Kv]
   ·show Qw ss++[p]=Qw (ss++[s])
    rw [Yx]
   ·show (logD size ss).next+1=max (Zz 0 (ss++[s])) 1
    rw [hL,Yh]
    show nx+1=max (nx+1) 1
    omega
  ·rw [eB] at ht ⊢
   rw [hsn]
   have htl:((Xt nx++recB p).take t).length<=1100:=by rw [List.length_take];omega
   by_cases h12:t<12
   ·let s2:SegL:={ n:=sn,first:=0,headed:=false,recs:=[],tail:=(Xt nx++recB p).take t }
    have ho2:s2.Ok:=⟨fun hc=>(by cases hc),fun _=>⟨rfl,by show ((Xt nx++recB p).take t).length<12;rw [List.length_take];omega⟩⟩
    have:=h.putNew s2 ho2 hlt hs1 hs2 (fun hc=>by cases hc) (by simp [s2]) (by show ((Xt nx++recB p).take t).length<=1100;exact htl)
    exact ⟨ss++[s2],by simpa [s2,SegL.bytes] using this,by rw [Yx];simp [s2],by rw [Yh];rfl⟩
   ·have hh:=Zr nx
    let s2:SegL:={ n:=sn,first:=nx,headed:=true,recs:=[],tail:=(recB p).take (t - 12) }
    have hb2:s2.bytes=(Xt nx++recB p).take t:=by
     show Xt nx++(Xx []++(recB p).take (t - 12))=_
     rw [List.take_append,hh,List.take_of_length_le (l:=Xt nx) (by omega)]
     simp [Xx]
    have ho2:s2.Ok:=⟨fun _=>⟨hnx1,by show nx<_;omega,fun r hr=>(by cases hr),torn_rec p (by omega) (by rw [List.length_append,hh] at ht;omega)⟩,fun hc=>(by cases hc)⟩
    have:=h.putNew s2 ho2 hlt hs1 hs2 (fun _=>hnxe.symm) (by simp [s2]) (by rw [hb2];exact htl)
    rw [hb2] at this
    exact ⟨ss++[s2],by simpa [s2] using this,by rw [Yx];simp [s2],by rw [Yh];show max (nx+0) 1=_;omega⟩
 | false =>
  rcases List.eq_nil_or_concat ss with rfl | ⟨ini,sl,rfl⟩
  ·exact absurd hfr (by simp [Jk,logD,Kv])
  ·rw [List.concat_eq_append] at *
   have hlast:=Uc size ini sl
   have hfr2:=hfr
   unfold Jk at hfr2
   rw [hlast] at hfr2
   simp only [Bool.or_eq_false_iff,Bool.not_eq_false'] at hfr2
   obtain ⟨hh,hw,_⟩:=hfr2
   have hh:sl.headed=true:=hh
   have ht:sl.tail=[]:=by
    have hw:(sl.headed && sl.tail.isEmpty)=true:=hw
    rw [hh] at hw
    simpa using hw
   have eB:appB (logD size (ini++[sl])) p=recB p:=by unfold appB;rw [hfr];rfl
   have eS:appS (logD size (ini++[sl]))=sl.view:=by unfold appS;rw [hfr,hlast];rfl
   have hok:=h.ok sl (by simp)
   obtain ⟨o1,o2,o3,o4⟩:=hok.head hh
   have hbs:sl.bytes=Xt sl.first++Xx sl.recs:=by unfold SegL.bytes;rw [hh,ht];simp
   have hrl:=Zl p
   have hne:=hnxe
   rw [Yh,hh] at hne
   simp only [if_true] at hne
   rw [eB,eS]
   show ∃ ss',Good (j+1) (l++[⟨sl.n,recB p,false⟩]) ss'/\(logD size (ini++[sl])).append p=logD size ss'/\Qw ss'=Qw (ini++[sl])++[p]/\∀ t,0<t->t<(recB p).length->∃ s2,Good (j+1) (l++[⟨sl.n,(recB p).take t,false⟩]) s2/\Qw s2=Qw (ini++[sl])/\max (Zz 0 s2) 1=max (Zz 0 (ini++[sl])) 1
   let s:SegL:={ sl with recs:=sl.recs++[p] }
   have hsb:s.bytes=sl.bytes++recB p:=by
    have:s.bytes=Xt sl.first++(Xx (sl.recs++[p])++sl.tail):=by unfold SegL.bytes;simp only [s,hh,if_true]
    rw [this,ht,hbs,Kn]
    simp [Xx]
   have hso:s.Ok:=⟨fun _=>⟨o1,o2,fun r hr=>by
    rcases List.mem_append.1 hr with hr | hr
    ·exact o3 r hr
    ·rw [List.mem_singleton.1 hr];omega,o4⟩,fun hc=>by rw [show s.headed=sl.headed from rfl,hh] at hc;cases hc⟩
   have hput:=h.putLast (sl':=s) (ex:=[p]) (recB p) hso rfl hh hh rfl hsb rfl (by simp) (by omega)
   refine ⟨ini++[s],hput,?_,by rw [Yx,Yx,List.append_assoc],fun t h0 ht'=>?_⟩
   ·unfold LogS.append
    rw [hfr,eS,eB]
    have hv:{ sl.view with count:=sl.view.count+1,size:=sl.view.size+(recB p).length }=s.view:=by
     show SegV.mk sl.n (if sl.headed=true then sl.first else 0) (sl.recs.length+1) (sl.bytes.length+(recB p).length) (sl.headed && sl.tail.isEmpty) sl.headed=SegV.mk sl.n (if sl.headed=true then sl.first else 0) (sl.recs++[p]).length s.bytes.length (sl.headed && sl.tail.isEmpty) sl.headed
     rw [hsb]
     simp
    rw [hv]
    show (LogS.mk _ _ _ _)=LogS.mk _ _ _ _
    congr 1
    ·simp [logD,Kv]
    ·show Qw (ini++[sl])++[p]=Qw (ini++[s])
     rw [Yx,Yx,List.append_assoc]
    ·show (logD size (ini++[sl])).next+1=max (Zz 0 (ini++[s])) 1
     rw [hL,Yh]
     show nx+1=max (if sl.headed=true then sl.first+(sl.recs++[p]).length else Zz 0 ini) 1
     rw [hh]
     simp only [if_true,List.length_append,List.length_singleton]
     omega
   ·let s2:SegL:={ sl with tail:=(recB p).take t }
    have hb2:s2.bytes=sl.bytes++(recB p).take t:=by
     have:s2.bytes=Xt sl.first++(Xx sl.recs++(recB p).take t):=by unfold SegL.bytes;simp only [s2,hh,if_true]
     rw [this,hbs]
     simp
    have ho2:s2.Ok:=⟨fun _=>⟨o1,o2,o3,torn_rec p (by omega) ht'⟩,fun hc=>by rw [show s2.headed=sl.headed from rfl,hh] at hc;cases hc⟩
    have hput2:=h.putLast (sl':=s2) (ex:=[]) ((recB p).take t) ho2 rfl hh hh rfl hb2 (by simp [s2]) (by decide) (by rw [List.length_take];omega)
    exact ⟨ini++[s2],hput2,by rw [Yx,Yx],by rw [Yh,Yh]⟩
def Inv (j:Nat) (R:Nat->List SegL->Prop) (l:List Qf):Prop :=
 (∀ k,k<=l.length->∃ ss,Good j (l.take k) ss/\R k ss) /\
 ∀ (k:Nat) (c:Qf) (t:Nat),l[k]?=some c->c.drop=false->0<t->t<c.p.length->∃ ss,Good j (l.take k++[⟨c.seg,c.p.take t,false⟩]) ss/\R k ss
theorem Inv.nil (R:Nat->List SegL->Prop) (h:R 0 []):Inv 0 R []:=by
 refine ⟨fun k hk=>?_,fun k c t hc=>by simp at hc⟩
 obtain rfl:k=0:=by simpa using hk
 exact ⟨[],Good.nil,h⟩
theorem Inv.mono {j k:Nat} {R R':Nat->List SegL->Prop} {l:List Qf} (h:Inv j R l) (hk:j<=k) (hR:∀ i ss,i<=l.length->R i ss->R' i ss):Inv k R' l:=by
 refine ⟨fun i hi=>?_,fun i c t hc h1 h2 h3=>?_⟩
 ·obtain ⟨ss,g,r⟩:=h.1 i hi
  exact ⟨ss,g.mono hk,hR _ _ hi r⟩
 ·obtain ⟨ss,g,r⟩:=h.2 i c t hc h1 h2 h3
  exact ⟨ss,g.mono hk,hR _ _ (Nat.le_of_lt (List.getElem?_eq_some_iff.1 hc).1) r⟩
theorem Inv.push {j:Nat} {R:Nat->List SegL->Prop} {l:List Qf} (h:Inv j R l) (c:Qf) (hw:∃ ss,Good j (l++[c]) ss/\R (l.length+1) ss)
  (ht:c.drop=false->∀ t,0<t->t<c.p.length->∃ ss,Good j (l++[⟨c.seg,c.p.take t,false⟩]) ss/\R l.length ss):Inv j R (l++[c]):=by
 refine ⟨fun k hk=>?_,fun k c' t hc h1 h2 h3=>?_⟩
 ·by_cases hkl:k<=l.length
  ·rw [List.take_append_of_le_length hkl];exact h.1 k hkl
  ·have hk:k=l.length+1:=by simp at hk;omega
   subst hk
   rw [List.take_of_length_le (by simp)]
   exact hw
 ·rcases Jy hc with hc | ⟨rfl,rfl⟩
  ·rw [List.take_append_of_le_length (Nat.le_of_lt (List.getElem?_eq_some_iff.1 hc).1)]
   exact h.2 k c' t hc h1 h2 h3
  ·rw [List.take_append_of_le_length (Nat.le_refl _),List.take_length]
   exact ht h1 t h2 h3
theorem Good.segsOk {j:Nat} {l:List Qf} {ss:List SegL} (h:Good j l ss) (hj:j<=1000):Hs ss:=by
 have h1:=h.len
 have h2:=h.recs
 have h3:=h.next
 have h4:=Ud l
 have h5:=h.sum
 rw [h.map] at h4
 exact ⟨h.ok,h.chain,by omega,by omega,by omega⟩
theorem Good.diskL {j:Nat} {l:List Qf} {ss:List SegL} (h:Good j l ss) (hj:j<=1000) {d:Qr} (hm:Jf (segs6 l) d.now) (hk:Keys d.now):DiskL d ss:=by
 have hS:=h.sorted
 have ho:=h.segsOk hj
 rw [h.map] at hm
 refine ⟨?_,fun s hs=>?_,h.ok,h.chain,ho.few,ho.recs,?_⟩
 ·rw [sortedKeys_eq hS hk hm]
  simp [segMap]
 ·rw [<- hm s.n]
  have:(s.n,s.bytes)∈segMap ss:=List.mem_map.2 ⟨s,hs,rfl⟩
  exact mget_mem hS.keys this
 ·have:=Jf.sum hS.keys hk hm
  have h4:=ho.sum
  omega
theorem msum_at (m:AMap) {i:Nat} {e:Int × Qs} (h:m[i]?=some e):e.2.length<=msum m:=by
 induction m generalizing i with
 | nil=>simp at h
 | cons x m ih =>
  cases i with
  | zero=>simp at h;subst h;show x.2.length<=x.2.length+msum m;omega
  | succ i=>rw [List.getElem?_cons_succ] at h;have:=ih h;show e.2.length<=x.2.length+msum m;omega
theorem good_segs {j:Nat} {l:List Qf} {ss:List SegL} (size:Int) (hg:Good j l ss) (hj:j<=1000):∀ t∈(logD size ss).segs,0<=t.n/\t.n+1<=9223372036854775807/\t.count+1<=9223372036854775807/\t.size<=1099511627776:=by
 intro t ht
 have hn:=hg.next
 have hr:=hg.recs
 have hso:=hg.segsOk hj
 obtain ⟨sl,hsl,rfl⟩:=List.mem_map.1 (show t∈ss.map SegL.view from ht)
 have h1:=hg.pos sl hsl
 have h3:sl.recs.length<=(Qw ss).length:=by
  unfold Qw
  have:sl.recs∈ss.map (·.recs):=List.mem_map.2 ⟨sl,hsl,rfl⟩
  obtain ⟨a,b,e⟩:=List.append_of_mem this
  rw [e];simp;omega
 have h4:(sl.n,sl.bytes)∈segMap ss:=List.mem_map.2 ⟨sl,hsl,rfl⟩
 obtain ⟨i,hi,e⟩:=List.getElem_of_mem h4
 have h5:=msum_at (segMap ss) (i:=i) (e:=(sl.n,sl.bytes)) (by rw [List.getElem?_eq_getElem hi,e])
 have h6:=hso.sum
 exact ⟨by show 0<=sl.n;omega,by show sl.n+1<=_;omega,by show sl.recs.length+1<=_;omega,by show sl.bytes.length<=_;dsimp only at h5;omega⟩
theorem lAppend_any [bn:Inhabited Ban] {base:Nat} {w:World} {g p n s:Nat} {wv sv lv pv:Value} {size:Int} {ss:List SegL} {d:Qr} {q:Qs} {j:Nat} {l:List Qf} (hl:Zd base w g p sv lv (logD size ss)) (hd:Qo base w p n s wv d) (hb:base<=w.heap.size) (hT:ban.top<=w.heap.size)
  (hp:Qv base w pv q) (hq:q.length<=1048576) (hg:Good j l ss) (hj:j<=1000) (hsm:Ur d) (c:Int) (hc:c=0\/c=5) (hok:(d.append (appS (logD size ss)).n (appB (logD size ss) q)).2=c) :
  Calls Tryz.prog 112 #[.pointer (some ⟨g,0,none⟩),pv] w fun e w'=>e=.returned (.tuple #[.int .u64 (if c=0 then ((max (Zz 0 ss) 1:Nat):Int) else 0),.int .i64 c])/\∃ n' s' wv' sv' lv',Zd base w' g p sv' lv' (if c=0 then (logD size ss).append q else logD size ss)/\Qo base w' p n' s' wv' (d.append (appS (logD size ss)).n (appB (logD size ss) q)).1 /\
   Keep (Kx g p n s wv sv lv) w w'/\∀ b,Kx g p n' s' wv' sv' lv' b->Kx g p n s wv sv lv b\/w.heap.size<=b:=by
 have hn:=hg.next
 have hr:=hg.recs
 have hle:=hg.len
 rcases hc with rfl | rfl
 ·rw [if_pos rfl,if_pos rfl]
  exact lAppend_ok hl hd hb hT hp hq hsm hok (by show max (Zz 0 ss) 1+1<=_;omega) (good_segs size hg hj) (by show (ss.map SegL.view).length<=_;rw [List.length_map];omega) (by show (Qw ss).length<=_;omega)
 ·rw [if_neg (by decide),if_neg (by decide)]
  refine (lAppend_full hl hd hb hT hp hq hsm hok (by show max (Zz 0 ss) 1+1<=_;omega) (good_segs size hg hj) (by show (ss.map SegL.view).length<=_;rw [List.length_map];omega) (by show (Qw ss).length<=_;omega)).mono (fun e w' ⟨h1,n',s',wv',h2,h3,h4,h5⟩=>⟨h1,n',s',wv',sv,lv,h2,h3,h4.mono (fun _ _ e=>.inl e),fun b hb=>?_⟩)
  rcases hb with hb | hb
  ·exact (h5 b hb).imp .inl id
  ·exact .inl (.inr hb)
def RH (sl cnt:Nat) (all:List Qs) (k:Nat) (ss:List SegL):Prop:=sl<=k->∃ m,cnt<=m/\m<=all.length/\Qw ss=all.take m/\max (Zz 0 ss) 1=m+1
theorem Inv.reset {j:Nat} {R R':Nat->List SegL->Prop} {l:List Qf} (h:Inv j R l) {ss:List SegL} (hg:Good j l ss) (hr:R' l.length ss) (hlt:∀ k ss,k<l.length->R' k ss):Inv j R' l:=by
 refine ⟨fun k hk=>?_,fun k c t hc h1 h2 h3=>?_⟩
 ·by_cases e:k=l.length
  ·subst e
   exact ⟨ss,by rw [List.take_length];exact hg,hr⟩
  ·obtain ⟨s2,g2,_⟩:=h.1 k hk
   exact ⟨s2,g2,hlt _ _ (by omega)⟩
 ·obtain ⟨s2,g2,_⟩:=h.2 k c t hc h1 h2 h3
  exact ⟨s2,g2,hlt _ _ (List.getElem?_eq_some_iff.1 hc).1⟩
structure Log7 (j cnt:Nat) (all:List Qs) (ss:List SegL) (d:Qr) (x:Qn):Prop where
 rel:Rel6 d x
 good:Good j x.l ss
 inv:Inv j (RH x.safe.toNat cnt all) x.l
 recs:Qw ss=all
 next:max (Zz 0 ss) 1=all.length+1
 cnt:cnt<=all.length
 room0:0<=d.room
 room1:d.room<=1000000
theorem Log7.mono {j k cnt:Nat} {all:List Qs} {ss:List SegL} {d:Qr} {x:Qn} (h:Log7 j cnt all ss d x) (hk:j<=k):Log7 k cnt all ss d x :=
 ⟨h.rel,h.good.mono hk,h.inv.mono hk (fun _ _ _ r=>r),h.recs,h.next,h.cnt,h.room0,h.room1⟩
theorem Log7.small {j cnt:Nat} {all:List Qs} {ss:List SegL} {d:Qr} {x:Qn} (h:Log7 j cnt all ss d x) (hj:j<=1000):Ur d:=by
 have h1:=h.rel.sum
 have h2:=Ud x.l
 have h3:=h.good.sum
 have h4:=h.good.len
 refine ⟨h.room0,by have:=h.room1;omega,by omega,?_⟩
 rw [h.rel.wait,List.length_drop]
 omega
theorem Log7.code {j cnt:Nat} {all:List Qs} {ss:List SegL} {d:Qr} {x:Qn} (_h:Log7 j cnt all ss d x) (sn:Int) (B:Qs):(d.append sn B).2=0\/(d.append sn B).2=5:=by
 unfold Qr.append
 split
 ·exact .inr rfl
 ·split
  ·exact .inr rfl
  ·exact .inl rfl
theorem append_five {d:Qr} {sn:Int} {B:Qs} (h:(d.append sn B).2=5):(d.append sn B).1=d:=by
 unfold Qr.append at h ⊢
 split
 ·rfl
 ·rename_i hf
  rw [if_neg hf] at h
  split
  ·rfl
  ·rename_i hr
   rw [if_neg hr] at h
   simp at h
theorem append_zero {d:Qr} {sn:Int} {B:Qs} (h:(d.append sn B).2=0):(d.append sn B).1=d.put ⟨sn,B,false⟩:=by
 unfold Qr.append at h ⊢
 split
 ·rename_i hf
  rw [if_pos hf] at h
  simp at h
 ·rename_i hf
  rw [if_neg hf] at h
  split
  ·rename_i hr
   rw [if_pos hr] at h
   simp at h
  ·rfl
theorem xappend_zero {x:Qn} {sn:Int} {B:Qs} (h:(x.append sn B).2=0):(x.append sn B).1=x.push ⟨sn,B,false⟩:=by
 unfold Qn.append at h ⊢
 split
 ·rename_i hf
  rw [if_pos hf] at h
  simp at h
 ·rename_i hf
  rw [if_neg hf] at h
  split
  ·rename_i hr
   rw [if_pos hr] at h
   simp at h
  ·rfl
theorem xappend_five {x:Qn} {sn:Int} {B:Qs} (h:(x.append sn B).2=5):(x.append sn B).1=x:=by
 unfold Qn.append at h ⊢
 split
 ·rfl
 ·rename_i hf
  rw [if_neg hf] at h
  split
  ·rfl
  ·rename_i hr
   rw [if_neg hr] at h
   simp at h
theorem Log7.append {j cnt:Nat} {all:List Qs} {ss:List SegL} {d:Qr} {x:Qn} (h:Log7 j cnt all ss d x) (hj:j<=1000) (size:Int) (p:Qs) (hp:p.length<=1000) (hok:(d.append (appS (logD size ss)).n (appB (logD size ss) p)).2=0) :
  ∃ ss',(logD size ss).append p=logD size ss'/\Log7 (j+1) cnt (all++[p]) ss' (d.append (appS (logD size ss)).n (appB (logD size ss) p)).1 (x.append (appS (logD size ss)).n (appB (logD size ss) p)).1:=by
 obtain ⟨ss',hg',happ,hrec,htorn⟩:=h.good.append size p hp (by omega)
 obtain ⟨hr1,hr2⟩:=h.rel.append (appS (logD size ss)).n (appB (logD size ss) p)
 generalize (appS (logD size ss)).n=sn at *
 generalize appB (logD size ss) p=B at *
 have hd:=append_zero hok
 have hx:=xappend_zero (x:=x) (sn:=sn) (B:=B) (by rw [<- hr2];exact hok)
 rw [hx] at hr1 ⊢
 have e1:(logD size ss').next=(logD size ss).next+1:=by rw [<- happ];rfl
 have e2:max (Zz 0 ss') 1=max (Zz 0 ss) 1+1:=e1
 refine ⟨ss',happ,⟨hr1,hg',?_,by rw [hrec,h.recs],by rw [e2,h.next];simp,by have:=h.cnt;simp;omega,by rw [hd];exact h.room0,by rw [hd];exact h.room1⟩⟩
 have hI:=h.inv.mono (k:=j+1) (R':=RH x.safe.toNat cnt (all++[p])) (Nat.le_succ _) (fun i s _ r hs=>by
  obtain ⟨m,m1,m2,m3,m4⟩:=r hs
  exact ⟨m,m1,by simp;omega,by rw [List.take_append_of_le_length m2];exact m3,m4⟩)
 refine hI.push ⟨sn,B,false⟩ ⟨ss',hg',fun _=>⟨all.length+1,by have:=h.cnt;omega,by simp,by rw [hrec,h.recs,List.take_of_length_le (by simp)],by rw [e2,h.next]⟩⟩ (fun _ t h0 h1=>?_)
 obtain ⟨s2,g2,r2,n2⟩:=htorn t h0 h1
 exact ⟨s2,g2,fun _=>⟨all.length,h.cnt,by simp,by rw [r2,h.recs,List.take_append_of_le_length (Nat.le_refl _),List.take_length],by rw [n2,h.next]⟩⟩
theorem Log7.sync {j cnt:Nat} {all:List Qs} {ss:List SegL} {d:Qr} {x:Qn} (h:Log7 j cnt all ss d x):Log7 j all.length all ss d.sync x.sync:=by
 refine ⟨h.rel.sync,h.good,?_,h.recs,h.next,Nat.le_refl _,h.room0,h.room1⟩
 have e:x.sync.safe.toNat=x.l.length:=by simp [Qn.sync]
 show Inv j (RH x.sync.safe.toNat all.length all) x.l
 rw [e]
 exact h.inv.reset h.good (fun _=>⟨all.length,Nat.le_refl _,Nat.le_refl _,by rw [List.take_length];exact h.recs,h.next⟩) (fun k s hk hs=>by omega)
end Go.Proofs.YtfdmbomlkpkegaaGreat
