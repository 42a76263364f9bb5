/- Lemmas for LedgerPlays. -/
import Derived.Test.YtfdmbomlkpkegaaGreatS2
import Derived.Test.YtfdmbomlkpkegaaGreatS0
import Derived.Test.YtfdmbomlkpkegaaGreatS1
set_option maxRecDepth 100000
set_option maxHeartbeats 8000000
set_option linter.all false
namespace Go.Proofs.YtfdmbomlkpkegaaGreat
open Go Go.RowKit Go.Dr
def Vz (w:World) (base:Nat) (e:TypeId) (v:Value) (n:Nat) (xs:List Value):Prop :=
 xs.length=n/\((v=.slice none 0 0/\n=0) \/
  ∃ g off cap cur,v=.slice (some ⟨g,off,none⟩) n cap/\base<=g/\w.heap[g]?=some (.cells cur e (0,0))/\n<=cap/\cap<=maxLen/\off+cap<=cur.size/\(cur.toList.drop off).take n=xs)
theorem tail_nil (w:World) (base:Nat) (e:TypeId):Vz w base e (.slice none 0 0) 0 []:=⟨rfl,.inl ⟨rfl,rfl⟩⟩
theorem tail_of_row {w:World} {base:Nat} {e:TypeId} {v:Value} {n:Nat} {xs:List Value} (h:w.ownsRow base e 1 v n xs):Vz w base e v n xs:=by
 refine ⟨by have:=h.1;omega,?_⟩
 rcases h.2 with h0 | ⟨g,cap,cur,rfl,h1,h2,h3,h4,h5,h6⟩
 ·exact .inl h0
 ·exact .inr ⟨g,0,cap,cur,rfl,h1,h2,h3,h4,by omega,by simpa using h6⟩
theorem tail_form {w:World} {base:Nat} {e:TypeId} {v:Value} {n:Nat} {xs:List Value} (h:Vz w base e v n xs):∃ ao cap,v=.slice ao n cap/\n<=cap/\cap<=maxLen:=by
 rcases h.2 with ⟨rfl,h0⟩ | ⟨g,off,cap,cur,rfl,_,_,h3,h4,_⟩
 ·exact ⟨none,0,by rw [h0],by omega,by decide⟩
 ·exact ⟨_,_,rfl,h3,h4⟩
theorem Vf {w:World} {base:Nat} {e:TypeId} {v:Value} {n:Nat} {xs:List Value} (h:Vz w base e v n xs):∀ b,v.ownBlock=some b->base<=b/\∃ cur,w.heap[b]?=some (.cells cur e (0,0)):=by
 intro b hb
 rcases h.2 with ⟨rfl,h0⟩ | ⟨g,off,cap,cur,rfl,h1,h2,_⟩
 ·simp [Value.ownBlock] at hb
 ·simp [Value.ownBlock] at hb
  subst hb
  exact ⟨h1,cur,h2⟩
theorem tail_keep {w w':World} {base:Nat} {e:TypeId} {v:Value} {n:Nat} {xs:List Value} {F:Nat->Prop} (h:Vz w base e v n xs) (k:Keep F w w') (hn:∀ b,v.ownBlock=some b->¬F b):Vz w' base e v n xs:=by
 refine ⟨h.1,?_⟩
 rcases h.2 with h0 | ⟨g,off,cap,cur,rfl,h1,h2,r⟩
 ·exact .inl h0
 ·exact .inr ⟨g,off,cap,cur,rfl,h1,k.heap h2 (hn g rfl),r⟩
theorem tail_cell {w:World} {base:Nat} {e:TypeId} {n cap:Nat} {ao:Option Addr} {xs:List Value} (h:Vz w base e (.slice ao n cap) n xs) {j:Nat} {x:Value} (hj:xs[j]?=some x) :
  ∃ g off,ao=some ⟨g,off,none⟩/\w.cell? ⟨g,off+j,none⟩=some x:=by
 have hlt:=(List.getElem?_eq_some_iff.1 hj).1
 rcases h.2 with ⟨hq,h0⟩ | ⟨g,off,cap',cur,hq,h1,h2,h3,h4,h5,h6⟩
 ·have:=h.1;omega
 ·simp only [Value.slice.injEq] at hq
  obtain ⟨rfl,_,rfl⟩:=hq
  refine ⟨g,off,rfl,?_⟩
  rw [Qq h2]
  rw [<- h6,List.getElem?_take] at hj
  split at hj
  ·rw [List.getElem?_drop] at hj
   simpa using hj
  ·cases hj
theorem run_append_room_off {P:Program} (w:World) (t ty e:TypeId) (i:TypeInfo) (ht:P.underlying t=some (.slice e)) (hi:P.info? e=some i) (h1s:i.size=1) (g off sLen sCap:Nat) (cur:Array Value) (hg:w.heap[g]?=some (.cells cur e (0,0)))
  (a:Addr) (m c:Nat) (news:List Value) (hl:news.length=m*i.size) (hnews:∀ j u,news[j]?=some u->w.cell? (a.add j)=some u) (h1:∀ u∈news,u.oneCell'=true)
  (hroom:sLen+m<=sCap) (hfit:off+sLen*i.size+news.length<=cur.size) :
  (Builtin.append_ #[t,t] ty #[.slice (some ⟨g,off,none⟩) sLen sCap,.slice (some a) m c]).run P w =
   .ok (.slice (some ⟨g,off,none⟩) (sLen+m) sCap) (w.setRow g (cur.toList.take (off+sLen)++news++cur.toList.drop (off+sLen+m)).toArray):=by
 have hf:=run_firstCells_some (P:=P) w i.size m a m c news hl hnews
 have hst:=run_storeCells_at P g (off+sLen*i.size) e news 0 cur w hg (by simpa using hfit) h1
 simp only [Nat.add_zero] at hst
 rw [hl,h1s,Nat.mul_one,Nat.mul_one] at hst
 rw [h1s] at hf
 simp [Builtin.append_,run_underlying ht,sizeOf,typeInfo,hi,Builtin.lenOf,hroom,hf,Addr.add_lit,hst,h1s]
theorem run_append_tail {P:Program} (w:World) (base:Nat) (t ty e:TypeId) (i:TypeInfo) (z:Value) (bytes:Nat) (ht:P.underlying t=some (.slice e)) (hi:P.info? e=some i) (hz:i.zero=some z)
  (hsize:i.size=1) (hby:i.bytes=bytes) (hzs:z.cells.size=1)
  (v:Value) (n:Nat) (xs:List Value) (hown:Vz w base e v n xs)
  (a:Addr) (m c:Nat) (news:List Value) (hl:news.length=m) (hnews:∀ j u,news[j]?=some u->w.cell? (a.add j)=some u) (h1:∀ u∈news,u.oneCell'=true)
  (h63:n+m<=maxLen) (hbytes:(n+m)*bytes<=140737488355328) (hbase:base<=w.heap.size) (hsome:∃ g off cap,v=.slice (some ⟨g,off,none⟩) n cap) :
  ∃ v' w',(Builtin.append_ #[t,t] ty #[v,.slice (some a) m c]).run P w=.ok v' w'/\Vz w' base e v' (n+m) (xs++news)/\w.grownBy w' v.ownBlock/\(v'.ownBlock=v.ownBlock\/v'.ownBlock=some w.heap.size):=by
 subst hby
 have hsmall:n+m<=9223372036854775807:=by simp only [maxLen] at h63;omega
 obtain ⟨g,off,cap,rfl⟩:=hsome
 rcases hown.2 with ⟨hq,_⟩ | ⟨g',off',cap',cur,hq,hbg,hg,hnc,hcm,hcs,htake⟩
 ·cases hq
 ·simp only [Value.slice.injEq,Option.some.injEq,Addr.mk.injEq,and_true,true_and] at hq
  obtain ⟨⟨rfl,rfl⟩,rfl⟩:=hq
  by_cases hroom:n+m<=cap
  ·have hr:=run_append_room_off (P:=P) w t ty e i ht hi hsize g off n cap cur hg a m c news (by rw [hl,hsize,Nat.mul_one]) hnews h1 hroom (by rw [hsize,hl];omega)
   have hlen1:(cur.toList.take (off+n)).length=off+n:=by rw [List.length_take,Array.length_toList];omega
   refine ⟨_,_,hr,⟨by rw [List.length_append,hown.1,hl],.inr ⟨g,off,cap,_,rfl,hbg,setRow_heap w g cur _ e _ hg,hroom,hcm,?_,?_⟩⟩,⟨rfl,rfl,rfl,by simp,fun k _ hk=>setRow_other w g k _ (fun e=>hk (by simp [Value.ownBlock,e]))⟩,.inl rfl⟩
   ·simp only [List.size_toArray,List.length_append,hlen1,List.length_drop,Array.length_toList]
    omega
   ·have e1:(cur.toList.take (off+n)).drop off=xs:=by rw [<- htake,List.drop_take,Nat.add_sub_cancel_left]
    show ((cur.toList.take (off+n)++news++cur.toList.drop (off+n+m)).drop off).take (n+m)=xs++news
    rw [List.append_assoc,List.drop_append_of_le_length (by rw [hlen1];omega),e1,<- List.append_assoc,List.take_append_of_le_length (by rw [List.length_append,hown.1,hl];exact Nat.le_refl _),List.take_of_length_le (by rw [List.length_append,hown.1,hl];exact Nat.le_refl _)]
  ·have holds:∀ j u,xs[j]?=some u->w.cell? ((⟨g,off,none⟩:Addr).add j)=some u:=fun j u hu=>by
    obtain ⟨g',off',hq,hc⟩:=tail_cell hown hu
    simp at hq
    obtain ⟨rfl,rfl⟩:=hq
    rw [Addr.add_lit];exact hc
   have hr:=run_append_grow (P:=P) w t ty e i z ht hi hz ⟨g,off,none⟩ n cap xs (by rw [hown.1,hsize,Nat.mul_one]) holds a m c news (by rw [hl,hsize,Nat.mul_one]) hnews (by omega) (by omega) (growslice_fits (by omega) hbytes)
   have hge:=grownCap_ge w (n+m) cap e
   have hcm2:grownCap w (n+m) cap e<=maxLen:=grownCap_le_maxLen w (n+m) cap e h63
   refine ⟨_,_,hr,⟨by rw [List.length_append,hown.1,hl],.inr ⟨w.heap.size,0,_,_,rfl,hbase,Go.heap_alloc_new w.drew _,hge,hcm2,?_,?_⟩⟩,⟨rfl,rfl,rfl,by simp,fun k hk _=>Go.heap_alloc_old w.drew _ hk⟩,.inr rfl⟩
   ·simp only [Array.size_append,List.size_toArray,size_zeroCells,hzs,hown.1,hl]
    omega
   ·simp only [Array.toList_append,List.append_assoc,List.drop_zero]
    rw [<- List.append_assoc,List.take_append_of_le_length (by rw [List.length_append,hown.1,hl];exact Nat.le_refl _),List.take_of_length_le (by rw [List.length_append,hown.1,hl];exact Nat.le_refl _)]
end Go.Proofs.YtfdmbomlkpkegaaGreat
namespace Go.Proofs.YtfdmbomlkpkegaaGreat
abbrev RunN:=Nat × Nat
structure RSet (l:List RunN):Prop where
 run:∀ r∈l,r.1<=r.2/\r.2<18446744073709551616
 gap:l.Pairwise (fun a b=>a.2+1<b.1)
def HasR (l:List RunN) (n:Nat):Prop:=∃ r∈l,r.1<=n/\n<=r.2
def Yr (l:List RunN) (n:Nat):Nat:=l.findIdx (fun r=>decide (n<=r.2))
def Vu:List RunN->Nat->Nat->List RunN
 | [],f,t=>[(f,t)]
 | r :: l,f,t=>if r.1 - 1<=t then Vu l (min f r.1) (max t r.2) else (f,t) :: r :: l
def Yq (l:List RunN) (f t:Nat):List RunN:=if t<f then l else l.take (Yr l (f - 1))++Vu (l.drop (Yr l (f - 1))) f t
def Kg (a b:Nat) (r:RunN):List RunN:=if r.2<a\/b<r.1 then [r] else (if r.1<a then [(r.1,a - 1)] else [])++(if b<r.2 then [(b+1,r.2)] else [])
def Xj (l:List RunN) (a b:Nat):List RunN:=l.flatMap (Kg a b)
def Ua (l:List RunN) (n:Nat):List RunN:=if n=0 then l else Xj l 0 (n - 1)
def gapR (l:List RunN) (n:Nat):Option Nat:=match l[Yr l n]? with
 | none=>some n
 | some r=>if n<r.1 then some n else if r.2=18446744073709551615 then none else some (r.2+1)
theorem RSet.nil:RSet []:=⟨fun r h=>by simp at h,List.Pairwise.nil⟩
theorem HasR.nil (n:Nat):¬HasR [] n:=fun ⟨r,h,_⟩=>by simp at h
theorem Zf (r:RunN) (l:List RunN) (n:Nat):HasR (r :: l) n ↔ (r.1<=n/\n<=r.2)\/HasR l n:=by
 unfold HasR
 constructor
 ·rintro ⟨x,hx,h⟩
  rcases List.mem_cons.1 hx with rfl | hx
  ·exact .inl h
  ·exact .inr ⟨x,hx,h⟩
 ·rintro (h | ⟨x,hx,h⟩)
  ·exact ⟨r,by simp,h⟩
  ·exact ⟨x,by simp [hx],h⟩
theorem hasR_append (l m:List RunN) (n:Nat):HasR (l++m) n ↔ HasR l n\/HasR m n:=by
 induction l with
 | nil=>simp [HasR.nil]
 | cons r l ih=>rw [List.cons_append,Zf,Zf,ih,or_assoc]
theorem RSet.tail {r:RunN} {l:List RunN} (h:RSet (r :: l)):RSet l:=⟨fun x hx=>h.run x (by simp [hx]),(List.pairwise_cons.1 h.gap).2⟩
theorem RSet.head {r:RunN} {l:List RunN} (h:RSet (r :: l)):∀ x∈l,r.2+1<x.1:=(List.pairwise_cons.1 h.gap).1
theorem RSet.cons {r:RunN} {l:List RunN} (h:RSet l) (h1:r.1<=r.2) (h2:r.2<18446744073709551616) (h3:∀ x∈l,r.2+1<x.1):RSet (r :: l) :=
 ⟨fun x hx=>by rcases List.mem_cons.1 hx with rfl | hx;exact ⟨h1,h2⟩;exact h.run x hx,List.pairwise_cons.2 ⟨h3,h.gap⟩⟩
theorem RSet.above {r:RunN} {l:List RunN} (h:RSet (r :: l)) {n:Nat} (hn:HasR l n):r.2+1<n:=by
 obtain ⟨x,hx,h1,_⟩:=hn
 have:=h.head x hx
 omega
theorem RSet.ext:∀ {l m:List RunN},RSet l->RSet m->(∀ n,HasR l n ↔ HasR m n)->l=m
 | [],[],_,_,_=>rfl
 | [],r :: m,_,hm,h=>by
  have:=(h r.1).2 ((Zf _ _ _).2 (.inl ⟨Nat.le_refl _,(hm.run r (by simp)).1⟩))
  exact (HasR.nil _ this).elim
 | r :: l,[],hl,_,h=>by
  have:=(h r.1).1 ((Zf _ _ _).2 (.inl ⟨Nat.le_refl _,(hl.run r (by simp)).1⟩))
  exact (HasR.nil _ this).elim
 | r :: l,s :: m,hl,hm,h=>by
  have hr:=(hl.run r (by simp)).1
  have hs:=(hm.run s (by simp)).1
  have a1:=(h r.1).1 ((Zf _ _ _).2 (.inl ⟨Nat.le_refl _,hr⟩))
  have a2:=(h s.1).2 ((Zf _ _ _).2 (.inl ⟨Nat.le_refl _,hs⟩))
  have e1:r.1=s.1:=by
   rcases (Zf _ _ _).1 a1 with a1 | a1 <;> rcases (Zf _ _ _).1 a2 with a2 | a2
   ·omega
   ·have:=hl.above a2;omega
   ·have:=hm.above a1;omega
   ·have:=hl.above a2;have:=hm.above a1;omega
  have e2:r.2=s.2:=by
   rcases Nat.lt_trichotomy r.2 s.2 with hlt | he | hlt
   ·have:=(h (r.2+1)).2 ((Zf _ _ _).2 (.inl ⟨by omega,by omega⟩))
    rcases (Zf _ _ _).1 this with t | t
    ·omega
    ·have:=hl.above t;omega
   ·exact he
   ·have:=(h (s.2+1)).1 ((Zf _ _ _).2 (.inl ⟨by omega,by omega⟩))
    rcases (Zf _ _ _).1 this with t | t
    ·omega
    ·have:=hm.above t;omega
  have e:r=s:=Prod.ext e1 e2
  subst e
  rw [RSet.ext hl.tail hm.tail (fun n=>?_)]
  have hn:=h n
  rw [Zf,Zf] at hn
  constructor
  ·intro t
   rcases hn.1 (.inr t) with u | u
   ·have:=hl.above t;omega
   ·exact u
  ·intro t
   rcases hn.2 (.inr t) with u | u
   ·have:=hm.above t;omega
   ·exact u
theorem findR_cons (r:RunN) (l:List RunN) (n:Nat):Yr (r :: l) n=if n<=r.2 then 0 else Yr l n+1:=by
 unfold Yr
 rw [List.findIdx_cons]
 by_cases h:n<=r.2 <;> simp [h]
theorem Hd (l:List RunN) (n:Nat):Yr l n<=l.length:=List.findIdx_le_length
theorem absorb_ok:∀ {l:List RunN} {f t:Nat},RSet l->f<=t->t<18446744073709551616->(∀ r∈l,f - 1<=r.2) ->
  RSet (Vu l f t)/\(∀ n,HasR (Vu l f t) n ↔ HasR l n\/(f<=n/\n<=t))/\(∀ k,(∀ r∈l,k<=r.1)->k<=f->∀ x∈Vu l f t,k<=x.1)
 | [],f,t,_,hft,ht,_=>by
  refine ⟨RSet.nil.cons hft ht (fun x h=>by simp at h),fun n=>?_,fun k _ hk x hx=>?_⟩
  ·show HasR [(f,t)] n ↔ _
   rw [Zf]
   simp [HasR.nil]
  ·have:x=(f,t):=by simpa [Vu] using hx
   rw [this];exact hk
 | r :: l,f,t,h,hft,ht,hf=>by
  have hr:=h.run r (by simp)
  have hfr:=hf r (by simp)
  unfold Vu
  by_cases hc:r.1 - 1<=t
  ·rw [if_pos hc]
   obtain ⟨i1,i2,i3⟩:=absorb_ok (l:=l) (f:=min f r.1) (t:=max t r.2) h.tail (by omega) (by omega) (fun x hx=>by have:=h.head x hx;have:=h.run x (by simp [hx]);omega)
   refine ⟨i1,fun n=>?_,fun k hk hkf x hx=>i3 k (fun y hy=>hk y (by simp [hy])) (by have:=hk r (by simp);omega) x hx⟩
   rw [i2,Zf]
   constructor
   ·rintro (a | a)
    ·exact .inl (.inr a)
    ·by_cases h1:f<=n/\n<=t
     ·exact .inr h1
     ·exact .inl (.inl (by omega))
   ·rintro ((a | a) | a)
    ·exact .inr (by omega)
    ·exact .inl a
    ·exact .inr (by omega)
  ·rw [if_neg hc]
   refine ⟨h.cons hft ht (fun x hx=>?_),fun n=>?_,fun k hk hkf x hx=>?_⟩
   ·rcases List.mem_cons.1 hx with rfl | hx
    ·show t+1<x.1;omega
    ·have:=h.head x hx;show t+1<x.1;omega
   ·rw [Zf]
    constructor
    ·rintro (a | a)
     ·exact .inr a
     ·exact .inl a
    ·rintro (a | a)
     ·exact .inr a
     ·exact .inl a
   ·rcases List.mem_cons.1 hx with rfl | hx
    ·exact hkf
    ·exact hk x hx
theorem spanR_go:∀ {l:List RunN} {f t:Nat},RSet l->f<=t->t<18446744073709551616 ->
  RSet (l.take (Yr l (f - 1))++Vu (l.drop (Yr l (f - 1))) f t)/\(∀ n,HasR (l.take (Yr l (f - 1))++Vu (l.drop (Yr l (f - 1))) f t) n ↔ HasR l n\/(f<=n/\n<=t)) /\
  (∀ k,(∀ r∈l,k<=r.1)->k<=f->∀ x∈l.take (Yr l (f - 1))++Vu (l.drop (Yr l (f - 1))) f t,k<=x.1)
 | [],f,t,h,hft,ht=>by simpa [Yr] using absorb_ok (l:=[]) h hft ht (fun r h=>by simp at h)
 | r :: l,f,t,h,hft,ht=>by
  rw [findR_cons]
  by_cases hc:f - 1<=r.2
  ·rw [if_pos hc]
   refine absorb_ok h hft ht (fun x hx=>?_)
   rcases List.mem_cons.1 hx with rfl | hx
   ·exact hc
   ·have:=h.head x hx;have:=(h.run x (by simp [hx])).1;omega
  ·rw [if_neg hc]
   obtain ⟨i1,i2,i3⟩:=spanR_go h.tail hft ht
   have hr:=h.run r (by simp)
   simp only [List.take_succ_cons,List.drop_succ_cons,List.cons_append]
   refine ⟨i1.cons hr.1 hr.2 (fun x hx=>?_),fun n=>?_,fun k hk hkf x hx=>?_⟩
   ·have:=i3 (r.2+2) (fun y hy=>by have:=h.head y hy;omega) (by omega) x hx
    omega
   ·rw [Zf,Zf,i2,or_assoc]
   ·rcases List.mem_cons.1 hx with rfl | hx
    ·exact hk x (by simp)
    ·exact i3 k (fun y hy=>hk y (by simp [hy])) hkf x hx
theorem spanR_ok {l:List RunN} {f t:Nat} (h:RSet l) (ht:t<18446744073709551616):RSet (Yq l f t)/\∀ n,HasR (Yq l f t) n ↔ HasR l n\/(f<=n/\n<=t):=by
 unfold Yq
 by_cases hlt:t<f
 ·rw [if_pos hlt]
  exact ⟨h,fun n=>⟨.inl,fun a=>a.elim id (fun (b:f<=n/\n<=t)=>by omega)⟩⟩
 ·rw [if_neg hlt]
  obtain ⟨h1,h2,_⟩:=spanR_go (f:=f) (t:=t) h (by omega) ht
  exact ⟨h1,h2⟩
theorem pieces_mem {a b:Nat} {r x:RunN} (hr:r.1<=r.2) (hx:x∈Kg a b r):x.1<=x.2/\r.1<=x.1/\x.2<=r.2:=by
 unfold Kg at hx
 split at hx
 ·have:x=r:=by simpa using hx
  subst this
  exact ⟨hr,Nat.le_refl _,Nat.le_refl _⟩
 ·rename_i hn
  rcases List.mem_append.1 hx with hx | hx
  ·split at hx
   ·have:x=(r.1,a - 1):=by simpa using hx
    subst this
    simp only;omega
   ·simp at hx
  ·split at hx
   ·have:x=(b+1,r.2):=by simpa using hx
    subst this
    simp only;omega
   ·simp at hx
theorem pieces_has {a b:Nat} {r:RunN} (n:Nat) (_hab:a<=b):HasR (Kg a b r) n ↔ (r.1<=n/\n<=r.2)/\¬(a<=n/\n<=b):=by
 unfold Kg
 split
 ·rw [Zf]
  simp only [HasR.nil,or_false]
  omega
 ·rename_i hn
  rw [hasR_append]
  have h1:HasR (if r.1<a then [(r.1,a - 1)] else []) n ↔ r.1<a/\r.1<=n/\n<=a - 1:=by
   by_cases hh:r.1<a
   ·rw [if_pos hh,Zf];simp only [HasR.nil,or_false];omega
   ·rw [if_neg hh];exact ⟨fun h=>(HasR.nil _ h).elim,fun h=>by omega⟩
  have h2:HasR (if b<r.2 then [(b+1,r.2)] else []) n ↔ b<r.2/\b+1<=n/\n<=r.2:=by
   by_cases hh:b<r.2
   ·rw [if_pos hh,Zf];simp only [HasR.nil,or_false];omega
   ·rw [if_neg hh];exact ⟨fun h=>(HasR.nil _ h).elim,fun h=>by omega⟩
  rw [h1,h2]
  omega
theorem pieces_gap {a b:Nat} {r:RunN} (hab:a<=b):(Kg a b r).Pairwise (fun a b=>a.2+1<b.1):=by
 unfold Kg
 split
 ·simp
 ·split <;> split <;> simp
  omega
theorem withoutR_ok:∀ {l:List RunN} {a b:Nat},RSet l->a<=b->RSet (Xj l a b)/\(∀ n,HasR (Xj l a b) n ↔ HasR l n/\¬(a<=n/\n<=b))/\(∀ k,(∀ r∈l,k<=r.1)->∀ x∈Xj l a b,k<=x.1)
 | [],a,b,_,_=>⟨RSet.nil,fun n=>by simp [Xj,HasR.nil],fun k _ x hx=>by simp [Xj] at hx⟩
 | r :: l,a,b,h,hab=>by
  obtain ⟨i1,i2,i3⟩:=withoutR_ok (l:=l) (a:=a) (b:=b) h.tail hab
  have hr:=h.run r (by simp)
  have e:Xj (r :: l) a b=Kg a b r++Xj l a b:=by simp [Xj]
  rw [e]
  refine ⟨⟨fun x hx=>?_,List.pairwise_append.2 ⟨pieces_gap hab,i1.gap,fun x hx y hy=>?_⟩⟩,fun n=>?_,fun k hk x hx=>?_⟩
  ·rcases List.mem_append.1 hx with hx | hx
   ·have:=pieces_mem hr.1 hx;omega
   ·exact i1.run x hx
  ·have h1:=pieces_mem hr.1 hx
   have h2:=i3 (r.2+2) (fun z hz=>by have:=h.head z hz;omega) y hy
   omega
  ·rw [hasR_append,Zf,i2,pieces_has n hab]
   constructor
   ·rintro (⟨p,q⟩ | ⟨p,q⟩)
    ·exact ⟨.inl p,q⟩
    ·exact ⟨.inr p,q⟩
   ·rintro ⟨p | p,q⟩
    ·exact .inl ⟨p,q⟩
    ·exact .inr ⟨p,q⟩
  ·rcases List.mem_append.1 hx with hx | hx
   ·have h1:=pieces_mem hr.1 hx
    have:=hk r (by simp)
    omega
   ·exact i3 k (fun z hz=>hk z (by simp [hz])) x hx
theorem fromR_ok {l:List RunN} (h:RSet l) (n:Nat):RSet (Ua l n)/\∀ m,HasR (Ua l n) m ↔ HasR l m/\n<=m:=by
 unfold Ua
 by_cases h0:n=0
 ·rw [if_pos h0]
  exact ⟨h,fun m=>⟨fun a=>⟨a,by omega⟩,fun a=>a.1⟩⟩
 ·rw [if_neg h0]
  obtain ⟨i1,i2,_⟩:=withoutR_ok (a:=0) (b:=n - 1) h (by omega)
  refine ⟨i1,fun m=>?_⟩
  rw [i2]
  constructor
  ·rintro ⟨a,b⟩;exact ⟨a,by omega⟩
  ·rintro ⟨a,b⟩;exact ⟨a,by omega⟩
theorem Hh:∀ {l:List RunN} {n:Nat},RSet l->∀ r,l[Yr l n]?=some r->n<=r.2/\(∀ m,n<=m->HasR l m->r.1<=m)
 | [],n,_,r,h=>by simp at h
 | s :: l,n,h,r,hr=>by
  rw [findR_cons] at hr
  by_cases hc:n<=s.2
  ·rw [if_pos hc] at hr
   simp at hr
   subst hr
   refine ⟨hc,fun m hm hh=>?_⟩
   rcases (Zf _ _ _).1 hh with a | a
   ·exact a.1
   ·have:=h.above a;have:=(h.run s (by simp)).1;omega
  ·rw [if_neg hc] at hr
   simp at hr
   obtain ⟨i1,i2⟩:=Hh h.tail r hr
   refine ⟨i1,fun m hm hh=>?_⟩
   rcases (Zf _ _ _).1 hh with a | a
   ·omega
   ·exact i2 m hm a
theorem findR_none:∀ {l:List RunN} {n:Nat},l[Yr l n]?=none->∀ m,n<=m->¬HasR l m
 | [],n,_,m,_,hh=>HasR.nil _ hh
 | s :: l,n,hr,m,hm,hh=>by
  rw [findR_cons] at hr
  by_cases hc:n<=s.2
  ·rw [if_pos hc] at hr
   simp at hr
  ·rw [if_neg hc] at hr
   rcases (Zf _ _ _).1 hh with a | a
   ·omega
   ·exact findR_none (l:=l) (n:=n) (by simpa using hr) m hm a
theorem Ul {l:List RunN} {n:Nat} {r:RunN} (h:l[Yr l n]?=some r):r∈l:=List.mem_of_getElem? h
theorem has_find {l:List RunN} (h:RSet l) (n:Nat):HasR l n ↔ ∃ r,l[Yr l n]?=some r/\r.1<=n:=by
 constructor
 ·intro hh
  cases e:l[Yr l n]? with
  | none=>exact (findR_none e n (Nat.le_refl _) hh).elim
  | some r=>exact ⟨r,rfl,(Hh h r e).2 n (Nat.le_refl _) hh⟩
 ·rintro ⟨r,e,hr⟩
  exact ⟨r,Ul e,hr,(Hh h r e).1⟩
theorem RSet.top {l:List RunN} (h:RSet l) {r:RunN} (hr:r∈l) {n:Nat} (hn:n=r.2+1):¬HasR l n:=by
 rintro ⟨s,hs,h1,h2⟩
 obtain ⟨i,hi,rfl⟩:=List.getElem_of_mem hr
 obtain ⟨j,hj,rfl⟩:=List.getElem_of_mem hs
 rcases Nat.lt_trichotomy i j with hij | hij | hij
 ·have:=List.pairwise_iff_getElem.1 h.gap i j hi hj hij
  omega
 ·subst hij;omega
 ·have:=List.pairwise_iff_getElem.1 h.gap j i hj hi hij
  have:=h.run _ hr
  omega
theorem gapR_ok {l:List RunN} (h:RSet l) {n m:Nat} (hg:gapR l n=some m):n<=m/\¬HasR l m/\∀ k,n<=k->k<m->HasR l k:=by
 unfold gapR at hg
 split at hg
 ·rename_i e
  simp at hg
  subst hg
  exact ⟨Nat.le_refl _,findR_none e n (Nat.le_refl _),fun k h1 h2=>by omega⟩
 ·rename_i r e
  obtain ⟨h1,h2⟩:=Hh h r e
  split at hg
  ·rename_i hlt
   simp at hg
   subst hg
   exact ⟨Nat.le_refl _,fun hh=>by have:=h2 n (Nat.le_refl _) hh;omega,fun k h1 h2=>by omega⟩
  ·rename_i hlt
   split at hg
   ·simp at hg
   ·simp at hg
    subst hg
    exact ⟨by omega,h.top (Ul e) rfl,fun k hk hk2=>⟨r,Ul e,by omega,by omega⟩⟩
theorem gapR_some {l:List RunN} {n:Nat} (hb:∀ r∈l,r.2<18446744073709551615):∃ m,gapR l n=some m:=by
 unfold gapR
 split
 ·exact ⟨n,rfl⟩
 ·rename_i r e
  split
  ·exact ⟨n,rfl⟩
  ·rw [if_neg (by have:=hb r (Ul e);omega)]
   exact ⟨_,rfl⟩
end Go.Proofs.YtfdmbomlkpkegaaGreat
namespace Go.Proofs.YtfdmbomlkpkegaaGreat
def hasB (l:List RunN) (n:Nat):Bool:=match l[Yr l n]? with
 | none=>false
 | some r=>decide (r.1<=n)
theorem hasB_iff {l:List RunN} (h:RSet l) (n:Nat):hasB l n=true ↔ HasR l n:=by
 rw [has_find h]
 unfold hasB
 split
 ·rename_i e
  simp [e]
 ·rename_i r e
  simp [e]
structure WinS where
 low:Nat
 width:Nat
 set:List RunN
deriving DecidableEq
def WinS.Had (w:WinS) (n:Nat):Prop:=n<=w.low\/HasR w.set n
def WinS.had (w:WinS) (n:Nat):Bool:=decide (n<=w.low) || hasB w.set n
def WinS.takes (w:WinS) (n:Nat):Bool:=!w.had n && decide (n<=w.low+w.width)
def WinS.lowC (w:WinS):Nat:=match gapR w.set (w.low+1) with
 | none=>w.low
 | some n=>n - 1
def WinS.closed (w:WinS):WinS:=⟨w.lowC,w.width,Ua w.set (w.lowC+1)⟩
def WinS.put (w:WinS) (n:Nat):WinS:=if w.takes n=true then (⟨w.low,w.width,Yq w.set n n⟩:WinS).closed else w
def WinS.skip (w:WinS) (b:Nat):WinS:=if b<=w.low+1 then w else (⟨b - 1,w.width,w.set⟩:WinS).closed
def WinS.new (width:Nat):WinS:=⟨0,width,[]⟩
structure WinS.Ok (w:WinS):Prop where
 set:RSet w.set
 low:w.low<4611686018427387904
 width:1<=w.width/\w.width<=1024
 above:∀ n,HasR w.set n->w.low+1<n/\n<=w.low+w.width/\n<4611686018427387904
theorem WinS.Ok.new {width:Nat} (h:1<=width/\width<=1024):(WinS.new width).Ok:=⟨RSet.nil,(by show (0:Nat)<_;decide),h,fun n hn=>(HasR.nil _ hn).elim⟩
theorem WinS.Ok.had {w:WinS} (h:w.Ok) (n:Nat):w.had n=true ↔ w.Had n:=by
 unfold WinS.had WinS.Had
 rw [Bool.or_eq_true,decide_eq_true_eq,hasB_iff h.set]
theorem WinS.Ok.takes {w:WinS} (h:w.Ok) (n:Nat):w.takes n=true ↔ ¬w.Had n/\n<=w.low+w.width:=by
 unfold WinS.takes
 rw [Bool.and_eq_true,decide_eq_true_eq,<- h.had]
 cases w.had n <;> simp
theorem RSet.last {l:List RunN} (h:RSet l) {r:RunN} (hr:r∈l):HasR l r.2:=⟨r,hr,(h.run r hr).1,Nat.le_refl _⟩
theorem RSet.first {l:List RunN} (h:RSet l) {r:RunN} (hr:r∈l):HasR l r.1:=⟨r,hr,Nat.le_refl _,(h.run r hr).1⟩
theorem Gw {w:WinS} (h:RSet w.set) (hb:∀ r∈w.set,r.2<18446744073709551615) :
  RSet w.closed.set/\(∀ n,w.closed.Had n ↔ w.Had n)/\(∀ n,HasR w.closed.set n->w.closed.low+1<n/\HasR w.set n)/\w.low<=w.closed.low/\(w.closed.low=w.low\/HasR w.set w.closed.low):=by
 obtain ⟨m,hm⟩:=gapR_some (n:=w.low+1) hb
 obtain ⟨g1,g2,g3⟩:=gapR_ok h hm
 have e:w.lowC=m - 1:=by unfold WinS.lowC;rw [hm]
 have e1:m - 1+1=m:=by omega
 obtain ⟨f1,f2⟩:=fromR_ok h m
 unfold WinS.closed WinS.Had
 rw [e,e1]
 simp only
 refine ⟨f1,fun n=>?_,fun n hn=>?_,by omega,?_⟩
 ·rw [f2]
  constructor
  ·rintro (a | a)
   ·by_cases hl:n<=w.low
    ·exact .inl hl
    ·exact .inr (g3 n (by omega) (by omega))
   ·exact .inr a.1
  ·rintro (a | a)
   ·exact .inl (by omega)
   ·by_cases hl:n<=m - 1
    ·exact .inl hl
    ·exact .inr ⟨a,by omega⟩
 ·obtain ⟨a,b⟩:=(f2 n).1 hn
  refine ⟨?_,a⟩
  rcases Nat.lt_or_ge m n with hlt | hge
  ·omega
  ·have:n=m:=by omega
   subst this
   exact (g2 a).elim
 ·by_cases hl:m - 1=w.low
  ·exact .inl hl
  ·exact .inr (g3 (m - 1) (by omega) (by omega))
theorem WinS.Ok.skip {w:WinS} (h:w.Ok) {b:Nat} (hb:b<=4611686018427387904):(w.skip b).Ok/\(w.skip b).width=w.width/\w.low<=(w.skip b).low/\∀ n,(w.skip b).Had n ↔ w.Had n\/n<b:=by
 unfold WinS.skip
 by_cases hc:b<=w.low+1
 ·rw [if_pos hc]
  exact ⟨h,rfl,Nat.le_refl _,fun n=>⟨.inl,fun a=>a.elim id (fun (c:n<b)=>.inl (by omega))⟩⟩
 ·rw [if_neg hc]
  have hw:=h.width
  have hl:=h.low
  obtain ⟨c1,c2,c3,c4,c5⟩:=Gw (w:=⟨b - 1,w.width,w.set⟩) h.set (fun r hr=>by have:=(h.above _ (h.set.last hr)).2;omega)
  simp only at c2 c3 c4 c5
  refine ⟨⟨c1,?_,hw,fun n hn=>⟨(c3 n hn).1,?_⟩⟩,rfl,by omega,fun n=>?_⟩
  ·rcases c5 with c5 | c5
   ·rw [c5];omega
   ·exact (h.above _ c5).2.2
  ·have:=(h.above n (c3 n hn).2).2
   have e:(⟨b - 1,w.width,w.set⟩:WinS).closed.width=w.width:=rfl
   omega
  ·rw [c2]
   unfold WinS.Had
   simp only
   constructor
   ·rintro (a | a)
    ·exact .inr (by omega)
    ·exact .inl (.inr a)
   ·rintro ((a | a) | a)
    ·exact .inl (by omega)
    ·exact .inr a
    ·exact .inl (by omega)
theorem WinS.Ok.put {w:WinS} (h:w.Ok) {n:Nat} (hn:n<4611686018427387904):(w.put n).Ok/\(w.put n).width=w.width/\w.low<=(w.put n).low/\∀ m,(w.put n).Had m ↔ w.Had m\/(w.takes n=true/\m=n):=by
 unfold WinS.put
 by_cases ht:w.takes n=true
 ·rw [if_pos ht]
  obtain ⟨t1,t2⟩:=(h.takes n).1 ht
  have hw:=h.width
  have hl:=h.low
  have hnl:w.low<n:=Nat.lt_of_not_le (fun hc=>t1 (.inl hc))
  obtain ⟨s1,s2⟩:=spanR_ok (f:=n) (t:=n) h.set (by omega)
  have hs2:∀ k,HasR (Yq w.set n n) k->w.low<k/\k<=w.low+w.width/\k<4611686018427387904:=fun k hk=>by
   rcases (s2 k).1 hk with a | a
   ·have:=h.above k a;omega
   ·have:k=n:=by omega
    subst this
    exact ⟨hnl,t2,hn⟩
  obtain ⟨c1,c2,c3,c4,c5⟩:=Gw (w:=⟨w.low,w.width,Yq w.set n n⟩) s1 (fun r hr=>by have:=(hs2 _ (s1.last hr)).2;omega)
  simp only at c2 c3 c4 c5
  refine ⟨⟨c1,?_,hw,fun k hk=>⟨(c3 k hk).1,?_⟩⟩,rfl,c4,fun m=>?_⟩
  ·rcases c5 with c5 | c5
   ·rw [c5];exact hl
   ·exact (hs2 _ c5).2.2
  ·have:=hs2 k (c3 k hk).2
   have e:(⟨w.low,w.width,Yq w.set n n⟩:WinS).closed.width=w.width:=rfl
   omega
  ·rw [c2]
   unfold WinS.Had
   simp only [s2]
   constructor
   ·rintro (a | a | a)
    ·exact .inl (.inl a)
    ·exact .inl (.inr a)
    ·exact .inr ⟨ht,by omega⟩
   ·rintro ((a | a) | ⟨_,a⟩)
    ·exact .inl a
    ·exact .inr (.inl a)
    ·exact .inr (.inr (by omega))
 ·rw [if_neg ht]
  exact ⟨h,rfl,Nat.le_refl _,fun m=>⟨.inl,fun a=>a.elim id (fun c=>(ht c.1).elim)⟩⟩
end Go.Proofs.YtfdmbomlkpkegaaGreat
namespace Go.Dr
open Go
section
variable {P:Program} {ops:Array Oper} {Q:Exit->Act->World->Prop} {md:Region.Mode} {S:World->Prop} {T:Nat->Bool}
def Gf (md:Region.Mode) (ops:Array Oper) (j:Nat):List Nat->Array Bool->Bool
 | [],listed=>Region.ready md ops listed==[j]
 | i :: r,listed=>(Region.ready md ops listed).all (fun x=>x==i || x==j) && !(Region.ready md ops listed).isEmpty && Jv md ops (i :: r) (listed.setIfInBounds j true) && Gf md ops j r (listed.setIfInBounds i true)
theorem setAll_set:∀ (m:List Nat) (listed:Array Bool) (j:Nat),Zm m (listed.setIfInBounds j true)=(Zm m listed).setIfInBounds j true
 | [],_,_=>rfl
 | i :: r,listed,j=>by
  show Zm r ((listed.setIfInBounds j true).setIfInBounds i true)=(Zm r (listed.setIfInBounds i true)).setIfInBounds j true
  rw [<- setAll_set r (listed.setIfInBounds i true) j]
  by_cases h:i=j
  ·subst h;rfl
  ·rw [Array.setIfInBounds_comm _ _ h]
theorem float_pre {K:Act->World->Prop} (j:Nat) :
  ∀ (m:List Nat) (Ms:List Oper),Zo ops m Ms->(hj:∃ o,ops[j]?=some o)->∀ (fuel:Nat) (listed:Array Bool) (a:Act) (w:World),Ya md ops listed->S w->Gf md ops j m listed=true->Rn P ops Q S K j m a w ->
   (∀ a w,S w->Ya md ops ((Zm m listed).setIfInBounds j true)->K a w->Vk P md ops Q S T fuel ((Zm m listed).setIfInBounds j true) a w) ->
   Vk P md ops Q S T (fuel+(m.length+1)) listed a w:=by
 intro m Ms hp hj
 obtain ⟨oj,hj⟩:=hj
 have step:∀ (i:Nat) (oi:Oper),ops[i]?=some oi->∀ (K1:Act->World->Prop) (a:Act) (w:World),midN P ops Q S K1 [i] a w ->
   wpOp P ops Q i (fun a' w'=>S w'/\K1 a' w') a w:=by
  intro i oi hi K1 a w h
  obtain ⟨o,ho,h⟩:=h
  have ho':ops[i]?=some o:=by rw [<- Array.getElem?_toList];exact ho
  rw [hi] at ho'
  cases ho'
  unfold wpOp
  simp only [hi]
  split
  ·rename_i hw
   rw [if_pos hw] at h
   exact .inl (Oper.wp_mono (fun a' w' h'=>⟨h'.1,h'.2⟩) h)
  ·rename_i hw
   rw [if_neg hw] at h
   exact ⟨h.1,h.2⟩
 induction hp using Zo.rec' with
 | h0 =>
  intro fuel listed a w hcl hS hc h hK
  have hf:Jv md ops [j] listed=true:=by
   simp only [Gf,beq_iff_eq] at hc
   simp [Jv,hc]
  exact Gg (T:=T) (S:=S) (Q:=Q) (P:=P) (md:=md) [j] [oj] (Zo.cons hj Zo.nil) fuel listed a w _ hcl hS hf (Yp [j] [oj] (Zo.cons hj Zo.nil) a w h) hK
 | h1 i o r l hi hr ih =>
  intro fuel listed a w hcl hS hc h hK
  simp only [Gf,Bool.and_eq_true,Bool.not_eq_true',List.all_eq_true,Bool.or_eq_true,beq_iff_eq] at hc
  obtain ⟨⟨⟨hall,hne⟩,hfs⟩,hfc⟩:=hc
  obtain ⟨hA,hB⟩:=h
  rw [List.length_cons,<- Nat.add_assoc]
  refine ⟨fun h0=>(by rw [h0] at hne;simp at hne),fun x hx=>?_⟩
  rcases hall x hx with rfl | rfl
  ·exact wpOp_mono (fun a' w' h'=>⟨fun _=>h'.1,ih fuel _ a' w' (hcl.set hx) h'.1 hfc h'.2 hK⟩) (step x o hi _ a w hB)
  ·refine wpOp_mono (fun a' w' h'=>⟨fun _=>h'.1,?_⟩) (step x oj hj _ a w (show midN P ops Q S (fun a' w'=>midN P ops Q S K (i :: r) a' w') [x] a w from hA))
   have he:=setAll_set (i :: r) listed x
   refine Gg (T:=T) (S:=S) (Q:=Q) (P:=P) (md:=md) (i :: r) (o :: l) (Zo.cons hi hr) fuel _ a' w' K (hcl.set hx) h'.1 hfs (Yp (i :: r) (o :: l) (Zo.cons hi hr) a' w' h'.2) ?_
   intro a2 w2 hS2 hcl2 hk2
   rw [he] at hcl2 ⊢
   exact hK a2 w2 hS2 hcl2 hk2
def Hn:List (Option Nat × List Nat × List Nat)->Nat
 | []=>0
 | (none,E,m) :: r=>Hn r+m.length+E.length
 | (some _,E,m) :: r=>Hn r+(m.length+1)+E.length
def Jb (ops:Array Oper):List (Option Nat × List Nat × List Nat)->Array Bool->Bool
 | [],listed=>(Region.ready .any ops listed).isEmpty
 | (none,E,m) :: r,listed=>Ym .any ops (fun _=>false) E listed && Jv .any ops m (Zm E listed) && (m.all fun i=>decide (i<ops.size)) && Jb ops r (Zm m (Zm E listed))
 | (some j,E,m) :: r,listed=>Ym .any ops (fun _=>false) E listed && Gf .any ops j m (Zm E listed) && ((j :: m).all fun i=>decide (i<ops.size)) && Jb ops r ((Zm m (Zm E listed)).setIfInBounds j true)
def Vg (P:Program) (ops:Array Oper) (Q:Exit->Act->World->Prop) (S:World->Prop):List (Option Nat × List Nat × List Nat)->Act->World->Prop
 | [],a,w=>wpList P ops Q [] a w
 | (none,E,m) :: r,a,w=>Yc P ops S (fun _ a'=>midN P ops Q S (fun a2 w2=>Vg P ops Q S r a2 w2) m a' w) E [] a
 | (some j,E,m) :: r,a,w=>Yc P ops S (fun _ a'=>Rn P ops Q S (fun a2 w2=>Vg P ops Q S r a2 w2) j m a' w) E [] a
theorem stagesFN_some {j:Nat} {E m:List Nat} {r:List (Option Nat × List Nat × List Nat)} {a:Act} {w:World} (h:Yc P ops S (fun _ a'=>Rn P ops Q S (fun a2 w2=>Vg P ops Q S r a2 w2) j m a' w) E [] a):Vg P ops Q S ((some j,E,m) :: r) a w:=h
theorem Jz {E m:List Nat} {r:List (Option Nat × List Nat × List Nat)} {a:Act} {w:World} (h:Yc P ops S (fun _ a'=>midN P ops Q S (fun a2 w2=>Vg P ops Q S r a2 w2) m a' w) E [] a):Vg P ops Q S ((none,E,m) :: r) a w:=h
theorem stagesFN_nil {a:Act} {w:World} (h:wpList P ops Q [] a w):Vg P ops Q S [] a w:=h
theorem stagesF_take (hs:Region.noSelect ops=true) (hQ:∀ c a d v w,Q (.panic c) (Act.put a (some d) v) w->Q (.panic c) a w) :
  ∀ (st:List (Option Nat × List Nat × List Nat)) (listed:Array Bool) (a:Act) (w:World),Ya .any ops listed->S w->Jb ops st listed=true->Vg P ops Q S st a w->Vk P .any ops Q S (fun _=>false) (Hn st) listed a w:=by
 intro st
 induction st with
 | nil =>
  intro listed a w _ _ hc h
  simp only [Jb,List.isEmpty_iff] at hc
  exact ⟨hc,h⟩
 | cons e r ih =>
  obtain ⟨o,E,m⟩:=e
  intro listed a w hcl hS hc h
  cases o with
  | none =>
   simp only [Jb,Bool.and_eq_true] at hc
   obtain ⟨⟨⟨h2,h3⟩,hm'⟩,h4⟩:=hc
   simp only [Vg] at h
   obtain ⟨Es,hE,he⟩:=Xb E [] a h
   obtain ⟨Ms,hM⟩:=Jp ops m hm'
   refine Yw hs hQ hS E Es hE (Hn r+m.length) _ a hcl h2 he ?_
   intro a' ha'
   refine Gg m Ms hM (Hn r) _ a' _ _ (Yn E listed hcl h2) hS h3 (Yp m Ms hM a' _ ha') ?_
   intro a2 w2 hS2 hcl2 hK
   exact ih _ a2 w2 hcl2 hS2 h4 hK
  | some j =>
   simp only [Jb,Bool.and_eq_true,List.all_cons,decide_eq_true_eq] at hc
   obtain ⟨⟨⟨h2,h3⟩,hj,hm'⟩,h4⟩:=hc
   simp only [Vg] at h
   obtain ⟨Es,hE,he⟩:=Xb E [] a h
   obtain ⟨Ms,hM⟩:=Jp ops m hm'
   refine Yw hs hQ hS E Es hE (Hn r+(m.length+1)) _ a hcl h2 he ?_
   intro a' ha'
   refine float_pre j m Ms hM ⟨_,Array.getElem?_eq_getElem hj⟩ (Hn r) _ a' _ (Yn E listed hcl h2) hS h3 ha' ?_
   intro a2 w2 hS2 hcl2 hK
   exact ih _ a2 w2 hcl2 hS2 h4 hK
theorem wp_drawFS {id:Nat} {a:Act} {w:World} (S:World->Prop) (st:List (Option Nat × List Nat × List Nat)) (hm:P.follows .mixedOrders=true)
  (hc:(Region.noSelect ops && Jb ops st (Array.replicate ops.size false) && (Hn st==ops.size))=true)
  (hQ:∀ c a d v w,Q (.panic c) (Act.put a (some d) v) w->Q (.panic c) a w) (hS:S w.drew)
  (h:Vg P ops Q S st a w.drew):(Code.region id ops true).wp P Q a w:=by
 simp only [Bool.and_eq_true,beq_iff_eq] at hc
 obtain ⟨⟨h1,h2⟩,h3⟩:=hc
 refine wp_region_any hm (Vt (S:=S) (T:=fun _=>false) _ _ _ _ ?_)
 generalize hl:Array.replicate ops.size false=l at h2 ⊢
 have hcl:Ya .any ops l:=by
  intro j o hj hl'
  have hlt:j<ops.size:=(Array.getElem?_eq_some_iff.1 hj).1
  subst hl
  simp [hlt] at hl'
 rw [<- h3]
 exact stagesF_take h1 hQ st l a w.drew hcl hS h2 h
end
end Go.Dr
namespace Go.Dr
open Go
section
variable {P:Program} {ops:Array Oper} {Q:Exit->Act->World->Prop} {S:World->Prop}
def Gd (ops:Array Oper) (E2:List Nat) (j:Nat):List Nat->Array Bool->Bool
 | [],listed=>Ym .any ops (fun _=>false) E2 listed && (Region.ready .any ops (Zm E2 listed)==[j])
 | i :: r,listed=>(Region.ready .any ops listed).all (fun x=>x==i || x==j) && !(Region.ready .any ops listed).isEmpty && Jv .any ops (i :: r) (listed.setIfInBounds j true) &&
   Ym .any ops (fun _=>false) E2 (Zm (i :: r) (listed.setIfInBounds j true)) && Gd ops E2 j r (listed.setIfInBounds i true)
def Rs (P:Program) (ops:Array Oper) (Q:Exit->Act->World->Prop) (S:World->Prop) (K:Act->World->Prop) (j:Nat) (E2:List Nat):List Nat->Act->World->Prop
 | [],a,w=>Yc P ops S (fun _ a'=>midN P ops Q S K [j] a' w) E2 [] a
 | i :: r,a,w=>midN P ops Q S (fun a2 w2=>Yc P ops S (fun _ a'=>K a' w2) E2 [] a2) (j :: i :: r) a w/\midN P ops Q S (fun a' w'=>Rs P ops Q S K j E2 r a' w') [i] a w
theorem float_pre2 {K:Act->World->Prop} (hs:Region.noSelect ops=true) (hQ:∀ c a d v w,Q (.panic c) (Act.put a (some d) v) w->Q (.panic c) a w) (j:Nat) (E2:List Nat) :
  ∀ (m:List Nat) (Ms:List Oper),Zo ops m Ms->(hj:∃ o,ops[j]?=some o)->∀ (fuel:Nat) (listed:Array Bool) (a:Act) (w:World),Ya .any ops listed->S w->Gd ops E2 j m listed=true->Rs P ops Q S K j E2 m a w ->
   (∀ a w,S w->Ya .any ops ((Zm E2 (Zm m listed)).setIfInBounds j true)->K a w->Vk P .any ops Q S (fun _=>false) fuel ((Zm E2 (Zm m listed)).setIfInBounds j true) a w) ->
   Vk P .any ops Q S (fun _=>false) (fuel+E2.length+(m.length+1)) listed a w:=by
 intro m Ms hp hj
 obtain ⟨oj,hj⟩:=hj
 have step:∀ (i:Nat) (oi:Oper),ops[i]?=some oi->∀ (K1:Act->World->Prop) (a:Act) (w:World),midN P ops Q S K1 [i] a w ->
   wpOp P ops Q i (fun a' w'=>S w'/\K1 a' w') a w:=by
  intro i oi hi K1 a w h
  obtain ⟨o,ho,h⟩:=h
  have ho':ops[i]?=some o:=by rw [<- Array.getElem?_toList];exact ho
  rw [hi] at ho'
  cases ho'
  unfold wpOp
  simp only [hi]
  split
  ·rename_i hw
   rw [if_pos hw] at h
   exact .inl (Oper.wp_mono (fun a' w' h'=>⟨h'.1,h'.2⟩) h)
  ·rename_i hw
   rw [if_neg hw] at h
   exact ⟨h.1,h.2⟩
 induction hp using Zo.rec' with
 | h0 =>
  intro fuel listed a w hcl hS hc h hK
  simp only [Gd,Bool.and_eq_true,beq_iff_eq] at hc
  obtain ⟨h2,h3⟩:=hc
  have hf:Jv .any ops [j] (Zm E2 listed)=true:=by simp [Jv,h3]
  simp only [Rs] at h
  obtain ⟨Es,hE,he⟩:=Xb E2 [] a h
  rw [show fuel+E2.length+(([]:List Nat).length+1)=(fuel+1)+E2.length by simp;omega]
  refine Yw hs hQ hS E2 Es hE (fuel+1) _ a hcl h2 he ?_
  intro a' ha'
  exact Gg (T:=fun _=>false) (S:=S) (Q:=Q) (P:=P) (md:=.any) [j] [oj] (Zo.cons hj Zo.nil) fuel _ a' w _ (Yn E2 listed hcl h2) hS hf (Yp [j] [oj] (Zo.cons hj Zo.nil) a' w ha') hK
 | h1 i o r l hi hr ih =>
  intro fuel listed a w hcl hS hc h hK
  simp only [Gd,Bool.and_eq_true,Bool.not_eq_true',List.all_eq_true,Bool.or_eq_true,beq_iff_eq] at hc
  obtain ⟨⟨⟨⟨hall,hne⟩,hfs⟩,htk⟩,hfc⟩:=hc
  obtain ⟨hA,hB⟩:=h
  rw [List.length_cons,<- Nat.add_assoc]
  refine ⟨fun h0=>(by rw [h0] at hne;simp at hne),fun x hx=>?_⟩
  rcases hall x hx with rfl | rfl
  ·exact wpOp_mono (fun a' w' h'=>⟨fun _=>h'.1,ih fuel _ a' w' (hcl.set hx) h'.1 hfc h'.2 hK⟩) (step x o hi _ a w hB)
  ·refine wpOp_mono (fun a' w' h'=>⟨fun _=>h'.1,?_⟩) (step x oj hj _ a w (show midN P ops Q S (fun a' w'=>midN P ops Q S (fun a2 w2=>Yc P ops S (fun _ a'=>K a' w2) E2 [] a2) (i :: r) a' w') [x] a w from hA))
   have he:=setAll_set (i :: r) listed x
   have he2:=setAll_set E2 (Zm (i :: r) listed) x
   refine Gg (T:=fun _=>false) (S:=S) (Q:=Q) (P:=P) (md:=.any) (i :: r) (o :: l) (Zo.cons hi hr) (fuel+E2.length) _ a' w' _ (hcl.set hx) h'.1 hfs (Yp (i :: r) (o :: l) (Zo.cons hi hr) a' w' h'.2) ?_
   intro a2 w2 hS2 hcl2 hk2
   obtain ⟨Es,hE,hee⟩:=Xb E2 [] a2 hk2
   refine Yw hs hQ hS2 E2 Es hE fuel _ a2 hcl2 htk hee ?_
   intro a3 ha3
   have hcl3:=Yn E2 _ hcl2 htk
   rw [he,he2] at hcl3 ⊢
   exact hK a3 w2 hS2 hcl3 ha3
def Hp:List (Option (Nat × List Nat) × List Nat × List Nat)->Nat
 | []=>0
 | (none,E,m) :: r=>Hp r+m.length+E.length
 | (some (_,E2),E,m) :: r=>Hp r+E2.length+(m.length+1)+E.length
def Ja (ops:Array Oper):List (Option (Nat × List Nat) × List Nat × List Nat)->Array Bool->Bool
 | [],listed=>(Region.ready .any ops listed).isEmpty
 | (none,E,m) :: r,listed=>Ym .any ops (fun _=>false) E listed && Jv .any ops m (Zm E listed) && (m.all fun i=>decide (i<ops.size)) && Ja ops r (Zm m (Zm E listed))
 | (some (j,E2),E,m) :: r,listed=>Ym .any ops (fun _=>false) E listed && Gd ops E2 j m (Zm E listed) && ((j :: m).all fun i=>decide (i<ops.size)) && Ja ops r ((Zm E2 (Zm m (Zm E listed))).setIfInBounds j true)
def Vd (P:Program) (ops:Array Oper) (Q:Exit->Act->World->Prop) (S:World->Prop):List (Option (Nat × List Nat) × List Nat × List Nat)->Act->World->Prop
 | [],a,w=>wpList P ops Q [] a w
 | (none,E,m) :: r,a,w=>Yc P ops S (fun _ a'=>midN P ops Q S (fun a2 w2=>Vd P ops Q S r a2 w2) m a' w) E [] a
 | (some (j,E2),E,m) :: r,a,w=>Yc P ops S (fun _ a'=>Rs P ops Q S (fun a2 w2=>Vd P ops Q S r a2 w2) j E2 m a' w) E [] a
theorem stagesTN_some {j:Nat} {E m E2:List Nat} {r:List (Option (Nat × List Nat) × List Nat × List Nat)} {a:Act} {w:World} (h:Yc P ops S (fun _ a'=>Rs P ops Q S (fun a2 w2=>Vd P ops Q S r a2 w2) j E2 m a' w) E [] a):Vd P ops Q S ((some (j,E2),E,m) :: r) a w:=h
theorem stagesTN_none {E m:List Nat} {r:List (Option (Nat × List Nat) × List Nat × List Nat)} {a:Act} {w:World} (h:Yc P ops S (fun _ a'=>midN P ops Q S (fun a2 w2=>Vd P ops Q S r a2 w2) m a' w) E [] a):Vd P ops Q S ((none,E,m) :: r) a w:=h
theorem stagesTN_nil {a:Act} {w:World} (h:wpList P ops Q [] a w):Vd P ops Q S [] a w:=h
theorem stagesT_take (hs:Region.noSelect ops=true) (hQ:∀ c a d v w,Q (.panic c) (Act.put a (some d) v) w->Q (.panic c) a w) :
  ∀ (st:List (Option (Nat × List Nat) × List Nat × List Nat)) (listed:Array Bool) (a:Act) (w:World),Ya .any ops listed->S w->Ja ops st listed=true->Vd P ops Q S st a w->Vk P .any ops Q S (fun _=>false) (Hp st) listed a w:=by
 intro st
 induction st with
 | nil =>
  intro listed a w _ _ hc h
  simp only [Ja,List.isEmpty_iff] at hc
  exact ⟨hc,h⟩
 | cons e r ih =>
  obtain ⟨o,E,m⟩:=e
  intro listed a w hcl hS hc h
  cases o with
  | none =>
   simp only [Ja,Bool.and_eq_true] at hc
   obtain ⟨⟨⟨h2,h3⟩,hm'⟩,h4⟩:=hc
   simp only [Vd] at h
   obtain ⟨Es,hE,he⟩:=Xb E [] a h
   obtain ⟨Ms,hM⟩:=Jp ops m hm'
   refine Yw hs hQ hS E Es hE (Hp r+m.length) _ a hcl h2 he ?_
   intro a' ha'
   refine Gg m Ms hM (Hp r) _ a' _ _ (Yn E listed hcl h2) hS h3 (Yp m Ms hM a' _ ha') ?_
   intro a2 w2 hS2 hcl2 hK
   exact ih _ a2 w2 hcl2 hS2 h4 hK
  | some je =>
   obtain ⟨j,E2⟩:=je
   simp only [Ja,Bool.and_eq_true,List.all_cons,decide_eq_true_eq] at hc
   obtain ⟨⟨⟨h2,h3⟩,hj,hm'⟩,h4⟩:=hc
   simp only [Vd] at h
   obtain ⟨Es,hE,he⟩:=Xb E [] a h
   obtain ⟨Ms,hM⟩:=Jp ops m hm'
   refine Yw hs hQ hS E Es hE (Hp r+E2.length+(m.length+1)) _ a hcl h2 he ?_
   intro a' ha'
   refine float_pre2 hs hQ j E2 m Ms hM ⟨_,Array.getElem?_eq_getElem hj⟩ (Hp r) _ a' _ (Yn E listed hcl h2) hS h3 ha' ?_
   intro a2 w2 hS2 hcl2 hK
   exact ih _ a2 w2 hcl2 hS2 h4 hK
theorem wp_drawFT {id:Nat} {a:Act} {w:World} (S:World->Prop) (st:List (Option (Nat × List Nat) × List Nat × List Nat)) (hm:P.follows .mixedOrders=true)
  (hc:(Region.noSelect ops && Ja ops st (Array.replicate ops.size false) && (Hp st==ops.size))=true)
  (hQ:∀ c a d v w,Q (.panic c) (Act.put a (some d) v) w->Q (.panic c) a w) (hS:S w.drew)
  (h:Vd P ops Q S st a w.drew):(Code.region id ops true).wp P Q a w:=by
 simp only [Bool.and_eq_true,beq_iff_eq] at hc
 obtain ⟨⟨h1,h2⟩,h3⟩:=hc
 refine wp_region_any hm (Vt (S:=S) (T:=fun _=>false) _ _ _ _ ?_)
 generalize hl:Array.replicate ops.size false=l at h2 ⊢
 have hcl:Ya .any ops l:=by
  intro j o hj hl'
  have hlt:j<ops.size:=(Array.getElem?_eq_some_iff.1 hj).1
  subst hl
  simp [hlt] at hl'
 rw [<- h3]
 exact stagesT_take h1 hQ st l a w.drew hcl hS h2 h
end
end Go.Dr
