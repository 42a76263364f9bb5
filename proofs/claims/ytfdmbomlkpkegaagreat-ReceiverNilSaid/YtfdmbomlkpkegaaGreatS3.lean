/- Lemmas for ReceiverNil. -/
import Derived.Test.YtfdmbomlkpkegaaGreatS0
set_option maxRecDepth 100000
set_option maxHeartbeats 8000000
set_option linter.all false
namespace Go.Proofs.YtfdmbomlkpkegaaGreat
abbrev RunN:=Nat × Nat
structure RSet (l:List RunN):Prop where
 run:∀ r∈l,r.1<=r.2/\r.2<18446744073709551616
 gap:l.Pairwise (fun a b=>a.2+1<b.1)
def HasR (l:List RunN) (n:Nat):Prop:=∃ r∈l,r.1<=n/\n<=r.2
def Yr (l:List RunN) (n:Nat):Nat:=l.findIdx (fun r=>decide (n<=r.2))
def Vu:List RunN->Nat->Nat->List RunN
 | [],f,t=>[(f,t)]
 | r :: l,f,t=>if r.1 - 1<=t then Vu l (min f r.1) (max t r.2) else (f,t) :: r :: l
def Yq (l:List RunN) (f t:Nat):List RunN:=if t<f then l else l.take (Yr l (f - 1))++Vu (l.drop (Yr l (f - 1))) f t
def Kg (a b:Nat) (r:RunN):List RunN:=if r.2<a\/b<r.1 then [r] else (if r.1<a then [(r.1,a - 1)] else [])++(if b<r.2 then [(b+1,r.2)] else [])
def Xj (l:List RunN) (a b:Nat):List RunN:=l.flatMap (Kg a b)
def Ua (l:List RunN) (n:Nat):List RunN:=if n=0 then l else Xj l 0 (n - 1)
def gapR (l:List RunN) (n:Nat):Option Nat:=match l[Yr l n]? with
 | none=>some n
 | some r=>if n<r.1 then some n else if r.2=18446744073709551615 then none else some (r.2+1)
theorem RSet.nil:RSet []:=⟨fun r h=>by simp at h,List.Pairwise.nil⟩
theorem HasR.nil (n:Nat):¬HasR [] n:=fun ⟨r,h,_⟩=>by simp at h
theorem Zf (r:RunN) (l:List RunN) (n:Nat):HasR (r :: l) n ↔ (r.1<=n/\n<=r.2)\/HasR l n:=by
 unfold HasR
 constructor
 ·rintro ⟨x,hx,h⟩
  rcases List.mem_cons.1 hx with rfl | hx
  ·exact .inl h
  ·exact .inr ⟨x,hx,h⟩
 ·rintro (h | ⟨x,hx,h⟩)
  ·exact ⟨r,by simp,h⟩
  ·exact ⟨x,by simp [hx],h⟩
theorem hasR_append (l m:List RunN) (n:Nat):HasR (l++m) n ↔ HasR l n\/HasR m n:=by
 induction l with
 | nil=>simp [HasR.nil]
 | cons r l ih=>rw [List.cons_append,Zf,Zf,ih,or_assoc]
theorem RSet.tail {r:RunN} {l:List RunN} (h:RSet (r :: l)):RSet l:=⟨fun x hx=>h.run x (by simp [hx]),(List.pairwise_cons.1 h.gap).2⟩
theorem RSet.head {r:RunN} {l:List RunN} (h:RSet (r :: l)):∀ x∈l,r.2+1<x.1:=(List.pairwise_cons.1 h.gap).1
theorem RSet.cons {r:RunN} {l:List RunN} (h:RSet l) (h1:r.1<=r.2) (h2:r.2<18446744073709551616) (h3:∀ x∈l,r.2+1<x.1):RSet (r :: l) :=
 ⟨fun x hx=>by rcases List.mem_cons.1 hx with rfl | hx;exact ⟨h1,h2⟩;exact h.run x hx,List.pairwise_cons.2 ⟨h3,h.gap⟩⟩
theorem RSet.above {r:RunN} {l:List RunN} (h:RSet (r :: l)) {n:Nat} (hn:HasR l n):r.2+1<n:=by
 obtain ⟨x,hx,h1,_⟩:=hn
 have:=h.head x hx
 omega
theorem RSet.ext:∀ {l m:List RunN},RSet l->RSet m->(∀ n,HasR l n ↔ HasR m n)->l=m
 | [],[],_,_,_=>rfl
 | [],r :: m,_,hm,h=>by
  have:=(h r.1).2 ((Zf _ _ _).2 (.inl ⟨Nat.le_refl _,(hm.run r (by simp)).1⟩))
  exact (HasR.nil _ this).elim
 | r :: l,[],hl,_,h=>by
  have:=(h r.1).1 ((Zf _ _ _).2 (.inl ⟨Nat.le_refl _,(hl.run r (by simp)).1⟩))
  exact (HasR.nil _ this).elim
 | r :: l,s :: m,hl,hm,h=>by
  have hr:=(hl.run r (by simp)).1
  have hs:=(hm.run s (by simp)).1
  have a1:=(h r.1).1 ((Zf _ _ _).2 (.inl ⟨Nat.le_refl _,hr⟩))
  have a2:=(h s.1).2 ((Zf _ _ _).2 (.inl ⟨Nat.le_refl _,hs⟩))
  have e1:r.1=s.1:=by
   rcases (Zf _ _ _).1 a1 with a1 | a1 <;> rcases (Zf _ _ _).1 a2 with a2 | a2
   ·omega
   ·have:=hl.above a2;omega
   ·have:=hm.above a1;omega
   ·have:=hl.above a2;have:=hm.above a1;omega
  have e2:r.2=s.2:=by
   rcases Nat.lt_trichotomy r.2 s.2 with hlt | he | hlt
   ·have:=(h (r.2+1)).2 ((Zf _ _ _).2 (.inl ⟨by omega,by omega⟩))
    rcases (Zf _ _ _).1 this with t | t
    ·omega
    ·have:=hl.above t;omega
   ·exact he
   ·have:=(h (s.2+1)).1 ((Zf _ _ _).2 (.inl ⟨by omega,by omega⟩))
    rcases (Zf _ _ _).1 this with t | t
    ·omega
    ·have:=hm.above t;omega
  have e:r=s:=Prod.ext e1 e2
  subst e
  rw [RSet.ext hl.tail hm.tail (fun n=>?_)]
  have hn:=h n
  rw [Zf,Zf] at hn
  constructor
  ·intro t
   rcases hn.1 (.inr t) with u | u
   ·have:=hl.above t;omega
   ·exact u
  ·intro t
   rcases hn.2 (.inr t) with u | u
   ·have:=hm.above t;omega
   ·exact u
theorem findR_cons (r:RunN) (l:List RunN) (n:Nat):Yr (r :: l) n=if n<=r.2 then 0 else Yr l n+1:=by
 unfold Yr
 rw [List.findIdx_cons]
 by_cases h:n<=r.2 <;> simp [h]
theorem Hd (l:List RunN) (n:Nat):Yr l n<=l.length:=List.findIdx_le_length
theorem absorb_ok:∀ {l:List RunN} {f t:Nat},RSet l->f<=t->t<18446744073709551616->(∀ r∈l,f - 1<=r.2) ->
  RSet (Vu l f t)/\(∀ n,HasR (Vu l f t) n ↔ HasR l n\/(f<=n/\n<=t))/\(∀ k,(∀ r∈l,k<=r.1)->k<=f->∀ x∈Vu l f t,k<=x.1)
 | [],f,t,_,hft,ht,_=>by
  refine ⟨RSet.nil.cons hft ht (fun x h=>by simp at h),fun n=>?_,fun k _ hk x hx=>?_⟩
  ·show HasR [(f,t)] n ↔ _
   rw [Zf]
   simp [HasR.nil]
  ·have:x=(f,t):=by simpa [Vu] using hx
   rw [this];exact hk
 | r :: l,f,t,h,hft,ht,hf=>by
  have hr:=h.run r (by simp)
  have hfr:=hf r (by simp)
  unfold Vu
  by_cases hc:r.1 - 1<=t
  ·rw [if_pos hc]
   obtain ⟨i1,i2,i3⟩:=absorb_ok (l:=l) (f:=min f r.1) (t:=max t r.2) h.tail (by omega) (by omega) (fun x hx=>by have:=h.head x hx;have:=h.run x (by simp [hx]);omega)
   refine ⟨i1,fun n=>?_,fun k hk hkf x hx=>i3 k (fun y hy=>hk y (by simp [hy])) (by have:=hk r (by simp);omega) x hx⟩
   rw [i2,Zf]
   constructor
   ·rintro (a | a)
    ·exact .inl (.inr a)
    ·by_cases h1:f<=n/\n<=t
     ·exact .inr h1
     ·exact .inl (.inl (by omega))
   ·rintro ((a | a) | a)
    ·exact .inr (by omega)
    ·exact .inl a
    ·exact .inr (by omega)
  ·rw [if_neg hc]
   refine ⟨h.cons hft ht (fun x hx=>?_),fun n=>?_,fun k hk hkf x hx=>?_⟩
   ·rcases List.mem_cons.1 hx with rfl | hx
    ·show t+1<x.1;omega
    ·have:=h.head x hx;show t+1<x.1;omega
   ·rw [Zf]
    constructor
    ·rintro (a | a)
     ·exact .inr a
     ·exact .inl a
    ·rintro (a | a)
     ·exact .inr a
     ·exact .inl a
   ·rcases List.mem_cons.1 hx with rfl | hx
    ·exact hkf
    ·exact hk x hx
theorem spanR_go:∀ {l:List RunN} {f t:Nat},RSet l->f<=t->t<18446744073709551616 ->
  RSet (l.take (Yr l (f - 1))++Vu (l.drop (Yr l (f - 1))) f t)/\(∀ n,HasR (l.take (Yr l (f - 1))++Vu (l.drop (Yr l (f - 1))) f t) n ↔ HasR l n\/(f<=n/\n<=t)) /\
  (∀ k,(∀ r∈l,k<=r.1)->k<=f->∀ x∈l.take (Yr l (f - 1))++Vu (l.drop (Yr l (f - 1))) f t,k<=x.1)
 | [],f,t,h,hft,ht=>by simpa [Yr] using absorb_ok (l:=[]) h hft ht (fun r h=>by simp at h)
 | r :: l,f,t,h,hft,ht=>by
  rw [findR_cons]
  by_cases hc:f - 1<=r.2
  ·rw [if_pos hc]
   refine absorb_ok h hft ht (fun x hx=>?_)
   rcases List.mem_cons.1 hx with rfl | hx
   ·exact hc
   ·have:=h.head x hx;have:=(h.run x (by simp [hx])).1;omega
  ·rw [if_neg hc]
   obtain ⟨i1,i2,i3⟩:=spanR_go h.tail hft ht
   have hr:=h.run r (by simp)
   simp only [List.take_succ_cons,List.drop_succ_cons,List.cons_append]
   refine ⟨i1.cons hr.1 hr.2 (fun x hx=>?_),fun n=>?_,fun k hk hkf x hx=>?_⟩
   ·have:=i3 (r.2+2) (fun y hy=>by have:=h.head y hy;omega) (by omega) x hx
    omega
   ·rw [Zf,Zf,i2,or_assoc]
   ·rcases List.mem_cons.1 hx with rfl | hx
    ·exact hk x (by simp)
    ·exact i3 k (fun y hy=>hk y (by simp [hy])) hkf x hx
theorem spanR_ok {l:List RunN} {f t:Nat} (h:RSet l) (ht:t<18446744073709551616):RSet (Yq l f t)/\∀ n,HasR (Yq l f t) n ↔ HasR l n\/(f<=n/\n<=t):=by
 unfold Yq
 by_cases hlt:t<f
 ·rw [if_pos hlt]
  exact ⟨h,fun n=>⟨.inl,fun a=>a.elim id (fun (b:f<=n/\n<=t)=>by omega)⟩⟩
 ·rw [if_neg hlt]
  obtain ⟨h1,h2,_⟩:=spanR_go (f:=f) (t:=t) h (by omega) ht
  exact ⟨h1,h2⟩
theorem pieces_mem {a b:Nat} {r x:RunN} (hr:r.1<=r.2) (hx:x∈Kg a b r):x.1<=x.2/\r.1<=x.1/\x.2<=r.2:=by
 unfold Kg at hx
 split at hx
 ·have:x=r:=by simpa using hx
  subst this
  exact ⟨hr,Nat.le_refl _,Nat.le_refl _⟩
 ·rename_i hn
  rcases List.mem_append.1 hx with hx | hx
  ·split at hx
   ·have:x=(r.1,a - 1):=by simpa using hx
    subst this
    simp only;omega
   ·simp at hx
  ·split at hx
   ·have:x=(b+1,r.2):=by simpa using hx
    subst this
    simp only;omega
   ·simp at hx
theorem pieces_has {a b:Nat} {r:RunN} (n:Nat) (_hab:a<=b):HasR (Kg a b r) n ↔ (r.1<=n/\n<=r.2)/\¬(a<=n/\n<=b):=by
 unfold Kg
 split
 ·rw [Zf]
  simp only [HasR.nil,or_false]
  omega
 ·rename_i hn
  rw [hasR_append]
  have h1:HasR (if r.1<a then [(r.1,a - 1)] else []) n ↔ r.1<a/\r.1<=n/\n<=a - 1:=by
   by_cases hh:r.1<a
   ·rw [if_pos hh,Zf];simp only [HasR.nil,or_false];omega
   ·rw [if_neg hh];exact ⟨fun h=>(HasR.nil _ h).elim,fun h=>by omega⟩
  have h2:HasR (if b<r.2 then [(b+1,r.2)] else []) n ↔ b<r.2/\b+1<=n/\n<=r.2:=by
   by_cases hh:b<r.2
   ·rw [if_pos hh,Zf];simp only [HasR.nil,or_false];omega
   ·rw [if_neg hh];exact ⟨fun h=>(HasR.nil _ h).elim,fun h=>by omega⟩
  rw [h1,h2]
  omega
theorem pieces_gap {a b:Nat} {r:RunN} (hab:a<=b):(Kg a b r).Pairwise (fun a b=>a.2+1<b.1):=by
 unfold Kg
 split
 ·simp
 ·split <;> split <;> simp
  omega
theorem withoutR_ok:∀ {l:List RunN} {a b:Nat},RSet l->a<=b->RSet (Xj l a b)/\(∀ n,HasR (Xj l a b) n ↔ HasR l n/\¬(a<=n/\n<=b))/\(∀ k,(∀ r∈l,k<=r.1)->∀ x∈Xj l a b,k<=x.1)
 | [],a,b,_,_=>⟨RSet.nil,fun n=>by simp [Xj,HasR.nil],fun k _ x hx=>by simp [Xj] at hx⟩
 | r :: l,a,b,h,hab=>by
  obtain ⟨i1,i2,i3⟩:=withoutR_ok (l:=l) (a:=a) (b:=b) h.tail hab
  have hr:=h.run r (by simp)
  have e:Xj (r :: l) a b=Kg a b r++Xj l a b:=by simp [Xj]
  rw [e]
  refine ⟨⟨fun x hx=>?_,List.pairwise_append.2 ⟨pieces_gap hab,i1.gap,fun x hx y hy=>?_⟩⟩,fun n=>?_,fun k hk x hx=>?_⟩
  ·rcases List.mem_append.1 hx with hx | hx
   ·have:=pieces_mem hr.1 hx;omega
   ·exact i1.run x hx
  ·have h1:=pieces_mem hr.1 hx
   have h2:=i3 (r.2+2) (fun z hz=>by have:=h.head z hz;omega) y hy
   omega
  ·rw [hasR_append,Zf,i2,pieces_has n hab]
   constructor
   ·rintro (⟨p,q⟩ | ⟨p,q⟩)
    ·exact ⟨.inl p,q⟩
    ·exact ⟨.inr p,q⟩
   ·rintro ⟨p | p,q⟩
    ·exact .inl ⟨p,q⟩
    ·exact .inr ⟨p,q⟩
  ·rcases List.mem_append.1 hx with hx | hx
   ·have h1:=pieces_mem hr.1 hx
    have:=hk r (by simp)
    omega
   ·exact i3 k (fun z hz=>hk z (by simp [hz])) x hx
theorem fromR_ok {l:List RunN} (h:RSet l) (n:Nat):RSet (Ua l n)/\∀ m,HasR (Ua l n) m ↔ HasR l m/\n<=m:=by
 unfold Ua
 by_cases h0:n=0
 ·rw [if_pos h0]
  exact ⟨h,fun m=>⟨fun a=>⟨a,by omega⟩,fun a=>a.1⟩⟩
 ·rw [if_neg h0]
  obtain ⟨i1,i2,_⟩:=withoutR_ok (a:=0) (b:=n - 1) h (by omega)
  refine ⟨i1,fun m=>?_⟩
  rw [i2]
  constructor
  ·rintro ⟨a,b⟩;exact ⟨a,by omega⟩
  ·rintro ⟨a,b⟩;exact ⟨a,by omega⟩
theorem Hh:∀ {l:List RunN} {n:Nat},RSet l->∀ r,l[Yr l n]?=some r->n<=r.2/\(∀ m,n<=m->HasR l m->r.1<=m)
 | [],n,_,r,h=>by simp at h
 | s :: l,n,h,r,hr=>by
  rw [findR_cons] at hr
  by_cases hc:n<=s.2
  ·rw [if_pos hc] at hr
   simp at hr
   subst hr
   refine ⟨hc,fun m hm hh=>?_⟩
   rcases (Zf _ _ _).1 hh with a | a
   ·exact a.1
   ·have:=h.above a;have:=(h.run s (by simp)).1;omega
  ·rw [if_neg hc] at hr
   simp at hr
   obtain ⟨i1,i2⟩:=Hh h.tail r hr
   refine ⟨i1,fun m hm hh=>?_⟩
   rcases (Zf _ _ _).1 hh with a | a
   ·omega
   ·exact i2 m hm a
theorem findR_none:∀ {l:List RunN} {n:Nat},l[Yr l n]?=none->∀ m,n<=m->¬HasR l m
 | [],n,_,m,_,hh=>HasR.nil _ hh
 | s :: l,n,hr,m,hm,hh=>by
  rw [findR_cons] at hr
  by_cases hc:n<=s.2
  ·rw [if_pos hc] at hr
   simp at hr
  ·rw [if_neg hc] at hr
   rcases (Zf _ _ _).1 hh with a | a
   ·omega
   ·exact findR_none (l:=l) (n:=n) (by simpa using hr) m hm a
theorem Ul {l:List RunN} {n:Nat} {r:RunN} (h:l[Yr l n]?=some r):r∈l:=List.mem_of_getElem? h
theorem has_find {l:List RunN} (h:RSet l) (n:Nat):HasR l n ↔ ∃ r,l[Yr l n]?=some r/\r.1<=n:=by
 constructor
 ·intro hh
  cases e:l[Yr l n]? with
  | none=>exact (findR_none e n (Nat.le_refl _) hh).elim
  | some r=>exact ⟨r,rfl,(Hh h r e).2 n (Nat.le_refl _) hh⟩
 ·rintro ⟨r,e,hr⟩
  exact ⟨r,Ul e,hr,(Hh h r e).1⟩
theorem RSet.top {l:List RunN} (h:RSet l) {r:RunN} (hr:r∈l) {n:Nat} (hn:n=r.2+1):¬HasR l n:=by
 rintro ⟨s,hs,h1,h2⟩
 obtain ⟨i,hi,rfl⟩:=List.getElem_of_mem hr
 obtain ⟨j,hj,rfl⟩:=List.getElem_of_mem hs
 rcases Nat.lt_trichotomy i j with hij | hij | hij
 ·have:=List.pairwise_iff_getElem.1 h.gap i j hi hj hij
  omega
 ·subst hij;omega
 ·have:=List.pairwise_iff_getElem.1 h.gap j i hj hi hij
  have:=h.run _ hr
  omega
theorem gapR_ok {l:List RunN} (h:RSet l) {n m:Nat} (hg:gapR l n=some m):n<=m/\¬HasR l m/\∀ k,n<=k->k<m->HasR l k:=by
 unfold gapR at hg
 split at hg
 ·rename_i e
  simp at hg
  subst hg
  exact ⟨Nat.le_refl _,findR_none e n (Nat.le_refl _),fun k h1 h2=>by omega⟩
 ·rename_i r e
  obtain ⟨h1,h2⟩:=Hh h r e
  split at hg
  ·rename_i hlt
   simp at hg
   subst hg
   exact ⟨Nat.le_refl _,fun hh=>by have:=h2 n (Nat.le_refl _) hh;omega,fun k h1 h2=>by omega⟩
  ·rename_i hlt
   split at hg
   ·simp at hg
   ·simp at hg
    subst hg
    exact ⟨by omega,h.top (Ul e) rfl,fun k hk hk2=>⟨r,Ul e,by omega,by omega⟩⟩
theorem gapR_some {l:List RunN} {n:Nat} (hb:∀ r∈l,r.2<18446744073709551615):∃ m,gapR l n=some m:=by
 unfold gapR
 split
 ·exact ⟨n,rfl⟩
 ·rename_i r e
  split
  ·exact ⟨n,rfl⟩
  ·rw [if_neg (by have:=hb r (Ul e);omega)]
   exact ⟨_,rfl⟩
end Go.Proofs.YtfdmbomlkpkegaaGreat
namespace Go.Proofs.YtfdmbomlkpkegaaGreat
def hasB (l:List RunN) (n:Nat):Bool:=match l[Yr l n]? with
 | none=>false
 | some r=>decide (r.1<=n)
theorem hasB_iff {l:List RunN} (h:RSet l) (n:Nat):hasB l n=true ↔ HasR l n:=by
 rw [has_find h]
 unfold hasB
 split
 ·rename_i e
  simp [e]
 ·rename_i r e
  simp [e]
structure WinS where
 low:Nat
 width:Nat
 set:List RunN
deriving DecidableEq
def WinS.Had (w:WinS) (n:Nat):Prop:=n<=w.low\/HasR w.set n
def WinS.had (w:WinS) (n:Nat):Bool:=decide (n<=w.low) || hasB w.set n
def WinS.takes (w:WinS) (n:Nat):Bool:=!w.had n && decide (n<=w.low+w.width)
def WinS.lowC (w:WinS):Nat:=match gapR w.set (w.low+1) with
 | none=>w.low
 | some n=>n - 1
def WinS.closed (w:WinS):WinS:=⟨w.lowC,w.width,Ua w.set (w.lowC+1)⟩
def WinS.put (w:WinS) (n:Nat):WinS:=if w.takes n=true then (⟨w.low,w.width,Yq w.set n n⟩:WinS).closed else w
def WinS.skip (w:WinS) (b:Nat):WinS:=if b<=w.low+1 then w else (⟨b - 1,w.width,w.set⟩:WinS).closed
def WinS.new (width:Nat):WinS:=⟨0,width,[]⟩
structure WinS.Ok (w:WinS):Prop where
 set:RSet w.set
 low:w.low<4611686018427387904
 width:1<=w.width/\w.width<=1024
 above:∀ n,HasR w.set n->w.low+1<n/\n<=w.low+w.width/\n<4611686018427387904
theorem WinS.Ok.new {width:Nat} (h:1<=width/\width<=1024):(WinS.new width).Ok:=⟨RSet.nil,(by show (0:Nat)<_;decide),h,fun n hn=>(HasR.nil _ hn).elim⟩
theorem WinS.Ok.had {w:WinS} (h:w.Ok) (n:Nat):w.had n=true ↔ w.Had n:=by
 unfold WinS.had WinS.Had
 rw [Bool.or_eq_true,decide_eq_true_eq,hasB_iff h.set]
theorem WinS.Ok.takes {w:WinS} (h:w.Ok) (n:Nat):w.takes n=true ↔ ¬w.Had n/\n<=w.low+w.width:=by
 unfold WinS.takes
 rw [Bool.and_eq_true,decide_eq_true_eq,<- h.had]
 cases w.had n <;> simp
theorem RSet.last {l:List RunN} (h:RSet l) {r:RunN} (hr:r∈l):HasR l r.2:=⟨r,hr,(h.run r hr).1,Nat.le_refl _⟩
theorem RSet.first {l:List RunN} (h:RSet l) {r:RunN} (hr:r∈l):HasR l r.1:=⟨r,hr,Nat.le_refl _,(h.run r hr).1⟩
theorem Gw {w:WinS} (h:RSet w.set) (hb:∀ r∈w.set,r.2<18446744073709551615) :
  RSet w.closed.set/\(∀ n,w.closed.Had n ↔ w.Had n)/\(∀ n,HasR w.closed.set n->w.closed.low+1<n/\HasR w.set n)/\w.low<=w.closed.low/\(w.closed.low=w.low\/HasR w.set w.closed.low):=by
 obtain ⟨m,hm⟩:=gapR_some (n:=w.low+1) hb
 obtain ⟨g1,g2,g3⟩:=gapR_ok h hm
 have e:w.lowC=m - 1:=by unfold WinS.lowC;rw [hm]
 have e1:m - 1+1=m:=by omega
 obtain ⟨f1,f2⟩:=fromR_ok h m
 unfold WinS.closed WinS.Had
 rw [e,e1]
 simp only
 refine ⟨f1,fun n=>?_,fun n hn=>?_,by omega,?_⟩
 ·rw [f2]
  constructor
  ·rintro (a | a)
   ·by_cases hl:n<=w.low
    ·exact .inl hl
    ·exact .inr (g3 n (by omega) (by omega))
   ·exact .inr a.1
  ·rintro (a | a)
   ·exact .inl (by omega)
   ·by_cases hl:n<=m - 1
    ·exact .inl hl
    ·exact .inr ⟨a,by omega⟩
 ·obtain ⟨a,b⟩:=(f2 n).1 hn
  refine ⟨?_,a⟩
  rcases Nat.lt_or_ge m n with hlt | hge
  ·omega
  ·have:n=m:=by omega
   subst this
   exact (g2 a).elim
 ·by_cases hl:m - 1=w.low
  ·exact .inl hl
  ·exact .inr (g3 (m - 1) (by omega) (by omega))
theorem WinS.Ok.skip {w:WinS} (h:w.Ok) {b:Nat} (hb:b<=4611686018427387904):(w.skip b).Ok/\(w.skip b).width=w.width/\w.low<=(w.skip b).low/\∀ n,(w.skip b).Had n ↔ w.Had n\/n<b:=by
 unfold WinS.skip
 by_cases hc:b<=w.low+1
 ·rw [if_pos hc]
  exact ⟨h,rfl,Nat.le_refl _,fun n=>⟨.inl,fun a=>a.elim id (fun (c:n<b)=>.inl (by omega))⟩⟩
 ·rw [if_neg hc]
  have hw:=h.width
  have hl:=h.low
  obtain ⟨c1,c2,c3,c4,c5⟩:=Gw (w:=⟨b - 1,w.width,w.set⟩) h.set (fun r hr=>by have:=(h.above _ (h.set.last hr)).2;omega)
  simp only at c2 c3 c4 c5
  refine ⟨⟨c1,?_,hw,fun n hn=>⟨(c3 n hn).1,?_⟩⟩,rfl,by omega,fun n=>?_⟩
  ·rcases c5 with c5 | c5
   ·rw [c5];omega
   ·exact (h.above _ c5).2.2
  ·have:=(h.above n (c3 n hn).2).2
   have e:(⟨b - 1,w.width,w.set⟩:WinS).closed.width=w.width:=rfl
   omega
  ·rw [c2]
   unfold WinS.Had
   simp only
   constructor
   ·rintro (a | a)
    ·exact .inr (by omega)
    ·exact .inl (.inr a)
   ·rintro ((a | a) | a)
    ·exact .inl (by omega)
    ·exact .inr a
    ·exact .inl (by omega)
theorem WinS.Ok.put {w:WinS} (h:w.Ok) {n:Nat} (hn:n<4611686018427387904):(w.put n).Ok/\(w.put n).width=w.width/\w.low<=(w.put n).low/\∀ m,(w.put n).Had m ↔ w.Had m\/(w.takes n=true/\m=n):=by
 unfold WinS.put
 by_cases ht:w.takes n=true
 ·rw [if_pos ht]
  obtain ⟨t1,t2⟩:=(h.takes n).1 ht
  have hw:=h.width
  have hl:=h.low
  have hnl:w.low<n:=Nat.lt_of_not_le (fun hc=>t1 (.inl hc))
  obtain ⟨s1,s2⟩:=spanR_ok (f:=n) (t:=n) h.set (by omega)
  have hs2:∀ k,HasR (Yq w.set n n) k->w.low<k/\k<=w.low+w.width/\k<4611686018427387904:=fun k hk=>by
   rcases (s2 k).1 hk with a | a
   ·have:=h.above k a;omega
   ·have:k=n:=by omega
    subst this
    exact ⟨hnl,t2,hn⟩
  obtain ⟨c1,c2,c3,c4,c5⟩:=Gw (w:=⟨w.low,w.width,Yq w.set n n⟩) s1 (fun r hr=>by have:=(hs2 _ (s1.last hr)).2;omega)
  simp only at c2 c3 c4 c5
  refine ⟨⟨c1,?_,hw,fun k hk=>⟨(c3 k hk).1,?_⟩⟩,rfl,c4,fun m=>?_⟩
  ·rcases c5 with c5 | c5
   ·rw [c5];exact hl
   ·exact (hs2 _ c5).2.2
  ·have:=hs2 k (c3 k hk).2
   have e:(⟨w.low,w.width,Yq w.set n n⟩:WinS).closed.width=w.width:=rfl
   omega
  ·rw [c2]
   unfold WinS.Had
   simp only [s2]
   constructor
   ·rintro (a | a | a)
    ·exact .inl (.inl a)
    ·exact .inl (.inr a)
    ·exact .inr ⟨ht,by omega⟩
   ·rintro ((a | a) | ⟨_,a⟩)
    ·exact .inl a
    ·exact .inr (.inl a)
    ·exact .inr (.inr (by omega))
 ·rw [if_neg ht]
  exact ⟨h,rfl,Nat.le_refl _,fun m=>⟨.inl,fun a=>a.elim id (fun c=>(ht c.1).elim)⟩⟩
end Go.Proofs.YtfdmbomlkpkegaaGreat
