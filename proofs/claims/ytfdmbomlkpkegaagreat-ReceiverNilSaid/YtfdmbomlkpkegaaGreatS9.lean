/- Lemmas for ReceiverNil. -/
import Derived.Test.YtfdmbomlkpkegaaGreatS2
import Derived.Deep.DeepCutAuto
import Derived.Deep.CutBlock
set_option maxRecDepth 100000
set_option maxHeartbeats 8000000
set_option linter.all false
namespace Go.Proofs.YtfdmbomlkpkegaaGreat
open Go Go.RowKit Go.Dr
theorem mget_set_same (m:AMap) (k:Int) (l:Qs):mget (mset m k l) k=some l:=by
 induction m with
 | nil=>simp [mset,mget]
 | cons e m ih =>
  simp only [mset]
  split
  ·simp [mget]
  ·rename_i h
   simp only [mget,List.find?_cons] at ih ⊢
   have:(e.1==k)=false:=by simpa using h
   rw [this];exact ih
theorem mget_mem {m:AMap} (h:Keys m) {kv:Int × Qs} (hm:kv∈m):mget m kv.1=some kv.2:=by
 induction h with
 | nil=>cases hm
 | @cons x m h1 h2 ih =>
  rcases List.mem_cons.1 hm with rfl | hm
  ·simp [mget]
  ·have hne:(x.1==kv.1)=false:=by simpa using h1 kv hm
   have:=ih hm
   simp only [mget,List.find?_cons,hne] at this ⊢
   exact this
theorem Keys.nil:Keys []:=List.Pairwise.nil
theorem Keys.done {m:AMap} (h:Keys m) (c:Qf):Keys (c.done m):=by
 unfold Qf.done
 split
 ·exact h.del _
 ·exact h.set _ _
theorem Um (l:List Qf) (c:Qf):wsum (l++[c])=wsum l+c.p.length:=by
 induction l with
 | nil=>simp [wsum]
 | cons x l ih=>simp [wsum,ih];omega
end Go.Proofs.YtfdmbomlkpkegaaGreat
namespace Go.Proofs.YtfdmbomlkpkegaaGreat
open Go Go.RowKit
def Kd (m:AMap):Prop:=m.Pairwise (fun a b=>a.1<b.1)
theorem Kd.keys {m:AMap} (h:Kd m):Keys m:=h.imp (fun {a b} h=>by omega)
def Xa:AMap->Qf->AMap
 | [],c=>if c.drop then [] else [(c.seg,c.p)]
 | e :: m,c =>
  if e.1<c.seg then e :: Xa m c
  else if e.1=c.seg then (if c.drop then m else (c.seg,e.2++c.p) :: m)
  else (if c.drop then e :: m else (c.seg,c.p) :: e :: m)
def segs6 (l:List Qf):AMap:=l.foldl Xa []
theorem Gv (l:List Qf) (c:Qf):segs6 (l++[c])=Xa (segs6 l) c:=by simp [segs6]
theorem step6_keys {m:AMap} {c:Qf} {e:Int × Qs} (h:e∈Xa m c):e.1=c.seg\/e∈m:=by
 induction m with
 | nil =>
  unfold Xa at h
  split at h
  ·cases h
  ·simp at h;exact .inl (by rw [h])
 | cons x m ih =>
  unfold Xa at h
  split at h
  ·rcases List.mem_cons.1 h with rfl | h
   ·exact .inr (by simp)
   ·rcases ih h with h | h
    ·exact .inl h
    ·exact .inr (by simp [h])
  ·split at h
   ·split at h
    ·exact .inr (by simp [h])
    ·rcases List.mem_cons.1 h with rfl | h
     ·exact .inl rfl
     ·exact .inr (by simp [h])
   ·split at h
    ·exact .inr h
    ·rcases List.mem_cons.1 h with rfl | h
     ·exact .inl rfl
     ·exact .inr h
theorem step6_sorted {m:AMap} (h:Kd m) (c:Qf):Kd (Xa m c):=by
 induction m with
 | nil =>
  unfold Xa
  split
  ·exact List.Pairwise.nil
  ·exact List.pairwise_singleton _ _
 | cons x m ih =>
  have h':=List.pairwise_cons.1 h
  unfold Xa
  split
  ·rename_i hlt
   refine List.pairwise_cons.2 ⟨fun e he=>?_,ih h'.2⟩
   rcases step6_keys he with he | he
   ·omega
   ·exact h'.1 e he
  ·rename_i hge
   split
   ·rename_i heq
    split
    ·exact h'.2
    ·exact List.pairwise_cons.2 ⟨fun e he=>by have:=h'.1 e he;simp only;omega,h'.2⟩
   ·rename_i hne
    split
    ·exact h
    ·refine List.pairwise_cons.2 ⟨fun e he=>?_,h⟩
     simp only
     rcases List.mem_cons.1 he with rfl | he
     ·omega
     ·have:=h'.1 e he;omega
theorem Ve (l:List Qf):Kd (segs6 l):=by
 unfold segs6
 suffices h:∀ (l:List Qf) (m:AMap),Kd m->Kd (l.foldl Xa m) from h l [] List.Pairwise.nil
 intro l
 induction l with
 | nil=>intro m h;exact h
 | cons c l ih=>intro m h;exact ih _ (step6_sorted h c)
theorem Zh (e:Int × Qs) (m:AMap) (k:Int):mget (e :: m) k=if e.1=k then some e.2 else mget m k:=by
 unfold mget
 rw [List.find?_cons]
 by_cases h:e.1=k
 ·simp [h]
 ·have:(e.1==k)=false:=by simp [h]
  simp [this,h]
theorem mget_lt {m:AMap} {k:Int} (h:∀ e∈m,k<e.1):mget m k=none:=by
 induction m with
 | nil=>rfl
 | cons e m ih =>
  have h1:=h e (by simp)
  rw [Zh,if_neg (by omega),ih (fun e he=>h e (by simp [he]))]
theorem step6_get {m:AMap} (h:Kd m) (c:Qf) (k:Int) :
  mget (Xa m c) k=if k=c.seg then (if c.drop then none else some ((mget m k).getD []++c.p)) else mget m k:=by
 induction m with
 | nil =>
  unfold Xa
  by_cases hk:k=c.seg
  ·subst hk
   cases c.drop <;> simp [mget]
  ·cases c.drop
   ·simp [Zh,hk,Ne.symm hk]
   ·simp [mget,hk]
 | cons x m ih =>
  have h':=List.pairwise_cons.1 h
  have hn:∀ k,k<=x.1->mget m k=none:=fun k hk=>mget_lt (fun e he=>by have:=h'.1 e he;omega)
  unfold Xa
  by_cases h1:x.1<c.seg
  ·rw [if_pos h1,Zh,Zh,ih h'.2]
   by_cases hk:k=c.seg
   ·subst hk
    have hx:¬x.1=c.seg:=by omega
    simp [hx]
   ·rw [if_neg hk,if_neg hk]
  ·rw [if_neg h1]
   by_cases h2:x.1=c.seg
   ·rw [if_pos h2]
    by_cases hk:k=c.seg
    ·subst hk
     cases hd:c.drop
     ·simp [Zh,h2]
     ·simp [hn c.seg (by omega)]
    ·cases hd:c.drop
     ·simp [Zh,h2,hk,Ne.symm hk]
     ·simp [Zh,h2,hk,Ne.symm hk]
   ·rw [if_neg h2]
    by_cases hk:k=c.seg
    ·subst hk
     have hq:=hn c.seg (by omega)
     cases hd:c.drop
     ·simp [Zh,h2,hq]
     ·simp [Zh,h2,hq]
    ·cases hd:c.drop
     ·simp [Zh,hk,Ne.symm hk]
     ·simp [hk]
theorem mget_set_other {m:AMap} {k k':Int} (h:k'≠k) (l:Qs):mget (mset m k l) k'=mget m k':=by
 induction m with
 | nil=>simp [mset,Zh,Ne.symm h]
 | cons e m ih =>
  simp only [mset]
  split
  ·rename_i he
   have he:e.1=k:=by simpa using he
   rw [Zh,Zh,if_neg (by simpa using Ne.symm h),if_neg (by rw [he];exact Ne.symm h)]
  ·rw [Zh,Zh,ih]
theorem mget_none {m:AMap} {k:Int} (h:∀ e∈m,e.1≠k):mget m k=none:=by
 induction m with
 | nil=>rfl
 | cons e m ih=>rw [Zh,if_neg (h e (by simp)),ih (fun e he=>h e (by simp [he]))]
theorem mget_del {m:AMap} (h:Keys m) (k k':Int):mget (mdel m k) k'=if k'=k then none else mget m k':=by
 induction m with
 | nil=>simp [mdel,mget]
 | cons e m ih =>
  have h':=List.pairwise_cons.1 h
  simp only [mdel]
  split
  ·rename_i he
   have he:e.1=k:=by simpa using he
   by_cases hk:k'=k
   ·rw [if_pos hk]
    exact mget_none (fun x hx=>by have:=h'.1 x hx;rw [hk,<- he];exact Ne.symm this)
   ·rw [if_neg hk,Zh,if_neg (by rw [he];exact Ne.symm hk)]
  ·rename_i he
   have he:e.1≠k:=by simpa using he
   rw [Zh,ih h'.2,Zh]
   by_cases hk:k'=k
   ·simp [hk,he]
   ·rw [if_neg hk,if_neg hk]
theorem done_get {m:AMap} (h:Keys m) (c:Qf) (k:Int) :
  mget (c.done m) k=if k=c.seg then (if c.drop then none else some ((mget m k).getD []++c.p)) else mget m k:=by
 unfold Qf.done
 cases hd:c.drop
 ·simp only [Bool.false_eq_true,if_false]
  by_cases hk:k=c.seg
  ·rw [if_pos hk,hk,mget_set_same]
  ·rw [if_neg hk,mget_set_other hk]
 ·simp only [if_true]
  rw [mget_del h]
def Jf (a b:AMap):Prop:=∀ k,mget a k=mget b k
theorem Jf.step {a b:AMap} (h:Jf a b) (ha:Kd a) (hb:Keys b) (c:Qf):Jf (Xa a c) (c.done b):=fun k=>by
 rw [step6_get ha,done_get hb,h k]
theorem mget_filter (m:AMap) (k k':Int):mget (m.filter (fun e=>e.1 != k)) k'=if k'=k then none else mget m k':=by
 induction m with
 | nil=>simp [mget]
 | cons e m ih =>
  rw [List.filter_cons]
  by_cases he:e.1=k
  ·have:(e.1 != k)=false:=by simp [he]
   rw [this]
   simp only [Bool.false_eq_true,if_false]
   rw [ih,Zh]
   by_cases hk:k'=k
   ·simp [hk]
   ·rw [if_neg hk,if_neg hk,if_neg (by rw [he];exact Ne.symm hk)]
  ·have:(e.1 != k)=true:=by simp [he]
   rw [this]
   simp only [if_true]
   rw [Zh,ih,Zh]
   by_cases hk:k'=k
   ·simp [hk,he]
   ·rw [if_neg hk,if_neg hk]
theorem mem_of_mget {m:AMap} {k:Int} {l:Qs} (h:mget m k=some l):(k,l)∈m:=by
 induction m with
 | nil=>simp [mget] at h
 | cons e m ih =>
  rw [Zh] at h
  split at h
  ·rename_i he
   simp at h
   exact List.mem_cons.2 (.inl (by rw [<- he,<- h]))
  ·exact List.mem_cons.2 (.inr (ih h))
theorem Jf.sum {a:AMap}:∀ {b:AMap},Keys a->Keys b->Jf a b->msum a=msum b:=by
 induction a with
 | nil =>
  intro b _ hb h
  cases b with
  | nil=>rfl
  | cons e b=>have:=h e.1;rw [Zh,if_pos rfl] at this;cases this
 | cons e a ih =>
  intro b ha hb h
  have h':=List.pairwise_cons.1 ha
  have he:mget b e.1=some e.2:=by rw [<- h e.1,Zh,if_pos rfl]
  rw [msum_filter hb (mem_of_mget he),<- ih h'.2 (hb.filter _) (fun k=>?_)]
  ·rfl
  ·rw [mget_filter]
   by_cases hk:k=e.1
   ·rw [if_pos hk]
    exact mget_none (fun x hx=>by rw [hk];exact Ne.symm (h'.1 x hx))
   ·rw [if_neg hk,<- h k,Zh,if_neg (Ne.symm hk)]
end Go.Proofs.YtfdmbomlkpkegaaGreat
namespace Go.Proofs.YtfdmbomlkpkegaaGreat
open Go Go.RowKit Go.Dr
end Go.Proofs.YtfdmbomlkpkegaaGreat
