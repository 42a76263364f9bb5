/- Lemmas for ReceiverNil. -/
import Derived.Test.YtfdmbomlkpkegaaGreatS0
import Derived.Deep.AppendLies
set_option maxRecDepth 100000
set_option maxHeartbeats 8000000
set_option linter.all false
namespace Go.Proofs.YtfdmbomlkpkegaaGreat
open Go Go.RowKit
theorem grow_spec {w:World} {B:Nat} (n:Nat) (hn:n<=70368744177664) (hB:B<=w.heap.size) :
  Calls Tryz.prog 152 #[.slice none 0 0,.int .i64 n] w fun e w'=>∃ v',e=.returned v'/\OwnB w' B v' []/\Keep No w w':=by
 obtain ⟨i0,hi,hz0,hz1,hz2⟩:=info_parts Rr
 by_cases h0:n=0
 ·subst h0
  go_enter Tryz.func152,Tryz.ntmps152
  go_wp2
  go_ret
  exact ⟨_,rfl,OwnB.nil _ _,Keep.refl _ _⟩
 ·have hp:(0:Int)<(n:Int):=by omega
  have hb:(n:Int)<=70368744177664:=by omega
  go_enter Tryz.func152,Tryz.ntmps152
  go_wp2_with (at_builtin;refine wpList_append_zeros rfl _ _ rfl B n (by omega) hn rfl rfl hB ?_;intro g cap w' hc hm ho1 ho2 hk)
  go_ret
  exact ⟨_,rfl,ho1,hk⟩
theorem concat_spec [bn:Inhabited Ban] {base:Nat} {w:World} {v:Value} {ls:List Qs} (h:Zb base w v ls) (hl:ls.flatten.length<=35184372088832) :
  Calls Tryz.prog 101 #[v] w fun e w'=>∃ v',e=.returned v'/\OwnB w' w.heap.size v' ls.flatten/\Keep No w w':=by
 obtain ⟨us,hus,hbs,ao,cap,rfl,hlc,hcm,hcells⟩:=h
 unfold maxLen at hcm
 have hn:(ls.length:Int)<=9223372036854775807:=by omega
 have hz:ls.length<=us.length:=by omega
 have HU:=Lib.hid hus
 clear hus
 go_enter Tryz.func101,Tryz.ntmps101
 go_wp2
 go_loop [3,11] (fun s i=>∃ k:Nat,k<=ls.length/\i=.int .i64 k/\s=.int .i64 (catLen ls k)) (fun _ i=>ls.length - (intOf i).toNat)
 case atStart=>exact ⟨0,Nat.zero_le _,rfl,rfl⟩
 case round =>
  obtain ⟨k,hk,rfl,rfl⟩:=hrel
  by_cases hlt:k<ls.length
  ·rcases hcells with rfl | ⟨g,o,rfl,hcells⟩
   ·simp at hlt
   ·have hku:k<us.length:=by omega
    have hc:=hcells k us[k] (List.getElem?_eq_getElem hku)
    have hlk:ls[k]?=some ls[k]:=List.getElem?_eq_getElem hlt
    have hb:=hbs k _ _ (List.getElem?_eq_getElem hku) hlk
    obtain ⟨ao1,cap1,hu,_⟩:=hb
    have hs:=catLen_succ hlk
    have hle:=catLen_le ls (k+1)
    have hb1:(catLen ls k:Int)+(ls[k].length:Int)<=35184372088832:=by omega
    have hb2:(0:Int)<=(catLen ls k:Int)+(ls[k].length:Int):=by omega
    have HS:=Lib.hid hs
    rw [hu] at hc
    generalize ls[k].length=m at *
    clear hs hle hlk hbs hcells hu
    have hki:(k:Int)<(ls.length:Int):=by omega
    go_wp2
    go_round
    case rel=>exact ⟨k+1,by omega,by go_num,by rw [HS.out];go_num⟩
    case measure=>simp [intOf];omega
  ·have hki:¬(k:Int)<(ls.length:Int):=by omega
   obtain rfl:k=ls.length:=by omega
   have hle:=catLen_all ls
   have hb1:(catLen ls ls.length:Int)<=35184372088832:=by omega
   clear hle hki hlt hk
   go_wp2_with (go_at_call 152;refine (grow_spec (B:=w.heap.size) (catLen ls ls.length) (by omega) (Nat.le_refl _)).mono ?_;rintro e w1 ⟨v0,rfl,hown0,hk0⟩)
   go_loopw [6,27] (fun v i wr=>∃ k:Nat,k<=ls.length/\i=.int .i64 k/\OwnB wr w.heap.size v (catB ls k)/\Keep No w wr) (fun _ i _=>ls.length - (intOf i).toNat)
   case atStart=>exact ⟨0,Nat.zero_le _,rfl,by rw [catB_zero];exact hown0,hk0⟩
   case round =>
    clear hown0 hk0
    obtain ⟨k,hk,rfl,hown,hkp⟩:=hrel
    by_cases hlt:k<ls.length
    ·rcases hcells with rfl | ⟨g,o,rfl,hcells⟩
     ·simp at hlt
     ·have hku:k<us.length:=by omega
      have hc:=hkp.cell (hcells k us[k] (List.getElem?_eq_getElem hku)) (fun h=>h)
      have hlk:ls[k]?=some ls[k]:=List.getElem?_eq_getElem hlt
      have hb:=(hbs k _ _ (List.getElem?_eq_getElem hku) hlk).no hkp
      have hs:=catB_succ hlk
      have hle:=catLen_le ls (k+1)
      rw [catLen_succ hlk] at hle
      unfold catLen at hle
      have hki:(k:Int)<(ls.length:Int):=by omega
      have HS:=Lib.hid hs
      generalize us[k]=u at *
      generalize ls[k]=l at *
      clear hs hbs hcells hlk
      have hBs:=hkp.size
      go_wp2_with (at_builtin;refine Zq rfl _ _ rfl w.heap.size hown hb rfl rfl (by omega) hBs ?_;intro v' w' hown' hk')
      go_roundw
      case rel=>exact ⟨k+1,by omega,by go_num,by rw [HS.out];exact hown',hkp.trans hk' (fun x hx hxx=>by have:=(hown.lt x hxx).1;omega)⟩
      case measure=>simp [intOf];omega
    ·have hki:¬(k:Int)<(ls.length:Int):=by omega
     obtain rfl:k=ls.length:=by omega
     clear hki hlt hk
     go_wp2
     go_ret
     exact ⟨_,rfl,by rw [<- catB_all];exact hown,hkp⟩
abbrev AMap:=List (Int × Qs)
def mget (m:AMap) (k:Int):Option Qs:=(m.find? (fun e=>e.1==k)).map (·.2)
def mset:AMap->Int->Qs->AMap
 | [],k,l=>[(k,l)]
 | e :: m,k,l=>if e.1==k then (k,l) :: m else e :: mset m k l
def mdel:AMap->Int->AMap
 | [],_=>[]
 | e :: m,k=>if e.1==k then m else e :: mdel m k
def msum:AMap->Nat
 | []=>0
 | e :: m=>e.2.length+msum m
def Keys (m:AMap):Prop:=m.Pairwise (fun a b=>a.1≠b.1)
theorem pairwise_inj {α β:Type} {f:α->β}:∀ {l:List α},l.Pairwise (fun a b=>f a≠f b)->∀ a∈l,∀ b∈l,f a=f b->a=b:=by
 intro l h
 induction h with
 | nil=>intro a ha;cases ha
 | cons h _ ih =>
  intro a ha b hb e
  rcases List.mem_cons.1 ha with rfl | ha' <;> rcases List.mem_cons.1 hb with rfl | hb'
  ·rfl
  ·exact absurd e (h b hb')
  ·exact absurd e.symm (h a ha')
  ·exact ih a ha' b hb' e
def EntryAt [bn:Inhabited Ban] (base:Nat) (w:World) (e:MapEntry) (kv:Int × Qs):Prop:=e.key=.int .u64 kv.1/\Qv base w e.val kv.2
structure Ents [bn:Inhabited Ban] (base:Nat) (w:World) (es:List MapEntry) (clock:Nat) (m:AMap):Prop where
 len:es.length=m.length
 all:∀ p∈es.zip m,EntryAt base w p.1 p.2
 born:es.Pairwise (fun a b=>a.born<b.born)
 clock:∀ e∈es,e.born<clock
 keys:Keys m
def Xm [bn:Inhabited Ban] (base:Nat) (w:World) (r:Nat) (m:AMap):Prop:=∃ es clock,w.heap[r]?=some (.map es clock)/\Ents base w es.toList clock m
theorem Ents.keep [bn:Inhabited Ban] {base:Nat} {w w':World} {es:List MapEntry} {clock:Nat} {m:AMap} {F:Nat->Prop} (h:Ents base w es clock m) (hF:Foot base w F) (k:Keep F w w'):Ents base w' es clock m :=
 ⟨h.len,fun p hp=>⟨(h.all p hp).1,(h.all p hp).2.keep hF k⟩,h.born,h.clock,h.keys⟩
theorem Xm.keep [bn:Inhabited Ban] {base:Nat} {w w':World} {r:Nat} {m:AMap} {F:Nat->Prop} (h:Xm base w r m) (hF:Foot base w F) (k:Keep F w w') (hr:¬F r):Xm base w' r m:=by
 obtain ⟨es,clock,hb,he⟩:=h
 exact ⟨es,clock,k.heap hb hr,he.keep hF k⟩
theorem Xm.keys [bn:Inhabited Ban] {base:Nat} {w:World} {r:Nat} {m:AMap} (h:Xm base w r m):Keys m:=by obtain ⟨_,_,_,he⟩:=h;exact he.keys
theorem Xm.lt [bn:Inhabited Ban] {base:Nat} {w:World} {r:Nat} {m:AMap} (h:Xm base w r m):r<w.heap.size:=by obtain ⟨_,_,hb,_⟩:=h;exact Qt hb
theorem Xm.foot [bn:Inhabited Ban] {base:Nat} {w:World} {r:Nat} {m:AMap} (h:Xm base w r m) (hb:base<=r):Foot base w (·=r):=by
 obtain ⟨es,clock,hr,_⟩:=h
 rintro b rfl
 exact ⟨hb,Qt hr,fun cs fr e=>by rw [hr] at e;cases e⟩
theorem findNow_ents [bn:Inhabited Ban] {base:Nat} {w:World} {k:Int}:∀ (es:List MapEntry) (m:AMap) (i:Nat),es.length=m.length->(∀ p∈es.zip m,EntryAt base w p.1 p.2) ->
  (mget m k=none/\Instr.findNow (.int .u64) (.int .u64 k) es i=some none/\(∀ e∈m,e.1≠k)) \/
  ∃ j v l,mget m k=some l/\Instr.findNow (.int .u64) (.int .u64 k) es i=some (some (i+j,v))/\Qv base w v l/\j<es.length/\m[j]?=some (k,l)/\(es[j]?).map (·.val)=some v/\(es[j]?).map (·.key)=some (.int .u64 k)/\(∀ i' e,i'<j->m[i']?=some e->e.1≠k):=by
 intro es
 induction es with
 | nil =>
  intro m i hl _
  cases m with
  | nil=>exact .inl ⟨rfl,rfl,fun e he=>by cases he⟩
  | cons=>simp at hl
 | cons e es ih =>
  intro m i hl hall
  cases m with
  | nil=>simp at hl
  | cons kv m =>
   have h0:=hall (e,kv) (by simp)
   obtain ⟨hk,hv⟩:=h0
   simp only at hk hv
   by_cases hkk:kv.1=k
   ·refine .inr ⟨0,e.val,kv.2,by simp [mget,hkk],?_,hv,by simp,by simp [<- hkk],by simp,by simp [hk,hkk],fun i' _ h=>by omega⟩
    simp [Instr.findNow,hk,Instr.sameNow,hkk]
   ·have hne:¬k=kv.1:=fun h=>hkk h.symm
    have hbe:(k==kv.1)=false:=by simpa using hne
    rcases ih m (i+1) (by simpa using hl) (fun p hp=>hall p (by simp [hp])) with ⟨h1,h2,h3⟩ | ⟨j,v,l,h1,h2,h3,h4,h5,h6,h7,h8⟩
    ·refine .inl ⟨?_,?_,?_⟩
     ·simpa [mget,List.find?_cons,hkk] using h1
     ·simpa [Instr.findNow,hk,Instr.sameNow,hbe] using h2
     ·intro x hx
      rcases List.mem_cons.1 hx with rfl | hx
      ·exact hkk
      ·exact h3 x hx
    ·refine .inr ⟨j+1,v,l,?_,?_,h3,by simpa using h4,by simpa using h5,by simpa using h6,by simpa using h7,?_⟩
     ·simpa [mget,List.find?_cons,hkk] using h1
     ·simp only [Instr.findNow,hk,Instr.sameNow,if_true,hbe,h2];congr 3;omega
     ·intro i' x hi hx
      cases i' with
      | zero=>simp at hx;subst hx;exact hkk
      | succ i'=>exact h8 i' x (by omega) (by simpa using hx)
theorem Ge (k:Int):MapKept.IsKey (.int .u64) (.int .u64 k):=by simp [MapKept.IsKey]
theorem run_lookup [bn:Inhabited Ban] {base:Nat} {w:World} {r:Nat} {m:AMap} (h:Xm base w r m) (k:Int):∃ v,Qv base w v ((mget m k).getD [])/\∀ w':World,w'.heap[r]?=w.heap[r]? ->
  (Instr.lookup 131 (.map (some r)) (.int .u64 k) false).run Tryz.prog w'=.ok v w' /\
  (Instr.lookup 131 (.map (some r)) (.int .u64 k) true).run Tryz.prog w'=.ok (.tuple #[v,.bool (mget m k).isSome]) w':=by
 obtain ⟨es,clock,hb,he⟩:=h
 rcases findNow_ents (k:=k) es.toList m 0 he.len he.all with ⟨h1,h2,_⟩ | ⟨j,v,l,h1,h2,h3,_⟩
 ·refine ⟨.slice none 0 0,by rw [h1];exact Qv.nil _ _,fun w' hw=>?_⟩
  rw [hb] at hw
  refine ⟨?_,?_⟩ <;>
   simp [Instr.lookup,run_underlying Tryz.underlying131,MapKept.run_getObj_map hw,MapKept.run_checkKey Tryz.underlying27 (Ge k),MapKept.run_findKey Tryz.underlying27 h2,h1,Result.andThen]
 ·refine ⟨v,by rw [h1];exact h3,fun w' hw=>?_⟩
  rw [hb] at hw
  refine ⟨?_,?_⟩ <;>
   simp [Instr.lookup,run_underlying Tryz.underlying131,MapKept.run_getObj_map hw,MapKept.run_checkKey Tryz.underlying27 (Ge k),MapKept.run_findKey Tryz.underlying27 h2,h1,Result.andThen]
theorem mset_append {m:AMap} {k:Int} {l:Qs} (h:∀ e∈m,e.1≠k):mset m k l=m++[(k,l)]:=by
 induction m with
 | nil=>rfl
 | cons e m ih=>simp [mset,h e (by simp),ih (fun x hx=>h x (by simp [hx]))]
theorem mset_modify {k:Int} {l l0:Qs}:∀ {m:AMap} {j:Nat},m[j]?=some (k,l0)->(∀ i' e,i'<j->m[i']?=some e->e.1≠k)->mset m k l=m.set j (k,l):=by
 intro m
 induction m with
 | nil=>intro j h;simp at h
 | cons e m ih =>
  intro j h hj
  cases j with
  | zero=>simp at h;subst h;simp [mset]
  | succ j =>
   have h0:=hj 0 e (by omega) (by simp)
   simp [mset,h0]
   exact ih (by simpa using h) (fun i' x hi hx=>hj (i'+1) x (by omega) (by simpa using hx))
theorem mdel_none {m:AMap} {k:Int} (h:∀ e∈m,e.1≠k):mdel m k=m:=by
 induction m with
 | nil=>rfl
 | cons e m ih=>simp [mdel,h e (by simp),ih (fun x hx=>h x (by simp [hx]))]
theorem mdel_erase {k:Int} {l0:Qs}:∀ {m:AMap} {j:Nat},m[j]?=some (k,l0)->(∀ i' e,i'<j->m[i']?=some e->e.1≠k)->mdel m k=m.eraseIdx j:=by
 intro m
 induction m with
 | nil=>intro j h;simp at h
 | cons e m ih =>
  intro j h hj
  cases j with
  | zero=>simp at h;subst h;simp [mdel]
  | succ j =>
   have h0:=hj 0 e (by omega) (by simp)
   simp [mdel,h0]
   exact ih (by simpa using h) (fun i' x hi hx=>hj (i'+1) x (by omega) (by simpa using hx))
theorem mem_mset {m:AMap} {k:Int} {l:Qs} {e:Int × Qs} (h:e∈mset m k l):e=(k,l)\/e∈m:=by
 induction m with
 | nil=>simp [mset] at h;exact .inl h
 | cons x m ih =>
  simp only [mset] at h
  split at h
  ·rcases List.mem_cons.1 h with h | h
   ·exact .inl h
   ·exact .inr (by simp [h])
  ·rcases List.mem_cons.1 h with h | h
   ·exact .inr (by simp [h])
   ·rcases ih h with h | h
    ·exact .inl h
    ·exact .inr (by simp [h])
theorem Keys.set {m:AMap} (h:Keys m) (k:Int) (l:Qs):Keys (mset m k l):=by
 induction h with
 | nil=>simp [mset,Keys]
 | @cons x m h1 h2 ih =>
  simp only [mset]
  split
  ·rename_i hx
   simp only [beq_iff_eq] at hx
   exact List.Pairwise.cons (fun b hb=>by simpa [hx] using h1 b hb) h2
  ·rename_i hx
   simp only [beq_iff_eq] at hx
   refine List.Pairwise.cons (fun b hb=>?_) ih
   rcases mem_mset hb with rfl | hb
   ·exact hx
   ·exact h1 b hb
theorem mem_mdel {m:AMap} {k:Int} {e:Int × Qs} (h:e∈mdel m k):e∈m:=by
 induction m with
 | nil=>simp [mdel] at h
 | cons x m ih =>
  simp only [mdel] at h
  split at h
  ·simp [h]
  ·rcases List.mem_cons.1 h with h | h
   ·simp [h]
   ·simp [ih h]
theorem Keys.del {m:AMap} (h:Keys m) (k:Int):Keys (mdel m k):=by
 induction h with
 | nil=>simp [mdel,Keys]
 | @cons x m h1 h2 ih =>
  simp only [mdel]
  split
  ·exact h2
  ·exact List.Pairwise.cons (fun b hb=>h1 b (mem_mdel hb)) ih
theorem run_store [bn:Inhabited Ban] {base:Nat} {w:World} {r:Nat} {m:AMap} (h:Xm base w r m) (hr:base<=r) (k:Int) {v:Value} {l:Qs} (hv:Qv base w v l) :
  ∃ w',(Instr.mapUpdate 131 (.map (some r)) (.int .u64 k) v).run Tryz.prog w=.ok () w'/\Xm base w' r (mset m k l)/\Keep (·=r) w w':=by
 have hfoot:=h.foot hr
 obtain ⟨es,clock,hb,he⟩:=h
 have hlt:=Qt hb
 have fin:∀ (es':Array MapEntry) (clock':Nat) (m':AMap),Ents base w es'.toList clock' m'->Xm base { w with heap:=w.heap.setIfInBounds r (.map es' clock') } r m'/\Keep (·=r) w { w with heap:=w.heap.setIfInBounds r (.map es' clock') }:=by
  intro es' clock' m' he'
  have hk:Keep (·=r) w { w with heap:=w.heap.setIfInBounds r (.map es' clock') }:=Keep.setObj (F:=(·=r)) (Keep.refl _ w) (r:=r) (.inl rfl) _
  exact ⟨⟨es',clock',by simp [hlt],he'.keep hfoot hk⟩,hk⟩
 rcases findNow_ents (k:=k) es.toList m 0 he.len he.all with ⟨h1,h2,h3⟩ | ⟨j,v0,l0,h1,h2,_,h4,h5,h6,h7,h8⟩
 ·refine ⟨_,?_,fin (es.push { key:=.int .u64 k,val:=v,born:=clock }) (clock+1) _ ?_⟩
  ·simp [Instr.mapUpdate,run_underlying Tryz.underlying131,MapKept.run_getObj_map hb,MapKept.run_checkKey Tryz.underlying27 (Ge k),MapKept.run_findKey Tryz.underlying27 h2,MapKept.run_setObj_map _ hb,Result.andThen]
  ·rw [mset_append h3]
   refine ⟨by simpa using he.len,?_,?_,?_,?_⟩
   ·intro p hp
    rw [Array.toList_push,List.zip_append he.len] at hp
    rcases List.mem_append.1 hp with hp | hp
    ·exact he.all p hp
    ·simp at hp;subst hp;exact ⟨rfl,hv⟩
   ·rw [Array.toList_push]
    refine List.pairwise_append.2 ⟨he.born,List.pairwise_singleton _ _,fun a ha b hb=>?_⟩
    simp at hb;subst hb;exact he.clock a ha
   ·intro e hee
    rw [Array.toList_push] at hee
    rcases List.mem_append.1 hee with hee | hee
    ·have:=he.clock e hee;omega
    ·simp at hee;subst hee;simp
   ·have:=he.keys.set k l
    rw [mset_append h3] at this
    exact this
 ·have hj:j<es.size:=by simpa using h4
  simp only [Nat.zero_add] at h2
  have hkey:(es[j]?).map (·.key)=some (.int .u64 k):=by simpa using h7
  refine ⟨_,?_,fin (es.modify j fun e=>{ e with key:=.int .u64 k,val:=v }) clock _ ?_⟩
  ·simp [Instr.mapUpdate,run_underlying Tryz.underlying131,MapKept.run_getObj_map hb,MapKept.run_checkKey Tryz.underlying27 (Ge k),MapKept.run_findKey Tryz.underlying27 h2,hkey,MapKept.run_keyThatStays (Ge k),MapKept.run_setObj_map _ hb,Result.andThen]
  ·rw [mset_modify h5 h8]
   have hborn:∀ (i:Nat),((es.modify j fun e=>{ e with key:=.int .u64 k,val:=v })[i]?).map (fun e:MapEntry=>e.born)=(es[i]?).map (fun e:MapEntry=>e.born):=by
    intro i
    rw [Array.getElem?_modify]
    split
    ·cases es[i]? <;> rfl
    ·rfl
   have hb':(es.modify j fun e=>{ e with key:=.int .u64 k,val:=v }).toList.map (fun e:MapEntry=>e.born)=es.toList.map (fun e:MapEntry=>e.born):=by
    apply List.ext_getElem?
    intro i
    rw [List.getElem?_map,List.getElem?_map,Array.getElem?_toList,Array.getElem?_toList]
    exact hborn i
   refine ⟨by simpa using he.len,?_,?_,?_,?_⟩
   ·intro p hp
    obtain ⟨i,hi⟩:=List.mem_iff_getElem?.1 hp
    rw [List.getElem?_zip_eq_some] at hi
    obtain ⟨h1',h2'⟩:=hi
    rw [Array.getElem?_toList,Array.getElem?_modify] at h1'
    rw [List.getElem?_set] at h2'
    by_cases hij:j=i
    ·subst hij
     have hjm:j<m.length:=(List.getElem?_eq_some_iff.1 h5).1
     simp [hjm] at h2'
     simp [hj] at h1'
     rw [<- h1',<- h2']
     exact ⟨rfl,hv⟩
    ·simp [hij] at h1' h2'
     refine he.all p (List.mem_iff_getElem?.2 ⟨i,?_⟩)
     rw [List.getElem?_zip_eq_some]
     exact ⟨by simpa using h1',h2'⟩
   ·have:=he.born
    rw [<- List.pairwise_map (f:=fun e:MapEntry=>e.born) (R:=fun a b=>a<b)] at this ⊢
    rw [hb'];exact this
   ·intro e hee
    have:e.born∈es.toList.map (fun e:MapEntry=>e.born):=by rw [<- hb'];exact List.mem_map_of_mem hee
    obtain ⟨e',he',heq⟩:=List.mem_map.1 this
    rw [<- heq];exact he.clock e' he'
   ·have:=he.keys.set k l
    rw [mset_modify h5 h8] at this
    exact this
theorem run_del [bn:Inhabited Ban] {base:Nat} {w:World} {r:Nat} {m:AMap} (h:Xm base w r m) (hr:base<=r) (k:Int) :
  ∃ w',(∀ ty,(Builtin.delete_ #[131,27] ty #[.map (some r),.int .u64 k]).run Tryz.prog w=.ok (.tuple #[]) w')/\Xm base w' r (mdel m k)/\Keep (·=r) w w':=by
 have hfoot:=h.foot hr
 obtain ⟨es,clock,hb,he⟩:=h
 have hlt:=Qt hb
 have fin:∀ (es':Array MapEntry) (m':AMap),Ents base w es'.toList clock m'->Xm base { w with heap:=w.heap.setIfInBounds r (.map es' clock) } r m'/\Keep (·=r) w { w with heap:=w.heap.setIfInBounds r (.map es' clock) }:=by
  intro es' m' he'
  have hk:Keep (·=r) w { w with heap:=w.heap.setIfInBounds r (.map es' clock) }:=Keep.setObj (F:=(·=r)) (Keep.refl _ w) (r:=r) (.inl rfl) _
  exact ⟨⟨es',clock,by simp [hlt],he'.keep hfoot hk⟩,hk⟩
 rcases findNow_ents (k:=k) es.toList m 0 he.len he.all with ⟨h1,h2,h3⟩ | ⟨j,v0,l0,h1,h2,_,h4,h5,h6,h7,h8⟩
 ·refine ⟨_,fun ty=>?_,fin es _ ?_⟩
  ·simp [Builtin.delete_,run_underlying Tryz.underlying131,MapKept.run_getObj_map hb,MapKept.run_checkKey Tryz.underlying27 (Ge k),MapKept.run_findKey Tryz.underlying27 h2,MapKept.run_setObj_map _ hb,Result.andThen]
  ·rw [mdel_none h3];exact he
 ·have hj:j<es.size:=by simpa using h4
  simp only [Nat.zero_add] at h2
  refine ⟨_,fun ty=>?_,fin (es.eraseIdxIfInBounds j) _ ?_⟩
  ·simp [Builtin.delete_,run_underlying Tryz.underlying131,MapKept.run_getObj_map hb,MapKept.run_checkKey Tryz.underlying27 (Ge k),MapKept.run_findKey Tryz.underlying27 h2,MapKept.run_setObj_map _ hb,Result.andThen]
  ·have hjm:j<m.length:=(List.getElem?_eq_some_iff.1 h5).1
   have hlist:(es.eraseIdxIfInBounds j).toList=es.toList.eraseIdx j:=by
    simp [Array.eraseIdxIfInBounds,hj]
   have hzip:∀ {α β:Type} (a:List α) (b:List β) (j:Nat),(a.eraseIdx j).zip (b.eraseIdx j)=(a.zip b).eraseIdx j:=by
    intro α β a
    induction a with
    | nil=>intro b j;simp
    | cons x a ih =>
     intro b j
     cases b with
     | nil=>simp
     | cons y b =>
      cases j with
      | zero=>rfl
      | succ j=>simp [ih]
   rw [mdel_erase h5 h8,hlist]
   refine ⟨by rw [List.length_eraseIdx_of_lt h4,List.length_eraseIdx_of_lt hjm,he.len],?_,he.born.sublist (List.eraseIdx_sublist _ _),fun e hee=>he.clock e (List.mem_of_mem_eraseIdx hee),he.keys.sublist (List.eraseIdx_sublist _ _)⟩
   intro p hp
   rw [hzip] at hp
   exact he.all p (List.mem_of_mem_eraseIdx hp)
structure Hq [bn:Inhabited Ban] (base:Nat) (w:World) (it r:Nat) (m left:AMap):Prop where
 ex:∃ es clock seen,w.heap[it]?=some (.mapIter (some r) clock seen clock)/\w.heap[r]?=some (.map es clock)/\Ents base w es.toList clock m /\
  left=((es.toList.zip m).filter (fun p=>!seen.contains p.1.born)).map (·.2)
theorem mem_zip_left {α β:Type} {p:α × β} {a:List α} {b:List β} (h:p∈a.zip b):p.1∈a:=(List.of_mem_zip (a:=p.1) (b:=p.2) h).1
theorem run_range [bn:Inhabited Ban] {base:Nat} {w:World} {r:Nat} {m:AMap} (h:Xm base w r m):∃ o,(Instr.range 131 (.map (some r))).run Tryz.prog w=.ok (.pointer (some ⟨w.heap.size,0,none⟩)) (w.alloc o) /\
  Hq base (w.alloc o) w.heap.size r m m:=by
 obtain ⟨es,clock,hb,he⟩:=h
 have hk:Keep No w (w.alloc (.mapIter (some r) clock #[] clock)):=(Keep.refl _ w).alloc _
 refine ⟨.mapIter (some r) clock #[] clock,?_,⟨es,clock,#[],Qy w _,hk.heap hb (fun h=>h),he.keep (Foot.no _ _) hk,?_⟩⟩
 ·simp [Instr.range,run_underlying Tryz.underlying131,MapKept.run_getObj_map hb,newObj,Sem.run,Result.andThen]
 ·have e:(es.toList.zip m).filter (fun p=>!(#[]:Array Nat).contains p.1.born)=es.toList.zip m:=List.filter_eq_self.2 (fun p _=>by simp)
  rw [e]
  exact (List.map_snd_zip (by rw [he.len];exact Nat.le_refl _)).symm
theorem run_next [bn:Inhabited Ban] {base:Nat} {w:World} {it r:Nat} {m left:AMap} (h:Hq base w it r m left) (hit:base<=it) (ty:TypeId) :
  (left=[]/\(Instr.next (.pointer (some ⟨it,0,none⟩)) false ty).run Tryz.prog w=.ok (.tuple #[.bool false]) w) \/
  ∃ kv∈left,∃ v w',Qv base w v kv.2/\(Instr.next (.pointer (some ⟨it,0,none⟩)) false ty).run Tryz.prog w=.ok (.tuple #[.bool true,.int .u64 kv.1,v]) w' /\
   (Instr.entry (.pointer (some ⟨it,0,none⟩))).run Tryz.prog w'=.ok (.tuple #[.int .u64 kv.1,v]) w' /\
   Hq base w' it r m (left.filter (fun e=>e.1 != kv.1))/\Keep (·=it) w w':=by
 obtain ⟨es,clock,seen,hi,hb,he,hl⟩:=h.ex
 have hfoot:Foot base w (·=it):=by
  rintro b rfl
  exact ⟨hit,Qt hi,fun cs fr e=>by rw [hi] at e;cases e⟩
 have hrne:r≠it:=by rintro rfl;rw [hi] at hb;cases hb
 have hleft:(leftOf es seen).toList=((es.toList.zip m).filter (fun p=>!seen.contains p.1.born)).map (·.1):=by
  have e:es.toList=(es.toList.zip m).map (·.1):=(List.map_fst_zip (by rw [he.len];exact Nat.le_refl _)).symm
  have:(leftOf es seen).toList=es.toList.filter (fun e=>!seen.contains e.born):=by simp [leftOf]
  rw [this]
  conv=>lhs;rw [e]
  rw [List.filter_map]
  rfl
 rcases run_next_at (P:=Tryz.prog) w ty it r clock clock seen es clock hi hb he.clock (Nat.le_refl _) with ⟨h0,hrun⟩ | ⟨e,hel,w1,hw1,hrun⟩
 ·left
  refine ⟨?_,hrun⟩
  have:(leftOf es seen).toList=[]:=List.eq_nil_of_length_eq_zero (by simpa using h0)
  rw [hleft] at this
  rw [hl,List.map_eq_nil_iff.1 this]
  rfl
 ·right
  rw [hleft] at hel
  obtain ⟨p,hp,rfl⟩:=List.mem_map.1 hel
  obtain ⟨hpz,hps⟩:=List.mem_filter.1 hp
  obtain ⟨hpk,hpv⟩:=he.all p hpz
  have hk:Keep (·=it) w (ChangeMaps.setBlock w1 it (.mapIter (some r) clock (seen.push p.1.born) clock)):=by
   rcases hw1 with rfl | rfl
   ·exact Keep.setObj (F:=(·=it)) (Keep.refl _ w1) (r:=it) (.inl rfl) _
   ·exact Keep.setObj (F:=(·=it)) (Keep.drew (Keep.refl _ w)) (r:=it) (.inl rfl) _
  have hil:it<w1.heap.size:=by rcases hw1 with rfl | rfl <;> exact Qt hi
  have hi':(ChangeMaps.setBlock w1 it (.mapIter (some r) clock (seen.push p.1.born) clock)).heap[it]?=some (.mapIter (some r) clock (seen.push p.1.born) clock):=by
   simp [ChangeMaps.setBlock,hil]
  have hb':=hk.heap hb hrne
  have hnd:(es.toList.map (fun e:MapEntry=>e.born)).Nodup:=by
   rw [List.nodup_iff_pairwise_ne,List.pairwise_map]
   exact he.born.imp (fun h=>Nat.ne_of_lt h)
  rw [hpk] at hrun
  refine ⟨p.2,by rw [hl];exact List.mem_map_of_mem hp,p.1.val,_,hpv,hrun,?_,⟨es,clock,seen.push p.1.born,hi',hb',he.keep hfoot hk,?_⟩,hk⟩
  ·rw [run_entry_at _ it r clock seen es clock p.1 hi' hb' (mem_zip_left hpz) hnd,hpk]
  ·rw [hl,List.filter_map]
   congr 1
   rw [List.filter_filter]
   apply List.filter_congr
   intro q hq
   have hborn:(es.toList.zip m).Pairwise (fun a b=>a.1.born≠b.1.born):=by
    have:=he.born.imp (S:=fun a b:MapEntry=>a.born≠b.born) (fun h=>Nat.ne_of_lt h)
    have e:es.toList=(es.toList.zip m).map (·.1):=(List.map_fst_zip (by rw [he.len];exact Nat.le_refl _)).symm
    rw [e,List.pairwise_map] at this
    exact this
   have hkeys:(es.toList.zip m).Pairwise (fun a b=>a.2.1≠b.2.1):=by
    have:=he.keys
    unfold Keys at this
    have e:m=(es.toList.zip m).map (·.2):=(List.map_snd_zip (by rw [he.len];exact Nat.le_refl _)).symm
    rw [e,List.pairwise_map] at this
    exact this
   have hiff:q.1.born=p.1.born ↔ q.2.1=p.2.1:=by
    constructor
    ·intro h;rw [pairwise_inj (f:=fun a:MapEntry × (Int × Qs)=>a.1.born) hborn q hq p hpz h]
    ·intro h;rw [pairwise_inj (f:=fun a:MapEntry × (Int × Qs)=>a.2.1) hkeys q hq p hpz h]
   by_cases h1:q.1.born=p.1.born
   ·simp [h1,hiff.1 h1]
   ·have h2:¬q.2.1=p.2.1:=fun h=>h1 (hiff.2 h)
    simp [h1,h2]
def He (w:World) (it:Nat):Nat:=match w.heap[it]? with
 | some (.mapIter (some r) _ seen _)=>(match w.heap[r]? with | some (.map es _)=>(leftOf es seen).size | _=>0)
 | _=>0
theorem Hq.num [bn:Inhabited Ban] {base:Nat} {w:World} {it r:Nat} {m left:AMap} (h:Hq base w it r m left):He w it=left.length:=by
 obtain ⟨es,clock,seen,hi,hb,he,hl⟩:=h.ex
 have e:es.toList=(es.toList.zip m).map (·.1):=(List.map_fst_zip (by rw [he.len];exact Nat.le_refl _)).symm
 have h1:(leftOf es seen).toList=es.toList.filter (fun e=>!seen.contains e.born):=by simp [leftOf]
 have h2:(leftOf es seen).size=left.length:=by
  rw [<- Array.length_toList,h1,hl,List.length_map]
  conv=>lhs;rw [e]
  rw [List.filter_map,List.length_map]
  rfl
 simp only [He,hi,hb,h2]
theorem msum_filter {m:AMap} (h:Keys m) {kv:Int × Qs} (hm:kv∈m):msum m=kv.2.length+msum (m.filter (fun e=>e.1 != kv.1)):=by
 induction h with
 | nil=>cases hm
 | @cons x m h1 h2 ih =>
  rcases List.mem_cons.1 hm with rfl | hm
  ·have e:m.filter (fun e=>e.1 != kv.1)=m:=List.filter_eq_self.2 (fun y hy=>by simpa using (h1 y hy).symm)
   simp [msum,e]
  ·have:=h1 kv hm
   simp [msum,this,ih hm]
   omega
theorem length_filter {m:AMap} (h:Keys m) {kv:Int × Qs} (hm:kv∈m):(m.filter (fun e=>e.1 != kv.1)).length+1=m.length:=by
 induction h with
 | nil=>cases hm
 | @cons x m h1 h2 ih =>
  rcases List.mem_cons.1 hm with rfl | hm
  ·have e:m.filter (fun e=>e.1 != kv.1)=m:=List.filter_eq_self.2 (fun y hy=>by simpa using (h1 y hy).symm)
   simp [e]
  ·have:=h1 kv hm
   simp [this,ih hm]
theorem Keys.filter {m:AMap} (h:Keys m) (p:Int × Qs->Bool):Keys (m.filter p):=h.sublist List.filter_sublist
def numB (n:Nat):List UInt8:=if n<128 then [UInt8.ofNat n] else UInt8.ofNat (n % 128+128) :: numB (n / 128)
termination_by n
decreasing_by omega
theorem Yb {n:Nat} (h:n<128):numB n=[UInt8.ofNat n]:=by rw [numB,if_pos h]
theorem Rv {n:Nat} (h:128<=n):numB n=UInt8.ofNat (n % 128+128) :: numB (n / 128):=by rw [numB,if_neg (by omega)]
theorem numB_len:∀ (k n:Nat),n<128 ^ (k+1)->(numB n).length<=k+1
 | 0,n,h=>by rw [Yb (by simpa using h)];simp
 | k+1,n,h=>by
  by_cases h1:n<128
  ·rw [Yb h1];simp
  ·rw [Rv (by omega)]
   have h2:n / 128<128 ^ (k+1):=by
    rw [Nat.div_lt_iff_lt_mul (by decide)]
    rw [Nat.pow_succ] at h
    exact h
   have:=numB_len k (n / 128) h2
   simp
   omega
theorem Qp {n:Nat} (h:n<18446744073709551616):(numB n).length<=10:=numB_len 9 n (Nat.lt_of_lt_of_le h (by decide))
theorem Vq (w:World) (m:Nat) (hm:m<256):Qv (bn:=Xl) 0 (w.alloc (.cells #[.int .u8 m] 5)) (.slice (some ⟨w.heap.size,0,none⟩) 1 1) [UInt8.ofNat m]:=by
 have hb:(((UInt8.ofNat m).toNat:Nat):Int)=(m:Int):=by simp;omega
 have h:OwnB (w.alloc (.cells #[.int .u8 m] 5)) w.heap.size (.slice (some ⟨w.heap.size,0,none⟩) 1 1) [UInt8.ofNat m] :=
  ⟨rfl,.inr ⟨w.heap.size,1,_,rfl,Nat.le_refl _,Qy _ _,Nat.le_refl _,by decide,rfl,by
   show [Value.int .u8 (m:Int)]=[u8v (UInt8.ofNat m)]
   unfold u8v
   rw [hb]⟩⟩
 exact h.bytes (bn:=Xl) (fun _=>Nat.zero_le _)
def AppB [bn:Inhabited Ban] (base:Nat) (w:World) (B:Nat) (v:Value) (l:Qs):Prop:=(∃ ao,v=.slice ao l.length l.length/\Qv base w v l)\/OwnB w B v l
theorem AppB.form [bn:Inhabited Ban] {base B:Nat} {w:World} {v:Value} {l:Qs} (h:AppB base w B v l):∃ ao cap,v=.slice ao l.length cap:=by
 rcases h with ⟨ao,e,_⟩ | h
 ·exact ⟨_,_,e⟩
 ·exact h.form
theorem or128 (m:Nat):bits .or .u8 ((m:Int) % 256) 128=((m % 128+128:Nat):Int):=by
 have h:∀ k:Fin 256,bits .or .u8 (k.val:Int) 128=((k.val % 128+128:Nat):Int):=by decide +kernel
 have h1:=h ⟨m % 256,Nat.mod_lt _ (by decide)⟩
 simp only at h1
 have e1:((m % 256:Nat):Int)=(m:Int) % 256:=by omega
 have e2:m % 256 % 128=m % 128:=by omega
 rw [e1,e2] at h1
 exact h1
theorem AppB.no [bn:Inhabited Ban] {base B:Nat} {w w':World} {v:Value} {l:Qs} (h:AppB base w B v l) (k:Keep No w w'):AppB base w' B v l:=by
 rcases h with ⟨ao,e,hb⟩ | h
 ·exact .inl ⟨ao,e,hb.no k⟩
 ·exact .inr (h.keep k (fun _ _ e=>e))
theorem wpList_append_full [bn:Inhabited Ban] {w:World} {ops:Array Oper} {rest:List Oper} {o:Oper} {a:Act} {Q:Exit->Act->World->Prop}
  (hg:o.guard=none) (s x:Operand) (hop:o.op=Op.call { callee:=Callee.builtin Builtin.append,args:=#[s,x],argTypes:=#[59,59] })
  (B:Nat) {v u:Value} {l m:Qs} {base base':Nat} (happ:AppB base w B v l) (hsrc:Qv (bn:=Xl) base' w u m) (hm:m≠[]) (hs:a.eval s=v) (hx:a.eval x=u)
  (hlen:l.length+m.length<=70368744177664) (hB:B<=w.heap.size)
  (hK:∀ v' w',OwnB w' B v' (l++m)->Keep (fun b=>B<=b) w w'->wpList Tryz.prog ops Q rest (a.put o.dst v') w') :
  wpList Tryz.prog ops Q (o :: rest) a w:=by
 have hown:OwnB w B v l->wpList Tryz.prog ops Q (o :: rest) a w:=fun hown =>
  Zq (bn:=Xl) hg s x hop B hown hsrc hs hx hlen hB (fun v' w' h1 k=>hK v' w' h1 (k.mono fun b _ hb=>(hown.lt b hb).1))
 rcases happ with ⟨ao,rfl,hb⟩ | h
 ·obtain ⟨ao',cap',he,hc',hm',hn',hcell'⟩:=hb
  simp only [Value.slice.injEq] at he
  obtain ⟨rfl,_,rfl⟩:=he
  cases ao with
  | none =>
   have hl:=hn' rfl
   have:l=[]:=List.eq_nil_of_length_eq_zero hl
   subst this
   exact hown (OwnB.nil _ _)
  | some ad =>
   refine wpList_plain hg fun K hK'=>?_
   obtain ⟨i0,hi,hz0,hz1,hz2⟩:=info_parts Rr
   obtain ⟨bo,bc,rfl,hc,hmx,hn,hcell⟩:=hsrc
   cases bo with
   | none =>
    have:=hn rfl
    have hl0:m.length=0:=by omega
    exact (hm (List.eq_nil_of_length_eq_zero hl0)).elim
   | some bd =>
    have hpos:0<m.length:=List.length_pos_iff.2 hm
    have hrun:=run_append_grow (P:=Tryz.prog) w 59 o.type 5 i0 (.int .u8 0) Tryz.underlying59 hi hz0 ad l.length l.length (l.map u8v) (by rw [hz1];simp) (fun j y hj=>by
      rw [List.getElem?_map] at hj
      cases hmj:l[j]? with
      | none=>simp [hmj] at hj
      | some z =>
       obtain ⟨ad',e,_,hcl⟩:=hcell' j z hmj
       cases e
       simp [hmj] at hj
       rw [hcl,hj])
     bd m.length bc (m.map u8v) (by rw [hz1];simp) (fun j y hj=>by
      rw [List.getElem?_map] at hj
      cases hmj:m[j]? with
      | none=>simp [hmj] at hj
      | some z =>
       obtain ⟨ad',e,_,hcl⟩:=hcell j z hmj
       cases e
       simp [hmj] at hj
       rw [hcl,hj]) (by omega) (by omega) (growslice_fits (by omega) (by rw [hz2];omega))
    have hge:=grownCap_ge w (l.length+m.length) l.length 5
    have hcm2:grownCap w (l.length+m.length) l.length 5<=maxLen:=grownCap_le_maxLen w (l.length+m.length) l.length 5 (by unfold maxLen;omega)
    unfold Oper.wp
    simp [execOp,hop,resolve,invoke,builtin,hs,hx,hrun,Result.andThen]
    refine hK' _ _ (hK _ _ ?_ ((Keep.refl _ _).drew.alloc _))
    refine ⟨by simp,.inr ⟨w.heap.size,_,_,by rw [List.length_append],hB,heap_alloc_new w.drew _,by rw [List.length_append];exact hge,hcm2,?_,?_⟩⟩
    ·simp [size_zeroCells,Value.cells]
     omega
    ·simp
     rw [<- List.append_assoc,List.take_append_of_le_length (by simp),List.take_of_length_le (by simp)]
 ·exact hown h
theorem Xk [bn:Inhabited Ban] {base:Nat} {w:World} {v:Value} {l:Qs} (h:Qv base w v l) (n:Nat) (hn:n<18446744073709551616) (hl:l.length<=1099511627776) :
  Calls Tryz.prog 59 #[v,.int .u64 n] w fun e w'=>∃ v',e=.returned v'/\OwnB w' w.heap.size v' (l++numB n)/\Keep No w w':=by
 obtain ⟨ao,cap,rfl⟩:=h.form
 have hcap:l.length<=cap/\cap<=maxLen:=by obtain ⟨_,_,hq,h1,h2,_⟩:=h;simp at hq;omega
 unfold maxLen at hcap
 have hf:AppB base w w.heap.size (.slice ao l.length l.length) l:=by
  obtain ⟨ao',cap',he,h1,h2,h3,h4⟩:=h
  simp only [Value.slice.injEq] at he
  obtain ⟨rfl,_,rfl⟩:=he
  refine .inl ⟨ao,rfl,ao,l.length,rfl,Nat.le_refl _,by unfold maxLen;omega,fun e=>by have:=h3 e;omega,h4⟩
 have HH:=Lib.hid (A3 hf hn hl)
 clear hf h hn hl
 go_enter Tryz.func59,Tryz.ntmps59
 go_wp2_with fail
 go_loopw [0,1] (fun v0 nv wr=>∃ (d:List UInt8) (m:Nat),nv=.int .u64 m/\numB n=d++numB m/\m<=n/\AppB base wr w.heap.size v0 (l++d)/\Keep No w wr) (fun _ nv _=>(intOf nv).toNat)
 case atStart=>exact ⟨[],n,rfl,rfl,Nat.le_refl _,by rw [List.append_nil];exact HH.out.1,Keep.refl _ _⟩
 case round =>
  obtain ⟨d,m,rfl,hd,hmn,happ,hk⟩:=hrel
  have hm64:(m:Int)<=18446744073709551615:=by have:=HH.out.2.1;omega
  obtain ⟨va,vc,rfl⟩:=happ.form
  have hdl:d.length<=10:=by have:=Qp HH.out.2.1;rw [hd,List.length_append] at this;omega
  have HB:=Lib.hid (A5 hd hmn happ hk hdl)
  have kA:=fun (w:World) o=>(Keep.refl No w).alloc o
  by_cases h128:m<128
  ·have hlt:¬(128:Int)<=(m:Int):=by omega
   have hlit:=Vq wr m (by omega)
   have happ2:AppB base (wr.alloc (.cells #[.int .u8 m] 5)) w.heap.size (.slice va (l++d).length vc) (l++d):=happ.no (kA _ _)
   have hlen:(l++d).length+[UInt8.ofNat m].length<=70368744177664:=by have:=HH.out.2.2;simp;omega
   have hsz:w.heap.size<=(wr.alloc (.cells #[.int .u8 m] 5)).heap.size:=(hk.then (kA _ _)).size
   clear hd hmn happ hk hdl
   go_wp2_with (at_builtin;refine wpList_append_full rfl _ _ rfl w.heap.size happ2 hlit (by simp) rfl rfl hlen hsz ?_;intro v' w7 hown7 k7)
   go_ret
   refine ⟨v',rfl,?_,(HB.out.2.2.2.1.then (kA _ _)).trans k7 (fun x hx e=>by omega)⟩
   rw [HB.out.1,Yb h128,<- List.append_assoc]
   exact hown7
  ·have hlt:(128:Int)<=(m:Int):=by omega
   obtain ⟨r,hr⟩:∃ r,r=m % 128+128:=⟨_,rfl⟩
   have hor:=or128 m
   rw [<- hr] at hor
   have hlit:=Vq wr r (by omega)
   have happ2:AppB base (wr.alloc (.cells #[.int .u8 r] 5)) w.heap.size (.slice va (l++d).length vc) (l++d):=happ.no (kA _ _)
   have hlen:(l++d).length+[UInt8.ofNat r].length<=70368744177664:=by have:=HH.out.2.2;simp;omega
   have hsz:w.heap.size<=(wr.alloc (.cells #[.int .u8 r] 5)).heap.size:=(hk.then (kA _ _)).size
   have HR:=Lib.hid hr
   clear hd hmn happ hk hdl hr
   go_wp2_with (at_builtin;refine wpList_append_full rfl _ _ rfl w.heap.size happ2 hlit (by simp) rfl rfl hlen hsz ?_;intro v' w7 hown7 k7)
   go_roundw
   case rel =>
    refine ⟨d++[UInt8.ofNat r],m / 128,by rw [show ((m / 128:Nat):Int)=(m:Int) / 128 by omega],?_,by have:=HB.out.2.1;omega,.inr (by rw [<- List.append_assoc];exact hown7),(HB.out.2.2.2.1.then (kA _ _)).trans k7 (fun x hx e=>by omega)⟩
    rw [HB.out.1,Rv (by omega),HR.out,List.append_assoc]
    rfl
   case measure =>
    simp only [intOf]
    omega
end Go.Proofs.YtfdmbomlkpkegaaGreat
namespace Go.Dr
open Go
section
variable {P:Program} {ops:Array Oper} {Q:Exit->Act->World->Prop} {md:Region.Mode} {S:World->Prop} {T:Nat->Bool}
def Rn (P:Program) (ops:Array Oper) (Q:Exit->Act->World->Prop) (S:World->Prop) (K:Act->World->Prop) (j:Nat):List Nat->Act->World->Prop
 | [],a,w=>midN P ops Q S K [j] a w
 | i :: r,a,w=>midN P ops Q S K (j :: i :: r) a w/\midN P ops Q S (fun a' w'=>Rn P ops Q S K j r a' w') [i] a w
def Gj (md:Region.Mode) (ops:Array Oper) (j:Nat) (t:List Nat):List Nat->Array Bool->Bool
 | [],listed=>Region.ready md ops listed==[j] && Js md ops t (listed.setIfInBounds j true)
 | i :: r,listed=>(Region.ready md ops listed).all (fun x=>x==i || x==j) && !(Region.ready md ops listed).isEmpty && Js md ops (i :: r++t) (listed.setIfInBounds j true) && Gj md ops j t r (listed.setIfInBounds i true)
theorem float_take {K:Act->World->Prop} (t:List Nat) {Ts:List Oper} (hTs:Zo ops t Ts) (hT:∀ i∈t,T i=true) (hK:∀ a w,K a w->wpList P ops Q Ts a w) (j:Nat) :
  ∀ (m:List Nat) (Ms:List Oper),Zo ops m Ms->(hj:∃ o,ops[j]?=some o)->∀ (listed:Array Bool) (a:Act) (w:World),Gj md ops j t m listed=true->Rn P ops Q S K j m a w ->
   Vk P md ops Q S T (m.length+1+t.length) listed a w:=by
 intro m Ms hp hj
 obtain ⟨oj,hj⟩:=hj
 have step:∀ (i:Nat) (oi:Oper),ops[i]?=some oi->∀ (K1:Act->World->Prop) (a:Act) (w:World),midN P ops Q S K1 [i] a w ->
   wpOp P ops Q i (fun a' w'=>S w'/\K1 a' w') a w:=by
  intro i oi hi K1 a w h
  obtain ⟨o,ho,h⟩:=h
  have ho':ops[i]?=some o:=by rw [<- Array.getElem?_toList];exact ho
  rw [hi] at ho'
  cases ho'
  unfold wpOp
  simp only [hi]
  split
  ·rename_i hw
   rw [if_pos hw] at h
   exact .inl (Oper.wp_mono (fun a' w' h'=>⟨h'.1,h'.2⟩) h)
  ·rename_i hw
   rw [if_neg hw] at h
   exact ⟨h.1,h.2⟩
 have cons1:∀ (i:Nat) (r:List Nat) (a:Act) (w:World),midN P ops Q S K (i :: r) a w->midN P ops Q S (fun a' w'=>midN P ops Q S K r a' w') [i] a w:=by
  intro i r a w h
  exact h
 induction hp using Zo.rec' with
 | h0 =>
  intro listed a w hc h
  simp only [Gj,Bool.and_eq_true,beq_iff_eq] at hc
  have:=mid_take (T:=T) (S:=S) (Q:=Q) (P:=P) (md:=md) [j] [oj] (Zo.cons hj Zo.nil) (0+1+t.length) t Ts hTs (by simp) listed a w hT (by
   show Js md ops (j :: t) listed=true
   simp only [Js,Bool.and_eq_true,beq_iff_eq]
   exact hc) (midOk_mono (fun a w h=>hK a w h) _ _ _ (Yp [j] [oj] (Zo.cons hj Zo.nil) a w h))
  exact this
 | h1 i o r l hi hr ih =>
  intro listed a w hc h
  simp only [Gj,Bool.and_eq_true,Bool.not_eq_true',List.all_eq_true,Bool.or_eq_true,beq_iff_eq] at hc
  obtain ⟨⟨⟨hall,hne⟩,hfs⟩,hfc⟩:=hc
  obtain ⟨hA,hB⟩:=h
  rw [List.length_cons,show r.length+1+1+t.length=(r.length+1+t.length)+1 by omega]
  refine ⟨fun h0=>(by rw [h0] at hne;simp at hne),fun x hx=>?_⟩
  rcases hall x hx with rfl | rfl
  ·exact wpOp_mono (fun a' w' h'=>⟨fun _=>h'.1,ih _ a' w' hfc h'.2⟩) (step x o hi _ a w hB)
  ·refine wpOp_mono (fun a' w' h'=>⟨fun _=>h'.1,?_⟩) (step x oj hj _ a w (cons1 x (i :: r) a w hA))
   have:=mid_take (T:=T) (S:=S) (Q:=Q) (P:=P) (md:=md) (i :: r) (o :: l) (Zo.cons hi hr) (r.length+1+t.length) t Ts hTs (by simp) _ a' w' hT hfs (midOk_mono (fun a w h=>hK a w h) _ _ _ (Yp (i :: r) (o :: l) (Zo.cons hi hr) a' w' h'.2))
   exact this
theorem wp_drawF {id:Nat} {a:Act} {w:World} (S:World->Prop) (E m t:List Nat) (j:Nat) (hm:P.follows .mixedOrders=true)
  (hc:(Region.noSelect ops && Ym .any ops t.contains E (Array.replicate ops.size false) && Gj .any ops j t m (Zm E (Array.replicate ops.size false)) && (E.length+(m.length+1+t.length)==ops.size) &&
   ((j :: m++t).all fun i=>decide (i<ops.size)))=true)
  (hQ:∀ c a d v w,Q (.panic c) (Act.put a (some d) v) w->Q (.panic c) a w) (hS:S w.drew)
  (h:Yc P ops S (fun _ a'=>Rn P ops Q S (Rb P ops Q t []) j m a' w.drew) E [] a):(Code.region id ops true).wp P Q a w:=by
 simp only [Bool.and_eq_true,beq_iff_eq,List.all_append,List.all_cons,decide_eq_true_eq] at hc
 obtain ⟨⟨⟨⟨h1,h2⟩,h3⟩,h4⟩,⟨hj,hm'⟩,ht'⟩:=hc
 obtain ⟨Es,hE,he⟩:=Xb E [] a h
 obtain ⟨Ms,hM⟩:=Jp ops m hm'
 obtain ⟨Ts,hT⟩:=Jp ops t ht'
 refine wp_region_any hm (Vt (S:=S) (T:=t.contains) _ _ _ _ ?_)
 generalize hl:Array.replicate ops.size false=l at h2 h3 ⊢
 have hcl:Ya .any ops l:=by
  intro j o hj hl'
  have hlt:j<ops.size:=(Array.getElem?_eq_some_iff.1 hj).1
  subst hl
  simp [hlt] at hl'
 rw [<- h4,Nat.add_comm]
 refine Yw h1 hQ hS E Es hE (m.length+1+t.length) _ a hcl h2 he ?_
 intro a' ha'
 refine float_take t hT (fun i hi=>by simpa using hi) (fun a w h=>?_) j m Ms hM ⟨_,Array.getElem?_eq_getElem hj⟩ _ a' _ h3 ha'
 obtain ⟨Ts',hT',h⟩:=picks_of_tail t [] a w h
 rw [hT.uniq hT']
 exact h
end
end Go.Dr
namespace Go.Dr
open Go
section
variable {P:Program} {ops:Array Oper} {Q:Exit->Act->World->Prop} {md:Region.Mode} {S:World->Prop} {T:Nat->Bool}
end
end Go.Dr
namespace Go.Dr
open Go
section
variable {P:Program} {ops:Array Oper} {Q:Exit->Act->World->Prop}
end
end Go.Dr
namespace Go.Proofs.YtfdmbomlkpkegaaGreat
open Go Go.RowKit
theorem Vc (w:World) (m:Nat) (hm:m<256):OwnB (w.alloc (.cells #[.int .u8 m] 5)) w.heap.size (.slice (some ⟨w.heap.size,0,none⟩) 1 1) [UInt8.ofNat m]:=by
 have hb:(((UInt8.ofNat m).toNat:Nat):Int)=(m:Int):=by simp;omega
 exact ⟨rfl,.inr ⟨w.heap.size,1,_,rfl,Nat.le_refl _,Qy _ _,Nat.le_refl _,by decide,rfl,by
   show [Value.int .u8 (m:Int)]=[u8v (UInt8.ofNat m)]
   unfold u8v
   rw [hb]⟩⟩
theorem Jo:∀ (k n:Nat),n<128 ^ (k+1)->n<18446744073709551616->∀ w:World,Calls Tryz.prog 98 #[.int .u64 n] w fun e w'=>∃ v,e=.returned v/\OwnB w' w.heap.size v (numB n)/\Keep No w w':=by
 intro k
 induction k with
 | zero =>
  intro n hn h64 w
  have hn:n<128:=by simpa using hn
  have h1:(n:Int)<128:=by omega
  have hw:=Vc w n (by omega)
  have kw:=(Keep.refl No w).alloc (.cells #[.int .u8 n] 5)
  have hc:IntKind.u8.wrap (n:Int)=(n:Int):=by rw [IntKind.wrap_u8];omega
  rw [Yb hn]
  have HH:=Lib.hid (A2 hw kw)
  clear hn hw kw
  go_enter Tryz.func98,Tryz.ntmps98
  go_wp2_with fail
  go_ret
  exact ⟨_,rfl,HH.out.1,HH.out.2⟩
 | succ k ih =>
  intro n hn h64 w
  by_cases h:n<128
  ·have h1:(n:Int)<128:=by omega
   have hw:=Vc w n (by omega)
   have kw:=(Keep.refl No w).alloc (.cells #[.int .u8 n] 5)
   have hc:IntKind.u8.wrap (n:Int)=(n:Int):=by rw [IntKind.wrap_u8];omega
   rw [Yb h]
   have HH:=Lib.hid (A2 hw kw)
   clear hn hw kw h ih
   go_enter Tryz.func98,Tryz.ntmps98
   go_wp2_with fail
   go_ret
   exact ⟨_,rfl,HH.out.1,HH.out.2⟩
  ·have h1:¬(n:Int)<128:=by omega
   have h2:n / 128<128 ^ (k+1):=by
    rw [Nat.div_lt_iff_lt_mul (by decide)]
    rw [Nat.pow_succ] at hn
    exact hn
   have hih:=ih (n / 128) h2 (by omega)
   rw [Rv (by omega)]
   have hlen:=numB_len k (n / 128) h2
   have hw:=Vc w (n % 128+128) (by omega)
   have e1:((n % 128+128:Nat):Int)=(n:Int) % 128+128:=by omega
   rw [e1] at hw
   have kw:=(Keep.refl No w).alloc (.cells #[.int .u8 ((n:Int) % 128+128)] 5)
   have hq:IntKind.u64.wrap ((n:Int) / 128)=(n:Int) / 128:=by rw [IntKind.wrap_u64];omega
   have hk:(numB (n / 128)).length<=100:=Nat.le_trans (Qp (by omega)) (by decide)
   have hcall:=hih (w.alloc (.cells #[.int .u8 ((n:Int) % 128+128)] 5))
   have HH:=Lib.hid (A3 hw kw hk)
   clear hn hw kw h hih e1 h2 hlen hk h64 ih
   go_enter Tryz.func98,Tryz.ntmps98
   go_wp2_with fail
   refine hcall.mono ?_
   rintro e w2 ⟨v2,rfl,own2,k2⟩
   have hw2:=HH.out.1.keep k2 (fun _ _ e=>e)
   have kk:=HH.out.2.1.then k2
   have hb2:=own2.bytes (bn:=Xl) (base:=0) (fun _=>Nat.zero_le _)
   go_wp2_with (at_builtin;refine Zq (bn:=Xl) rfl _ _ rfl w.heap.size hw2 hb2 rfl rfl (by have:=HH.out.2.2;simp;omega) kk.size ?_;intro v3 w3 own3 k3)
   go_ret
   exact ⟨_,rfl,own3,kk.trans k3 (fun c hc e=>by have:=(hw2.lt c e).1;omega)⟩
end Go.Proofs.YtfdmbomlkpkegaaGreat
