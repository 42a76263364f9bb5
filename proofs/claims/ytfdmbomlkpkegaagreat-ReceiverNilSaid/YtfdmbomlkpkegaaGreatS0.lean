/- Lemmas for ReceiverNil. -/
import Derived.OrdersHeld
import Derived.Tactics
import Derived.Laws.World
import Derived.Test.YtfdmbomlkpkegaaGreatProg
import Derived.WalkKit
import Derived.WalkLawsBesides
import Derived.WalkSpells
import Derived.Maps.RangeRun
import Derived.Shelf.SlMaps.Clone
import Derived.Deep.AppendLies
import Derived.Lib.AppendZeros
import Derived.Lib.Hide
import Derived.BigQuiet
import Derived.Maps.OwnSet
import Derived.Lib.SlBytesConst
import Derived.Deep.QuietTactic
set_option maxRecDepth 100000
set_option maxHeartbeats 8000000
set_option linter.all false
namespace Go
theorem A2 {p0 p1 : Prop} (x0 : p0) (x1 : p1) : p0 /\ p1 := ⟨x0, x1⟩
theorem A3 {p0 p1 p2 : Prop} (x0 : p0) (x1 : p1) (x2 : p2) : p0 /\ p1 /\ p2 := ⟨x0, x1, x2⟩
theorem A4 {p0 p1 p2 p3 : Prop} (x0 : p0) (x1 : p1) (x2 : p2) (x3 : p3) : p0 /\ p1 /\ p2 /\ p3 := ⟨x0, x1, x2, x3⟩
theorem A5 {p0 p1 p2 p3 p4 : Prop} (x0 : p0) (x1 : p1) (x2 : p2) (x3 : p3) (x4 : p4) : p0 /\ p1 /\ p2 /\ p3 /\ p4 := ⟨x0, x1, x2, x3, x4⟩
theorem A6 {p0 p1 p2 p3 p4 p5 : Prop} (x0 : p0) (x1 : p1) (x2 : p2) (x3 : p3) (x4 : p4) (x5 : p5) : p0 /\ p1 /\ p2 /\ p3 /\ p4 /\ p5 := ⟨x0, x1, x2, x3, x4, x5⟩
theorem A7 {p0 p1 p2 p3 p4 p5 p6 : Prop} (x0 : p0) (x1 : p1) (x2 : p2) (x3 : p3) (x4 : p4) (x5 : p5) (x6 : p6) : p0 /\ p1 /\ p2 /\ p3 /\ p4 /\ p5 /\ p6 := ⟨x0, x1, x2, x3, x4, x5, x6⟩
theorem A8 {p0 p1 p2 p3 p4 p5 p6 p7 : Prop} (x0 : p0) (x1 : p1) (x2 : p2) (x3 : p3) (x4 : p4) (x5 : p5) (x6 : p6) (x7 : p7) : p0 /\ p1 /\ p2 /\ p3 /\ p4 /\ p5 /\ p6 /\ p7 := ⟨x0, x1, x2, x3, x4, x5, x6, x7⟩
theorem A9 {p0 p1 p2 p3 p4 p5 p6 p7 p8 : Prop} (x0 : p0) (x1 : p1) (x2 : p2) (x3 : p3) (x4 : p4) (x5 : p5) (x6 : p6) (x7 : p7) (x8 : p8) : p0 /\ p1 /\ p2 /\ p3 /\ p4 /\ p5 /\ p6 /\ p7 /\ p8 := ⟨x0, x1, x2, x3, x4, x5, x6, x7, x8⟩
theorem A10 {p0 p1 p2 p3 p4 p5 p6 p7 p8 p9 : Prop} (x0 : p0) (x1 : p1) (x2 : p2) (x3 : p3) (x4 : p4) (x5 : p5) (x6 : p6) (x7 : p7) (x8 : p8) (x9 : p9) : p0 /\ p1 /\ p2 /\ p3 /\ p4 /\ p5 /\ p6 /\ p7 /\ p8 /\ p9 := ⟨x0, x1, x2, x3, x4, x5, x6, x7, x8, x9⟩
theorem A11 {p0 p1 p2 p3 p4 p5 p6 p7 p8 p9 p10 : Prop} (x0 : p0) (x1 : p1) (x2 : p2) (x3 : p3) (x4 : p4) (x5 : p5) (x6 : p6) (x7 : p7) (x8 : p8) (x9 : p9) (x10 : p10) : p0 /\ p1 /\ p2 /\ p3 /\ p4 /\ p5 /\ p6 /\ p7 /\ p8 /\ p9 /\ p10 := ⟨x0, x1, x2, x3, x4, x5, x6, x7, x8, x9, x10⟩
theorem A12 {p0 p1 p2 p3 p4 p5 p6 p7 p8 p9 p10 p11 : Prop} (x0 : p0) (x1 : p1) (x2 : p2) (x3 : p3) (x4 : p4) (x5 : p5) (x6 : p6) (x7 : p7) (x8 : p8) (x9 : p9) (x10 : p10) (x11 : p11) : p0 /\ p1 /\ p2 /\ p3 /\ p4 /\ p5 /\ p6 /\ p7 /\ p8 /\ p9 /\ p10 /\ p11 := ⟨x0, x1, x2, x3, x4, x5, x6, x7, x8, x9, x10, x11⟩
theorem A13 {p0 p1 p2 p3 p4 p5 p6 p7 p8 p9 p10 p11 p12 : Prop} (x0 : p0) (x1 : p1) (x2 : p2) (x3 : p3) (x4 : p4) (x5 : p5) (x6 : p6) (x7 : p7) (x8 : p8) (x9 : p9) (x10 : p10) (x11 : p11) (x12 : p12) : p0 /\ p1 /\ p2 /\ p3 /\ p4 /\ p5 /\ p6 /\ p7 /\ p8 /\ p9 /\ p10 /\ p11 /\ p12 := ⟨x0, x1, x2, x3, x4, x5, x6, x7, x8, x9, x10, x11, x12⟩
theorem A14 {p0 p1 p2 p3 p4 p5 p6 p7 p8 p9 p10 p11 p12 p13 : Prop} (x0 : p0) (x1 : p1) (x2 : p2) (x3 : p3) (x4 : p4) (x5 : p5) (x6 : p6) (x7 : p7) (x8 : p8) (x9 : p9) (x10 : p10) (x11 : p11) (x12 : p12) (x13 : p13) : p0 /\ p1 /\ p2 /\ p3 /\ p4 /\ p5 /\ p6 /\ p7 /\ p8 /\ p9 /\ p10 /\ p11 /\ p12 /\ p13 := ⟨x0, x1, x2, x3, x4, x5, x6, x7, x8, x9, x10, x11, x12, x13⟩
theorem A15 {p0 p1 p2 p3 p4 p5 p6 p7 p8 p9 p10 p11 p12 p13 p14 : Prop} (x0 : p0) (x1 : p1) (x2 : p2) (x3 : p3) (x4 : p4) (x5 : p5) (x6 : p6) (x7 : p7) (x8 : p8) (x9 : p9) (x10 : p10) (x11 : p11) (x12 : p12) (x13 : p13) (x14 : p14) : p0 /\ p1 /\ p2 /\ p3 /\ p4 /\ p5 /\ p6 /\ p7 /\ p8 /\ p9 /\ p10 /\ p11 /\ p12 /\ p13 /\ p14 := ⟨x0, x1, x2, x3, x4, x5, x6, x7, x8, x9, x10, x11, x12, x13, x14⟩
theorem A16 {p0 p1 p2 p3 p4 p5 p6 p7 p8 p9 p10 p11 p12 p13 p14 p15 : Prop} (x0 : p0) (x1 : p1) (x2 : p2) (x3 : p3) (x4 : p4) (x5 : p5) (x6 : p6) (x7 : p7) (x8 : p8) (x9 : p9) (x10 : p10) (x11 : p11) (x12 : p12) (x13 : p13) (x14 : p14) (x15 : p15) : p0 /\ p1 /\ p2 /\ p3 /\ p4 /\ p5 /\ p6 /\ p7 /\ p8 /\ p9 /\ p10 /\ p11 /\ p12 /\ p13 /\ p14 /\ p15 := ⟨x0, x1, x2, x3, x4, x5, x6, x7, x8, x9, x10, x11, x12, x13, x14, x15⟩
end Go
namespace Go.Dr
open Go
section
variable {P:Program} {ops:Array Oper} {Q:Exit->Act->World->Prop} {md:Region.Mode} {S:World->Prop} {T:Nat->Bool}
def Rd (md:Region.Mode) (ops:Array Oper):Nat->Nat->Nat->Bool
 | 0,_,_=>false
 | f+1,j,i=>((ops[j]?).map (·.after.any fun e=>Region.binds md e && (e.on==i || Rd md ops f e.on i))).getD false
def Ya (md:Region.Mode) (ops:Array Oper) (listed:Array Bool):Prop :=
 ∀ j o,ops[j]?=some o->listed.getD j false=true->∀ e∈o.after,Region.binds md e=true->listed.getD e.on false=true
theorem getD_false_of_true {listed:Array Bool} {i:Nat} (h:listed.getD i true=false):listed.getD i false=false:=by
 rcases Nat.lt_or_ge i listed.size with h' | h'
 ·simp [h'] at h ⊢;exact h
 ·simp [Array.getElem?_eq_none h'] at h
theorem needs_listed {listed:Array Bool} (hc:Ya md ops listed):∀ f j i o,ops[j]?=some o ->
  (∀ e∈o.after,Region.binds md e=true->listed.getD e.on false=true)->Rd md ops f j i=true->listed.getD i false=true:=by
 intro f
 induction f with
 | zero=>intro j i o _ _ h;simp [Rd] at h
 | succ f ih =>
  intro j i o ho hall h
  simp only [Rd,ho,Option.map_some,Option.getD_some] at h
  obtain ⟨e,he,hb⟩:=Array.any_eq_true'.1 h
  simp only [Bool.and_eq_true,Bool.or_eq_true,beq_iff_eq] at hb
  have hl:=hall e he hb.1
  rcases hb.2 with hb | hb
  ·rw [<- hb];exact hl
  ·cases hoe:ops[e.on]? with
   | none =>
    cases f with
    | zero=>simp [Rd] at hb
    | succ f=>simp [Rd,hoe] at hb
   | some o'=>exact ih e.on i o' hoe (hc e.on o' hoe hl) hb
theorem Ya.set {listed:Array Bool} {i:Nat} (hc:Ya md ops listed) (hi:i∈Region.ready md ops listed) :
  Ya md ops (listed.setIfInBounds i true):=by
 intro j o ho hl e he hb
 by_cases hij:i=j
 ·subst hij
  obtain ⟨_,o',ho',hall⟩:=mem_ready.1 hi
  rw [ho] at ho'
  cases ho'
  exact getD_set_true (hall e he hb)
 ·rw [getD_set_ne false hij] at hl
  exact getD_set_true (hc j o ho hl e he hb)
def Vk (P:Program) (md:Region.Mode) (ops:Array Oper) (Q:Exit->Act->World->Prop) (S:World->Prop) (T:Nat->Bool) :
  Nat->Array Bool->Act->World->Prop
 | 0,listed,a,w=>Region.ready md ops listed=[]/\Q .normal a w
 | fuel+1,listed,a,w =>
  (Region.ready md ops listed=[]->Q .normal a w) /\
  ∀ i∈Region.ready md ops listed,wpOp P ops Q i (fun a' w'=>(T i=false->S w')/\Vk P md ops Q S T fuel (listed.setIfInBounds i true) a' w') a w
theorem Vt:∀ (fuel:Nat) (listed:Array Bool) (a:Act) (w:World),Vk P md ops Q S T fuel listed a w->wpAny P md ops Q fuel listed a w
 | 0,_,_,_,h=>h
 | fuel+1,_,_,_,h=>⟨h.1,fun i hi=>wpOp_mono (fun a' w' h'=>Vt fuel _ a' w' h'.2) (h.2 i hi)⟩
theorem wpAnyT_first {i:Nat} {oi:Oper} {v:Value} (hi:ops[i]?=some oi) (hsel:∀ (j:Nat) (o:Oper) cs b,ops[j]?=some o->o.op≠.select cs b)
  (hQ:∀ c a w,Q (.panic c) (a.put oi.dst v) w->Q (.panic c) a w) (hTi:T i=false)
  (hT:∀ j,j<ops.size->T j=true->Rd md ops ops.size j i=true) :
  ∀ (fuel:Nat) (listed:Array Bool) (a:Act) (w:World),Ya md ops listed ->
   (∀ j oj,ops[j]?=some oj->j≠i->listed.getD j true=false->(∀ e∈oj.after,Region.binds md e=true->e.on≠i)->oi.apart ops oj=true) ->
   i∈Region.ready md ops listed->YieldsIf P ops S oi v a->S w ->
   Vk P md ops Q S T fuel (listed.setIfInBounds i true) (a.put oi.dst v) w->Vk P md ops Q S T (fuel+1) listed a w:=by
 intro fuel
 induction fuel with
 | zero =>
  intro listed a w _ _ hr hy hS H
  refine ⟨fun h=>(by rw [h] at hr;cases hr),fun j hj=>?_⟩
  by_cases hji:j=i
  ·subst hji;exact hy.wpOp hi hS ⟨fun _=>hS,H⟩
  ·have:=ready_mono hj hji
   rw [H.1] at this
   cases this
 | succ fuel ih =>
  intro listed a w hcl hfree hr hy hS H
  refine ⟨fun h=>(by rw [h] at hr;cases hr),fun j hj=>?_⟩
  by_cases hji:j=i
  ·subst hji;exact hy.wpOp hi hS ⟨fun _=>hS,H⟩
  ·have h1:=H.2 j (ready_mono hj hji)
   obtain ⟨hjun,oj,hoj,hall⟩:=mem_ready.1 hj
   have hiun:=getD_false_of_true (mem_ready.1 hr).1
   have hnot:∀ e∈oj.after,Region.binds md e=true->e.on≠i:=fun e he hb heq=>by
    have h2:=hall e he hb
    rw [heq,hiun] at h2
    cases h2
   have hTj:T j=false:=by
    cases hTj:T j with
    | false=>rfl
    | true =>
     have hn:=hT j (Array.getElem?_eq_some_iff.1 hoj).1 hTj
     have:=needs_listed hcl _ j i oj hoj hall hn
     rw [hiun] at this
     cases this
   have h2:=wpOp_putIf hoj (hfree j oj hoj hji hjun hnot) (fun cs b=>hsel i oi cs b hi) (fun cs b=>hsel j oj cs b hoj) hQ hy h1
   have hfree':∀ k ok,ops[k]?=some ok->k≠i->(listed.setIfInBounds j true).getD k true=false ->
     (∀ e∈ok.after,Region.binds md e=true->e.on≠i)->oi.apart ops ok=true:=fun k ok hk hki hun hno=>by
    refine hfree k ok hk hki ?_ hno
    by_cases hjk:j=k
    ·subst hjk;exact hjun
    ·rw [getD_set_ne true hjk] at hun;exact hun
   refine wpOp_mono (fun a' w' h3=>⟨fun _=>h3.2.1 hTj,ih (listed.setIfInBounds j true) a' w' (hcl.set hj) hfree' (ready_mono hr (Ne.symm hji)) h3.1 (h3.2.1 hTj) ?_⟩) h2
   rw [Array.setIfInBounds_comm _ _ hji]
   exact h3.2.2
def Zo (ops:Array Oper):List Nat->List Oper->Prop
 | [],[]=>True
 | i :: r,o :: l=>ops[i]?=some o/\Zo ops r l
 | _,_=>False
theorem Zo.nil:Zo ops [] []:=trivial
theorem Zo.cons {i:Nat} {o:Oper} {r:List Nat} {l:List Oper} (h:ops[i]?=some o) (t:Zo ops r l):Zo ops (i :: r) (o :: l):=⟨h,t⟩
theorem Zo.rec' {C:(t:List Nat)->(a:List Oper)->Zo ops t a->Prop} (h0:C [] [] Zo.nil) (h1:∀ i o r l (h:ops[i]?=some o) (t:Zo ops r l),C r l t->C (i :: r) (o :: l) (Zo.cons h t)) :
  ∀ {t:List Nat} {a:List Oper} (h:Zo ops t a),C t a h:=by
 intro t
 induction t with
 | nil =>
  intro a h
  cases a with
  | nil=>exact h0
  | cons=>exact h.elim
 | cons i r ih =>
  intro a h
  cases a with
  | nil=>exact h.elim
  | cons o l=>exact h1 i o r l h.1 h.2 (ih h.2)
def Vw (P:Program) (ops:Array Oper) (S:World->Prop) (K:Act->Prop):List Oper->Act->Prop
 | [],a=>K a
 | o :: r,a=>∃ v,o.dst.isSome=true/\YieldsIf P ops S o v a/\Vw P ops S K r (a.put o.dst v)
def Ym (md:Region.Mode) (ops:Array Oper) (T:Nat->Bool):List Nat->Array Bool->Bool
 | [],_=>true
 | i :: r,listed=>Region.free md ops listed i && (Region.ready md ops listed).contains i && !T i &&
   (List.range ops.size).all (fun j=>!T j || Rd md ops ops.size j i) && Ym md ops T r (listed.setIfInBounds i true)
def Zm:List Nat->Array Bool->Array Bool
 | [],l=>l
 | i :: r,l=>Zm r (l.setIfInBounds i true)
theorem Yw (hs:Region.noSelect ops=true) (hQ:∀ c a d v w,Q (.panic c) (Act.put a (some d) v) w->Q (.panic c) a w) {K:Act->Prop} {w:World} (hS:S w) :
  ∀ (E:List Nat) (Es:List Oper),Zo ops E Es->∀ (fuel:Nat) (listed:Array Bool) (a:Act),Ya md ops listed->Ym md ops T E listed=true->Vw P ops S K Es a ->
   (∀ a',K a'->Vk P md ops Q S T fuel (Zm E listed) a' w)->Vk P md ops Q S T (fuel+E.length) listed a w:=by
 intro E Es hp
 induction hp using Zo.rec' with
 | h0=>intro fuel listed a _ _ h hK;exact hK a h
 | h1 i o r l hi _ ih =>
  intro fuel listed a hcl ht h hK
  obtain ⟨v,hd,hy,h⟩:=h
  simp only [Ym,Bool.and_eq_true,Bool.not_eq_true',List.all_eq_true,List.mem_range,Bool.or_eq_true] at ht
  obtain ⟨⟨⟨⟨hf,hr⟩,hTi⟩,hT⟩,ht⟩:=ht
  have hr':i∈Region.ready md ops listed:=by simpa using hr
  obtain ⟨d,hd'⟩:=Option.isSome_iff_exists.1 hd
  rw [List.length_cons,<- Nat.add_assoc]
  refine wpAnyT_first hi (Region.noSelect_spec hs) (fun c a w=>by rw [hd'];exact hQ c a d v w) hTi (fun j hj hTj=>(hT j hj).resolve_left (by simp [hTj]))
   (fuel+r.length) listed a w hcl (Region.free_spec hi hf) hr' hy hS ?_
  exact ih fuel _ _ (hcl.set hr') ht h hK
def Js (md:Region.Mode) (ops:Array Oper):List Nat->Array Bool->Bool
 | [],listed=>(Region.ready md ops listed).isEmpty
 | i :: r,listed=>Region.ready md ops listed==[i] && Js md ops r (listed.setIfInBounds i true)
def Ug (P:Program) (ops:Array Oper) (Q:Exit->Act->World->Prop) (S:World->Prop) (K:Act->World->Prop):List Oper->Act->World->Prop
 | [],a,w=>K a w
 | o :: r,a,w=>if Region.wanted o (yielded ops a.tmps) then o.wp P a w (fun a' w'=>S w'/\Ug P ops Q S K r a' w') Q else S w/\Ug P ops Q S K r (a.put o.dst undef) w
theorem late_take (fuel:Nat):∀ (t:List Nat) (Ts:List Oper),Zo ops t Ts->t.length=fuel->∀ (listed:Array Bool) (a:Act) (w:World),(∀ i∈t,T i=true)->Js md ops t listed=true ->
  wpList P ops Q Ts a w->Vk P md ops Q S T fuel listed a w:=by
 intro t Ts hp
 induction hp using Zo.rec' generalizing fuel with
 | h0 =>
  rintro rfl listed a w _ hf h
  simp only [Js,List.isEmpty_iff] at hf
  exact ⟨hf,h⟩
 | h1 i o r l hi _ ih =>
  rintro rfl listed a w hT hf h
  simp only [Js,Bool.and_eq_true,beq_iff_eq] at hf
  refine ⟨fun h0=>(by rw [hf.1] at h0;cases h0),fun j hj=>?_⟩
  rw [hf.1,List.mem_singleton] at hj
  subst hj
  refine wpOp_mono (fun a' w' h'=>⟨fun hj=>(by rw [hT j (by simp)] at hj;cases hj),ih r.length rfl _ a' w' (fun i hi=>hT i (by simp [hi])) hf.2 h'⟩) ?_
  unfold wpOp
  simp only [hi]
  exact h
theorem mid_take:∀ (m:List Nat) (Ms:List Oper),Zo ops m Ms->∀ (fuel:Nat) (t:List Nat) (Ts:List Oper),Zo ops t Ts->fuel=m.length+t.length->∀ (listed:Array Bool) (a:Act) (w:World),
  (∀ i∈t,T i=true)->Js md ops (m++t) listed=true->Ug P ops Q S (wpList P ops Q Ts) Ms a w->Vk P md ops Q S T fuel listed a w:=by
 intro m Ms hp
 induction hp using Zo.rec' with
 | h0=>intro fuel t Ts ht hl listed a w hT hf h;exact late_take fuel t Ts ht (by simpa using hl.symm) listed a w hT hf h
 | h1 i o r l hi _ ih =>
  intro fuel t Ts ht hl listed a w hT hf h
  simp only [List.cons_append,Js,Bool.and_eq_true,beq_iff_eq] at hf
  obtain ⟨fuel,rfl⟩:∃ f,fuel=f+1:=⟨r.length+t.length,by simp at hl;omega⟩
  refine ⟨fun h0=>(by rw [hf.1] at h0;cases h0),fun j hj=>?_⟩
  rw [hf.1,List.mem_singleton] at hj
  subst hj
  unfold Ug at h
  unfold wpOp
  simp only [hi]
  split
  ·rename_i hw
   rw [if_pos hw] at h
   exact .inl (Oper.wp_mono (fun a' w' h'=>⟨fun _=>h'.1,ih fuel t Ts ht (by simp at hl;omega) _ a' w' hT hf.2 h'.2⟩) h)
  ·rename_i hw
   rw [if_neg hw] at h
   exact ⟨fun _=>h.1,ih fuel t Ts ht (by simp at hl;omega) _ _ w hT hf.2 h.2⟩
def drawCheck (ops:Array Oper) (E m t:List Nat):Bool :=
 Region.noSelect ops && Ym .any ops t.contains E (Array.replicate ops.size false) && Js .any ops (m++t) (Zm E (Array.replicate ops.size false)) &&
  (E.length+(m.length+t.length)==ops.size)
def Yc (P:Program) (ops:Array Oper) (S:World->Prop) (K:List Oper->Act->Prop):List Nat->List Oper->Act->Prop
 | [],l,a=>K l a
 | i :: r,l,a=>∃ o v,ops.toList[i]?=some o/\o.dst.isSome=true/\YieldsIf P ops S o v a/\Yc P ops S K r (l++[o]) (a.put o.dst v)
theorem Qj {K:List Oper->Act->Prop} {l:List Oper} {a:Act} (h:K l a):Yc P ops S K [] l a:=h
theorem Qk {K:List Oper->Act->Prop} {i:Nat} {r:List Nat} {l:List Oper} {a:Act} {o:Oper} {v:Value} (hi:ops.toList[i]?=some o) (hd:o.dst.isSome=true) (hg:o.guard=none)
  (hv:∀ w,S w->(execOp a.eval o).run P w=.ok (.value v) w) (h:Yc P ops S K r (l++[o]) (a.put o.dst v)):Yc P ops S K (i :: r) l a :=
 ⟨o,v,hi,hd,.inl ⟨by simp [Region.wanted,hg],hv⟩,h⟩
theorem Qe {K:List Oper->Act->Prop} {i:Nat} {r:List Nat} {l:List Oper} {a:Act} {o:Oper} {v:Value} (hi:ops.toList[i]?=some o) (hd:o.dst.isSome=true) (hg:Region.wanted o (yielded ops a.tmps)=true)
  (hv:∀ w,S w->(execOp a.eval o).run P w=.ok (.value v) w) (h:Yc P ops S K r (l++[o]) (a.put o.dst v)):Yc P ops S K (i :: r) l a :=
 ⟨o,v,hi,hd,.inl ⟨hg,hv⟩,h⟩
theorem Sh {K:List Oper->Act->Prop} {i:Nat} {r:List Nat} {l:List Oper} {a:Act} {o:Oper} (hi:ops.toList[i]?=some o) (hd:o.dst.isSome=true) (hg:Region.wanted o (yielded ops a.tmps)=false)
  (h:Yc P ops S K r (l++[o]) (a.put o.dst undef)):Yc P ops S K (i :: r) l a :=
 ⟨o,undef,hi,hd,.inr ⟨hg,rfl⟩,h⟩
def Rb (P:Program) (ops:Array Oper) (Q:Exit->Act->World->Prop):List Nat->List Oper->Act->World->Prop
 | [],l,a,w=>wpList P ops Q l a w
 | i :: r,l,a,w=>∃ o,ops.toList[i]?=some o/\Rb P ops Q r (l++[o]) a w
theorem Qm {l:List Oper} {a:Act} {w:World} (h:wpList P ops Q l a w):Rb P ops Q [] l a w:=h
theorem Qu {i:Nat} {r:List Nat} {l:List Oper} {a:Act} {w:World} {o:Oper} (hi:ops.toList[i]?=some o) (h:Rb P ops Q r (l++[o]) a w):Rb P ops Q (i :: r) l a w:=⟨o,hi,h⟩
def midN (P:Program) (ops:Array Oper) (Q:Exit->Act->World->Prop) (S:World->Prop) (K:Act->World->Prop):List Nat->Act->World->Prop
 | [],a,w=>K a w
 | i :: r,a,w=>∃ o,ops.toList[i]?=some o/\if Region.wanted o (yielded ops a.tmps) then o.wp P a w (fun a' w'=>S w'/\midN P ops Q S K r a' w') Q else S w/\midN P ops Q S K r (a.put o.dst undef) w
theorem Qh {K:Act->World->Prop} {a:Act} {w:World} (h:K a w):midN P ops Q S K [] a w:=h
theorem Qx {K:Act->World->Prop} {i:Nat} {r:List Nat} {a:Act} {w:World} {o:Oper} (hi:ops.toList[i]?=some o) (hg:o.guard=none)
  (h:∀ K':Act->World->Prop,(∀ a w,S w->midN P ops Q S K r a w->K' a w)->o.wp P a w K' Q):midN P ops Q S K (i :: r) a w:=by
 unfold midN
 refine ⟨o,hi,?_⟩
 rw [if_pos (by simp [Region.wanted,hg])]
 exact h _ (fun a w hS h=>⟨hS,h⟩)
theorem Xb {K:List Oper->Act->Prop}:∀ (E:List Nat) (l:List Oper) (a:Act),Yc P ops S K E l a->∃ Es,Zo ops E Es/\Vw P ops S (K (l++Es)) Es a:=by
 intro E
 induction E with
 | nil=>intro l a h;exact ⟨[],.nil,by rw [List.append_nil];exact h⟩
 | cons i r ih =>
  intro l a h
  obtain ⟨o,v,hi,hd,hy,h⟩:=h
  rw [Array.getElem?_toList] at hi
  obtain ⟨Es,hp,he⟩:=ih _ _ h
  refine ⟨o :: Es,.cons hi hp,v,hd,hy,?_⟩
  rw [List.append_assoc] at he
  exact he
theorem picks_of_tail:∀ (t:List Nat) (l:List Oper) (a:Act) (w:World),Rb P ops Q t l a w->∃ Ts,Zo ops t Ts/\wpList P ops Q (l++Ts) a w:=by
 intro t
 induction t with
 | nil=>intro l a w h;exact ⟨[],.nil,by rw [List.append_nil];exact h⟩
 | cons i r ih =>
  intro l a w h
  obtain ⟨o,hi,h⟩:=h
  rw [Array.getElem?_toList] at hi
  obtain ⟨Ts,hp,he⟩:=ih _ _ _ h
  exact ⟨o :: Ts,.cons hi hp,by rw [List.append_assoc] at he;exact he⟩
theorem Zo.uniq:∀ {t:List Nat} {a b:List Oper},Zo ops t a->Zo ops t b->a=b:=by
 intro t a b ha
 induction ha using Zo.rec' generalizing b with
 | h0 =>
  intro hb
  cases b with
  | nil=>rfl
  | cons=>exact hb.elim
 | h1 i o r l h _ ih =>
  intro hb
  cases b with
  | nil=>exact hb.elim
  | cons o' l' =>
   obtain ⟨h',t'⟩:=hb
   rw [h] at h'
   cases h'
   rw [ih t']
theorem Jp (ops:Array Oper):∀ (t:List Nat),(t.all fun i=>decide (i<ops.size))=true->∃ Ts,Zo ops t Ts:=by
 intro t
 induction t with
 | nil=>intro _;exact ⟨[],.nil⟩
 | cons i r ih =>
  intro h
  simp only [List.all_cons,Bool.and_eq_true,decide_eq_true_eq] at h
  obtain ⟨Ts,hp⟩:=ih h.2
  exact ⟨_,.cons (Array.getElem?_eq_getElem h.1) hp⟩
theorem Yp {K:Act->World->Prop}:∀ (m:List Nat) (Ms:List Oper),Zo ops m Ms->∀ (a:Act) (w:World),midN P ops Q S K m a w->Ug P ops Q S K Ms a w:=by
 intro m Ms hp
 induction hp using Zo.rec' with
 | h0=>intro a w h;exact h
 | h1 i o r l hi _ ih =>
  intro a w h
  obtain ⟨o,ho,h⟩:=h
  rw [Array.getElem?_toList,hi] at ho
  cases ho
  unfold Ug
  split
  ·rename_i hw
   rw [if_pos hw] at h
   exact Oper.wp_mono (fun a w h=>⟨h.1,ih a w h.2⟩) h
  ·rename_i hw
   rw [if_neg hw] at h
   exact ⟨h.1,ih _ _ h.2⟩
theorem midOk_mono {K K':Act->World->Prop} (hK:∀ a w,K a w->K' a w):∀ (Ms:List Oper) (a:Act) (w:World),Ug P ops Q S K Ms a w->Ug P ops Q S K' Ms a w:=by
 intro Ms
 induction Ms with
 | nil=>intro a w h;exact hK _ _ h
 | cons o r ih =>
  intro a w h
  unfold Ug at h ⊢
  split
  ·rename_i hw
   rw [if_pos hw] at h
   exact Oper.wp_mono (fun a w h=>⟨h.1,ih a w h.2⟩) h
  ·rename_i hw
   rw [if_neg hw] at h
   exact ⟨h.1,ih _ _ h.2⟩
theorem earlyOk_mono {K K':Act->Prop} (hK:∀ a,K a->K' a):∀ (Es:List Oper) (a:Act),Vw P ops S K Es a->Vw P ops S K' Es a:=by
 intro Es
 induction Es with
 | nil=>intro a h;exact hK _ h
 | cons o r ih =>
  intro a h
  obtain ⟨v,hd,hy,h⟩:=h
  exact ⟨v,hd,hy,ih _ h⟩
theorem wp_draw {id:Nat} {a:Act} {w:World} (S:World->Prop) (E m t:List Nat) {Es Ms Ts:List Oper} (hm:P.follows .mixedOrders=true)
  (hc:drawCheck ops E m t=true) (hE:Zo ops E Es) (hM:Zo ops m Ms) (hT:Zo ops t Ts)
  (hQ:∀ c a d v w,Q (.panic c) (Act.put a (some d) v) w->Q (.panic c) a w) (hS:S w.drew)
  (h:Vw P ops S (fun a'=>Ug P ops Q S (wpList P ops Q Ts) Ms a' w.drew) Es a):(Code.region id ops true).wp P Q a w:=by
 simp only [drawCheck,Bool.and_eq_true,beq_iff_eq] at hc
 obtain ⟨⟨⟨h1,h2⟩,h3⟩,h4⟩:=hc
 refine wp_region_any hm (Vt (S:=S) (T:=t.contains) _ _ _ _ ?_)
 generalize hl:Array.replicate ops.size false=l at h2 h3 ⊢
 have hcl:Ya .any ops l:=by
  intro j o hj hl'
  have hlt:j<ops.size:=(Array.getElem?_eq_some_iff.1 hj).1
  subst hl
  simp [hlt] at hl'
 rw [<- h4,Nat.add_comm]
 refine Yw h1 hQ hS E Es hE (m.length+t.length) _ a hcl h2 h ?_
 intro a' ha'
 exact mid_take m Ms hM _ t Ts hT rfl _ a' _ (fun i hi=>by simpa using hi) h3 ha'
theorem Ql {id:Nat} {a:Act} {w:World} (S:World->Prop) (E m t:List Nat) (hm:P.follows .mixedOrders=true)
  (hc:(drawCheck ops E m t && ((m++t).all fun i=>decide (i<ops.size)))=true)
  (hQ:∀ c a d v w,Q (.panic c) (Act.put a (some d) v) w->Q (.panic c) a w) (hS:S w.drew)
  (h:Yc P ops S (fun _ a'=>midN P ops Q S (Rb P ops Q t []) m a' w.drew) E [] a):(Code.region id ops true).wp P Q a w:=by
 simp only [Bool.and_eq_true,List.all_append] at hc
 obtain ⟨hc,hm',ht'⟩:=hc
 obtain ⟨Es,hE,he⟩:=Xb E [] a h
 obtain ⟨Ms,hM⟩:=Jp ops m hm'
 obtain ⟨Ts,hT⟩:=Jp ops t ht'
 refine wp_draw S E m t hm hc hE hM hT hQ hS (earlyOk_mono (fun a h=>?_) _ _ he)
 refine midOk_mono (fun a w h=>?_) _ _ _ (Yp m Ms hM a _ h)
 obtain ⟨Ts',hT',h⟩:=picks_of_tail t [] a w h
 rw [hT.uniq hT']
 exact h
end
end Go.Dr
namespace Go.Proofs.YtfdmbomlkpkegaaGreat
open Go Go.RowKit
abbrev Qs:=List UInt8
def u8v (x:UInt8):Value:=.int .u8 (x.toNat:Int)
def No:Nat->Prop:=fun _=>False
structure Keep (F:Nat->Prop) (w w':World):Prop where
 os:w'.os=w.os
 tape:w'.tape=w.tape
 output:w'.output=w.output
 size:w.heap.size<=w'.heap.size
 block:∀ b,b<w.heap.size->¬F b->w'.heap[b]?=w.heap[b]?
theorem Keep.refl (F:Nat->Prop) (w:World):Keep F w w:=⟨rfl,rfl,rfl,Nat.le_refl _,fun _ _ _=>rfl⟩
theorem Keep.trans {F G:Nat->Prop} {a b c:World} (h:Keep F a b) (k:Keep G b c) (hG:∀ x,x<a.heap.size->G x->F x):Keep F a c :=
 ⟨k.os.trans h.os,k.tape.trans h.tape,k.output.trans h.output,Nat.le_trans h.size k.size,
  fun x hx hn=>(k.block x (Nat.lt_of_lt_of_le hx h.size) (fun hg=>hn (hG x hx hg))).trans (h.block x hx hn)⟩
theorem Keep.mono {F G:Nat->Prop} {a b:World} (h:Keep F a b) (hF:∀ x,x<a.heap.size->F x->G x):Keep G a b :=
 ⟨h.os,h.tape,h.output,h.size,fun x hx hn=>h.block x hx (fun hf=>hn (hF x hx hf))⟩
theorem Keep.no {F:Nat->Prop} {a b:World} (h:Keep No a b):Keep F a b:=h.mono (fun _ _ h=>h.elim)
theorem Keep.then {F:Nat->Prop} {a b c:World} (h:Keep F a b) (k:Keep No b c):Keep F a c:=h.trans k (fun _ _ h=>h.elim)
theorem Keep.alloc {F:Nat->Prop} {a w:World} (h:Keep F a w) (o:Obj):Keep F a (w.alloc o) :=
 h.then ⟨rfl,rfl,rfl,by simp,fun k hk _=>Below.heap_alloc _ _ _ (by omega)⟩
theorem Keep.drew {F:Nat->Prop} {a w:World} (h:Keep F a w):Keep F a w.drew:=⟨h.os,h.tape,h.output,h.size,h.block⟩
theorem Keep.setCell {F:Nat->Prop} {a w:World} (h:Keep F a w) {p:Addr} (hp:F p.block\/a.heap.size<=p.block) (u:Value):Keep F a (w.setCell p u) :=
 ⟨h.os,h.tape,h.output,by simpa using h.size,fun k hk hn=>by
  rw [Below.heap_setCell _ _ _ _ (fun e=>by subst e;rcases hp with hp | hp;exact hn hp;omega)]
  exact h.block k hk hn⟩
theorem Keep.grown {F:Nat->Prop} {a w w':World} {row:Option Nat} (h:Keep F a w) (hg:w.grownBy w' row) (hr:∀ k,row=some k->F k\/a.heap.size<=k):Keep F a w' :=
 ⟨hg.os.trans h.os,hg.tape.trans h.tape,hg.output.trans h.output,Nat.le_trans h.size hg.size,fun k hk hn=>by
  rw [hg.block k (Nat.lt_of_lt_of_le hk h.size) (fun e=>by rcases hr k e.symm with h' | h';exact hn h';omega)]
  exact h.block k hk hn⟩
theorem Keep.setObj {F:Nat->Prop} {a w:World} (h:Keep F a w) {r:Nat} (hp:F r\/a.heap.size<=r) (o:Obj):Keep F a { w with heap:=w.heap.setIfInBounds r o } :=
 ⟨h.os,h.tape,h.output,by simpa using h.size,fun k hk hn=>by
  have:r≠k:=fun e=>by subst e;rcases hp with hp | hp;exact hn hp;omega
  show (w.heap.setIfInBounds r o)[k]?=_
  rw [Array.getElem?_setIfInBounds_ne this]
  exact h.block k hk hn⟩
theorem Keep.heap {F:Nat->Prop} {w w':World} (h:Keep F w w') {b:Nat} {o:Obj} (hb:w.heap[b]?=some o) (hn:¬F b):w'.heap[b]?=some o :=
 (h.block b (Array.getElem?_eq_some_iff.1 hb).1 hn).trans hb
theorem Keep.cell {F:Nat->Prop} {w w':World} (h:Keep F w w') {p:Addr} {v:Value} (hc:w.cell? p=some v) (hn:¬F p.block):w'.cell? p=some v :=
 (World.cell?_of_block (w:=w) (h.block p.block (World.block_lt_of_cell? w p hc) hn)).trans hc
theorem Keep.below {F:Nat->Prop} {w w':World} {B:Nat} (h:Keep F w w') (hF:∀ x,F x->B<=x) (hB:B<=w.heap.size):Below B w w' :=
 ⟨h.os,h.tape,h.output,h.size,fun k hk=>h.block k (by omega) (fun hf=>by have:=hF k hf;omega)⟩
theorem Qt {w:World} {b:Nat} {o:Obj} (h:w.heap[b]?=some o):b<w.heap.size:=(Array.getElem?_eq_some_iff.1 h).1
theorem Qq {w:World} {b:Nat} {cs:Array Value} {t:TypeId} {fr:Nat × Nat} (h:w.heap[b]?=some (.cells cs t fr)) (i:Nat):w.cell? ⟨b,i,none⟩=cs[i]?:=by
 simp [World.cell?,h]
theorem Qg {w:World} {b:Nat} {cs:Array Value} {t:TypeId} (h:w.heap[b]?=some (.cells cs t (0,0))) (i:Nat):w.frozen? ⟨b,i,none⟩=false:=by
 simp [World.frozen?,h]
theorem Qy (w:World) (o:Obj):(w.alloc o).heap[w.heap.size]?=some o:=heap_alloc_new w o
theorem Qz {w:World} {b i:Nat} {cs:Array Value} {t:TypeId} {fr:Nat × Nat} {u:Value} (h:w.heap[b]?=some (.cells cs t fr)) :
  (w.setCell ⟨b,i,none⟩ u).heap[b]?=some (.cells (cs.setIfInBounds i u) t fr):=by
 simp [World.setCell,Array.getElem?_modify,h]
def Foot (base:Nat) (w:World) (F:Nat->Prop):Prop :=
 ∀ b,F b->base<=b/\b<w.heap.size/\∀ cs fr,w.heap[b]?≠some (.cells cs 5 fr)
theorem Foot.no (base:Nat) (w:World):Foot base w No:=fun _ h=>h.elim
structure Ban where
 Z:Nat->Prop
 top:Nat
 lt:∀ b,Z b->b<top
abbrev Xl:Inhabited Ban:=⟨⟨No,0,fun _ h=>h.elim⟩⟩
abbrev Rt (g:Nat):Inhabited Ban:=⟨⟨(·=g),g+1,fun b h=>by have:b=g:=h;omega⟩⟩
def ban [bn:Inhabited Ban]:Ban:=default
def Up [bn:Inhabited Ban] (base:Nat) (w:World) (b:Nat):Prop:=b<w.heap.size/\(b<base\/∃ cs fr,w.heap[b]?=some (.cells cs 5 fr))/\¬ban.Z b/\ban.top<=w.heap.size
theorem Up.not [bn:Inhabited Ban] {base:Nat} {w:World} {F:Nat->Prop} {b:Nat} (h:Up base w b) (hF:Foot base w F):¬F b:=by
 intro hb
 obtain ⟨h1,h2,h3⟩:=hF b hb
 rcases h.2.1 with h | ⟨cs,fr,h⟩
 ·omega
 ·exact h3 _ _ h
theorem Up.keep [bn:Inhabited Ban] {base:Nat} {w w':World} {F:Nat->Prop} {b:Nat} (h:Up base w b) (hF:Foot base w F) (k:Keep F w w'):Up base w' b:=by
 refine ⟨Nat.lt_of_lt_of_le h.1 k.size,?_,h.2.2.1,Nat.le_trans h.2.2.2 k.size⟩
 have hn:=h.not hF
 rcases h.2.1 with h2 | ⟨cs,fr,h2⟩
 ·exact .inl h2
 ·exact .inr ⟨cs,fr,k.heap h2 hn⟩
def Qv [bn:Inhabited Ban] (base:Nat) (w:World) (v:Value) (l:Qs):Prop :=
 ∃ ao cap,v=.slice ao l.length cap/\l.length<=cap/\cap<=maxLen/\(ao=none->cap=0) /\
  ∀ i x,l[i]?=some x->∃ ad,ao=some ad/\Up base w ad.block/\w.cell? (ad.add i)=some (u8v x)
theorem Qv.form [bn:Inhabited Ban] {base:Nat} {w:World} {v:Value} {l:Qs} (h:Qv base w v l):∃ ao cap,v=.slice ao l.length cap:=by
 obtain ⟨ao,cap,h,_⟩:=h
 exact ⟨ao,cap,h⟩
theorem Qv.nil [bn:Inhabited Ban] (base:Nat) (w:World):Qv base w (.slice none 0 0) []:=⟨none,0,rfl,Nat.le_refl _,by decide,fun _=>rfl,fun i x h=>by simp at h⟩
theorem Addr.block_add (ad:Addr) (i:Nat):(ad.add i).block=ad.block:=by unfold Addr.add;split <;> rfl
theorem Qv.keep [bn:Inhabited Ban] {base:Nat} {w w':World} {F:Nat->Prop} {v:Value} {l:Qs} (h:Qv base w v l) (hF:Foot base w F) (k:Keep F w w'):Qv base w' v l:=by
 obtain ⟨ao,cap,h1,h2,h3,h4,h5⟩:=h
 refine ⟨ao,cap,h1,h2,h3,h4,fun i x hx=>?_⟩
 obtain ⟨ad,e,hb,hc⟩:=h5 i x hx
 exact ⟨ad,e,hb.keep hF k,k.cell hc (by rw [Addr.block_add];exact hb.not hF)⟩
theorem Qv.no [bn:Inhabited Ban] {base:Nat} {w w':World} {v:Value} {l:Qs} (h:Qv base w v l) (k:Keep No w w'):Qv base w' v l:=h.keep (Foot.no _ _) k
theorem Qv.take [bn:Inhabited Ban] {base:Nat} {w:World} {ao:Option Addr} {n cap:Nat} {l:Qs} (h:Qv base w (.slice ao n cap) l) (k:Nat) (hk:k<=l.length):Qv base w (.slice ao k cap) (l.take k):=by
 obtain ⟨ao',cap',h1,h2,h3,h4,h5⟩:=h
 simp only [Value.slice.injEq] at h1
 obtain ⟨rfl,rfl,rfl⟩:=h1
 have hl:(l.take k).length=k:=by simp;omega
 refine ⟨ao,cap,by rw [hl],by omega,h3,h4,fun i x hx=>h5 i x ?_⟩
 rw [List.getElem?_take] at hx
 split at hx
 ·exact hx
 ·simp at hx
theorem Qv.top [bn:Inhabited Ban] {base:Nat} {w:World} {v:Value} {l:Qs} (h:Qv base w v l) (hl:l≠[]):ban.top<=w.heap.size:=by
 obtain ⟨ao,cap,h1,h2,h3,h4,h5⟩:=h
 cases l with
 | nil=>exact absurd rfl hl
 | cons x l =>
  obtain ⟨ad,e,hb,hc⟩:=h5 0 x rfl
  exact hb.2.2.2
def OwnB (w:World) (B:Nat) (v:Value) (l:Qs):Prop:=w.ownsRow B 5 1 v l.length (l.map u8v)
theorem u8_one (l:Qs):∀ u∈l.map u8v,u.oneCell'=true:=by
 intro u hu
 obtain ⟨_,_,rfl⟩:=List.mem_map.1 hu
 rfl
theorem OwnB.bytes [bn:Inhabited Ban] {w:World} {B base:Nat} {v:Value} {l:Qs} (h:OwnB w B v l) (hT:l≠[]->ban.top<=B):Qv base w v l:=by
 obtain ⟨_,h⟩:=h
 rcases h with ⟨rfl,hl⟩ | ⟨g,cap,cur,rfl,hb,hg,h1,h2,h3,h4⟩
 ·obtain rfl:=List.eq_nil_of_length_eq_zero hl
  exact Qv.nil _ _
 ·refine ⟨_,cap,rfl,h1,h2,fun h=>(by cases h),fun i x hx=>⟨_,rfl,⟨Qt hg,.inr ⟨_,_,hg⟩,fun hz=>?_,?_⟩,?_⟩⟩
  ·have h5:=ban.lt _ hz
   have h6:=hT (fun e=>by subst e;simp at hx)
   have h5:g<ban.top:=h5
   omega
  ·have h6:=hT (fun e=>by subst e;simp at hx)
   have:=Qt hg
   omega
  have hi:i<l.length:=(List.getElem?_eq_some_iff.1 hx).1
  have e:(⟨g,0,none⟩:Addr).add i=⟨g,i,none⟩:=by simp [Addr.add];omega
  rw [e,Qq hg]
  have hm:(l.map u8v)[i]?=some (u8v x):=by simp [hx]
  rw [<- h4,List.getElem?_take,if_pos (by omega)] at hm
  simpa using hm
theorem OwnB.form {w:World} {B:Nat} {v:Value} {l:Qs} (h:OwnB w B v l):∃ ao cap,v=.slice ao l.length cap:=by
 obtain ⟨_,h⟩:=h
 rcases h with ⟨rfl,hl⟩ | ⟨g,cap,cur,rfl,_⟩
 ·exact ⟨none,0,by rw [hl]⟩
 ·exact ⟨_,_,rfl⟩
theorem OwnB.nil (w:World) (B:Nat):OwnB w B (.slice none 0 0) []:=World.ownsRow_nil _ _ _ _
theorem OwnB.keep {w w':World} {B:Nat} {v:Value} {l:Qs} {F:Nat->Prop} (h:OwnB w B v l) (k:Keep F w w') (hF:∀ b,v.ownBlock=some b->¬F b):OwnB w' B v l:=by
 obtain ⟨h0,h⟩:=h
 refine ⟨h0,?_⟩
 rcases h with h | ⟨g,cap,cur,rfl,hb,hg,r⟩
 ·exact .inl h
 ·exact .inr ⟨g,cap,cur,rfl,hb,k.heap hg (hF g rfl),r⟩
theorem OwnB.lt {w:World} {B:Nat} {v:Value} {l:Qs} (h:OwnB w B v l):∀ k,v.ownBlock=some k->B<=k/\k<w.heap.size:=World.ownsRow.lt h
def Zb [bn:Inhabited Ban] (base:Nat) (w:World) (v:Value) (ls:List Qs):Prop :=
 ∃ us:List Value,us.length=ls.length/\(∀ (i:Nat) u l,us[i]?=some u->ls[i]?=some l->Qv base w u l) /\
  ∃ ao cap,v=.slice ao ls.length cap/\ls.length<=cap/\cap<=maxLen/\(ls=[]\/∃ g o,ao=some ⟨g,o,none⟩/\∀ (i:Nat) u,us[i]?=some u->w.cell? ⟨g,o+i,none⟩=some u)
theorem Zb.of_block [bn:Inhabited Ban] {base:Nat} {w:World} {g:Nat} {cs:Array Value} {t:TypeId} {fr:Nat × Nat} (h:w.heap[g]?=some (.cells cs t fr)) (ls:List Qs)
  (hl:cs.size=ls.length) (hm:cs.size<=maxLen) (hb:∀ (i:Nat) u l,cs[i]?=some u->ls[i]?=some l->Qv base w u l):Zb base w (.slice (some ⟨g,0,none⟩) ls.length ls.length) ls:=by
 refine ⟨cs.toList,by simpa using hl,fun i u l hu hl=>hb i u l (by simpa using hu) hl,_,_,rfl,Nat.le_refl _,by omega,.inr ⟨g,0,rfl,fun i u hu=>?_⟩⟩
 rw [Nat.zero_add,Qq h]
 simpa using hu
def catB (ls:List Qs) (k:Nat):Qs:=(ls.take k).flatten
def catLen (ls:List Qs) (k:Nat):Nat:=(catB ls k).length
theorem catB_zero (ls:List Qs):catB ls 0=[]:=by simp [catB]
theorem catB_all (ls:List Qs):catB ls ls.length=ls.flatten:=by simp [catB]
theorem catB_succ {ls:List Qs} {k:Nat} {l:Qs} (h:ls[k]?=some l):catB ls (k+1)=catB ls k++l:=by
 obtain ⟨hk,rfl⟩:=List.getElem?_eq_some_iff.1 h
 unfold catB
 rw [List.take_succ_eq_append_getElem hk,List.flatten_append,List.flatten_cons,List.flatten_nil,List.append_nil]
theorem catLen_succ {ls:List Qs} {k:Nat} {l:Qs} (h:ls[k]?=some l):catLen ls (k+1)=catLen ls k+l.length:=by
 unfold catLen
 rw [catB_succ h,List.length_append]
theorem catLen_all (ls:List Qs):catLen ls ls.length=ls.flatten.length:=by simp [catLen,catB_all]
theorem catLen_le (ls:List Qs) (k:Nat):catLen ls k<=ls.flatten.length:=by
 unfold catLen catB
 conv=>rhs;rw [<- List.take_append_drop k ls]
 rw [List.flatten_append,List.length_append]
 omega
theorem Rr:(Tryz.prog.info? 5).map (fun i=>(i.zero,i.size,i.bytes))=some (some (.int .u8 0),1,1):=by kernel_rfl
theorem Zq [bn:Inhabited Ban] {w:World} {ops:Array Oper} {rest:List Oper} {o:Oper} {a:Act} {Q:Exit->Act->World->Prop}
  (hg:o.guard=none) (s x:Operand) (hop:o.op=Op.call { callee:=Callee.builtin Builtin.append,args:=#[s,x],argTypes:=#[59,59] })
  (B:Nat) {v u:Value} {l m:Qs} {base:Nat} (hown:OwnB w B v l) (hsrc:Qv base w u m) (hs:a.eval s=v) (hx:a.eval x=u)
  (hlen:l.length+m.length<=70368744177664) (hB:B<=w.heap.size)
  (hK:∀ v' w',OwnB w' B v' (l++m)->Keep (fun b=>v.ownBlock=some b) w w'->wpList Tryz.prog ops Q rest (a.put o.dst v') w') :
  wpList Tryz.prog ops Q (o :: rest) a w:=by
 refine wpList_plain hg fun K hK'=>?_
 obtain ⟨i0,hi,hz0,hz1,hz2⟩:=info_parts Rr
 obtain ⟨ao,cap,rfl,hc,hm,hn,hcell⟩:=hsrc
 have hkeep:∀ w',w.grownBy w' v.ownBlock->Keep (fun b=>v.ownBlock=some b) w w':=fun w' hg=>(Keep.refl _ w).grown hg (fun k hk=>.inl hk)
 cases ao with
 | none =>
  obtain rfl:=hn rfl
  have hm0:m=[]:=List.eq_nil_of_length_eq_zero (by omega)
  subst hm0
  have hrun:=run_append_owned_none (P:=Tryz.prog) w B 59 o.type 5 i0 1 Tryz.underlying59 hi v l.length (l.map u8v) hown
  unfold Oper.wp
  simp [execOp,hop,resolve,invoke,builtin,hs,hx,hrun,Result.andThen]
  exact hK' _ _ (hK v w (by simpa using hown) (Keep.refl _ _))
 | some ad =>
  obtain ⟨v',w',hrun,h1,h2,_⟩:=run_append_own (P:=Tryz.prog) w B 59 o.type 5 i0 (.int .u8 0) 1 1 Tryz.underlying59 hi hz0 hz1 hz2 rfl (by decide) v l.length (l.map u8v) hown
   ad m.length cap (m.map u8v) (by simp) (fun j y hj=>by
    rw [List.getElem?_map] at hj
    cases hmj:m[j]? with
    | none=>simp [hmj] at hj
    | some z =>
     obtain ⟨ad',e,_,hcl⟩:=hcell j z hmj
     cases e
     simp [hmj] at hj
     rw [hcl,hj]) (u8_one m) (by unfold maxLen;omega) (by omega) hB
  unfold Oper.wp
  simp [execOp,hop,resolve,invoke,builtin,hs,hx,hrun,Result.andThen]
  refine hK' _ _ (hK v' w' ?_ (hkeep w' h2))
  unfold OwnB
  rw [List.length_append,List.map_append]
  exact h1
theorem wpList_append_zeros {w:World} {ops:Array Oper} {rest:List Oper} {o:Oper} {a:Act} {Q:Exit->Act->World->Prop}
  (hg:o.guard=none) (s x:Operand) (hop:o.op=Op.call { callee:=Callee.builtin Builtin.append,args:=#[s,x],argTypes:=#[59,3] })
  (B n:Nat) (h0:0<n) (hn:n<=70368744177664) (hs:a.eval s=.slice none 0 0) (hx:a.eval x=.int .i64 (n:Int)) (hB:B<=w.heap.size)
  (hK:∀ g cap w',n<=cap->cap<=maxLen->OwnB w' B (.slice (some ⟨g,0,none⟩) 0 cap) []->OwnB w' B (.slice (some ⟨g,0,none⟩) n cap) (List.replicate n 0)->Keep No w w'->wpList Tryz.prog ops Q rest (a.put o.dst (.slice (some ⟨g,0,none⟩) n cap)) w') :
  wpList Tryz.prog ops Q (o :: rest) a w:=by
 refine wpList_plain hg fun K hK'=>?_
 obtain ⟨i0,hi,hz0,hz1,hz2⟩:=info_parts Rr
 have hrun:=Lib.run_append_nil_zeros (P:=Tryz.prog) w 59 3 o.type 5 i0 (.int .u8 0) .i64 .i64 Tryz.underlying59 Tryz.underlying3 hi hz0 n h0 (by omega) (by omega) (by rw [hz2];omega)
 have hc:=grownCap_ge w n 0 5
 have hm:=grownCap_le_maxLen w n 0 5 (by unfold maxLen;omega)
 generalize grownCap w n 0 5=cap at hrun hc hm
 have e1:∀ k,Builtin.zeroCells (Value.int .u8 0).cells k=(List.replicate k (u8v 0)).toArray:=by
  intro k
  apply Array.ext
  ·simp [Builtin.zeroCells,Value.cells]
  ·intro i h1 h2
   simp [Builtin.zeroCells,Value.cells,u8v,Nat.mod_one]
 rw [e1,e1] at hrun
 have e2:(List.replicate n (u8v 0)).toArray++(List.replicate (cap-n) (u8v 0)).toArray=(List.replicate cap (u8v 0)).toArray:=by
  have:cap=n+(cap-n):=by omega
  rw [List.append_toArray,List.replicate_append_replicate,<- this]
 rw [e2] at hrun
 unfold Oper.wp
 simp [execOp,hop,resolve,invoke,builtin,hs,hx,hrun,Result.andThen]
 have hh:(w.drew.alloc (.cells (List.replicate cap (u8v 0)).toArray 5)).heap[w.heap.size]?=some (.cells (List.replicate cap (u8v 0)).toArray 5 (0,0)):=heap_alloc_new w.drew _
 refine hK' _ _ (hK w.heap.size cap _ hc hm ⟨by simp,.inr ⟨_,cap,_,rfl,hB,hh,Nat.zero_le _,hm,by simp,by simp⟩⟩
  ⟨by simp,.inr ⟨_,cap,_,by simp,hB,hh,by simpa using hc,hm,by simp,?_⟩⟩ ((Keep.refl _ _).drew.alloc _))
 simp [u8v]
 omega
@[go_sem] theorem eql_nil_bytes (w:World) (a:Option Addr) (n c:Nat):(binOp .eql 59 (.slice a n c) (.slice none 0 0)).run Tryz.prog w=.ok (.bool a.isNone) w :=
 Lib.run_eql_slice_nil w _ _ a n c 0 0 Tryz.underlying59
theorem Ju [bn:Inhabited Ban] {base:Nat} {w:World} {v:Value} {l:Qs} (h:Qv base w v l) (hl:l.length<=35184372088832) :
  Calls Tryz.prog 99 #[v] w fun e w'=>∃ v',e=.returned v'/\OwnB w' w.heap.size v' l/\Keep No w w':=by
 have h0:=h
 obtain ⟨ao,cap,rfl,hc,hm,hn,hcell⟩:=h
 cases ao with
 | none =>
  obtain rfl:=hn rfl
  obtain rfl:l=[]:=List.eq_nil_of_length_eq_zero (by omega)
  go_enter Tryz.func99,Tryz.ntmps99
  go_wp2
  go_ret
  exact ⟨_,rfl,OwnB.nil _ _,Keep.refl _ _⟩
 | some ad =>
  have hk:Keep No w (w.alloc (.cells #[] 5)):=(Keep.refl _ _).alloc _
  have hown:OwnB (w.alloc (.cells #[] 5)) w.heap.size (.slice (some ⟨w.heap.size,0,none⟩) 0 0) [] :=
   World.ownsRow_made w #[] 0 (Nat.le_refl _) (by decide) rfl
  have hsrc:=h0.no hk
  clear h0 hcell hn
  go_enter Tryz.func99,Tryz.ntmps99
  go_wp2_with (at_builtin;refine Zq rfl _ _ rfl w.heap.size hown hsrc rfl rfl (by simp;omega) (by simp) ?_;intro v' w' hown' hk')
  go_ret
  refine ⟨_,rfl,hown',hk.trans hk' ?_⟩
  intro x hx hxx
  simp [Value.ownBlock] at hxx
  omega
end Go.Proofs.YtfdmbomlkpkegaaGreat
namespace Go.Dr
open Go
section
variable {P:Program} {ops:Array Oper} {Q:Exit->Act->World->Prop} {md:Region.Mode} {S:World->Prop} {T:Nat->Bool}
def Jv (md:Region.Mode) (ops:Array Oper):List Nat->Array Bool->Bool
 | [],_=>true
 | i :: r,listed=>Region.ready md ops listed==[i] && Jv md ops r (listed.setIfInBounds i true)
theorem Gg:∀ (m:List Nat) (Ms:List Oper),Zo ops m Ms->∀ (fuel:Nat) (listed:Array Bool) (a:Act) (w:World) (K:Act->World->Prop),Ya md ops listed->S w->Jv md ops m listed=true ->
  Ug P ops Q S K Ms a w->(∀ a w,S w->Ya md ops (Zm m listed)->K a w->Vk P md ops Q S T fuel (Zm m listed) a w)->Vk P md ops Q S T (fuel+m.length) listed a w:=by
 intro m Ms hp
 induction hp using Zo.rec' with
 | h0=>intro fuel listed a w K hcl hS hf h hK;exact hK a w hS hcl h
 | h1 i o r l hi _ ih =>
  intro fuel listed a w K hcl hS hf h hK
  simp only [Jv,Bool.and_eq_true,beq_iff_eq] at hf
  rw [List.length_cons,<- Nat.add_assoc]
  have hr:i∈Region.ready md ops listed:=by rw [hf.1];simp
  refine ⟨fun h0=>(by rw [hf.1] at h0;cases h0),fun j hj=>?_⟩
  rw [hf.1,List.mem_singleton] at hj
  subst hj
  unfold Ug at h
  unfold wpOp
  simp only [hi]
  split
  ·rename_i hw
   rw [if_pos hw] at h
   exact .inl (Oper.wp_mono (fun a' w' h'=>⟨fun _=>h'.1,ih fuel _ a' w' K (hcl.set hr) h'.1 hf.2 h'.2 hK⟩) h)
  ·rename_i hw
   rw [if_neg hw] at h
   exact ⟨fun _=>h.1,ih fuel _ _ w K (hcl.set hr) h.1 hf.2 h.2 hK⟩
def drawCheck2 (ops:Array Oper) (E m E2 m2:List Nat):Bool :=
 Region.noSelect ops && Ym .any ops (fun _=>false) E (Array.replicate ops.size false) && Jv .any ops m (Zm E (Array.replicate ops.size false)) &&
  Ym .any ops (fun _=>false) E2 (Zm m (Zm E (Array.replicate ops.size false))) && Js .any ops m2 (Zm E2 (Zm m (Zm E (Array.replicate ops.size false)))) &&
  (E.length+(m.length+(E2.length+m2.length))==ops.size)
theorem Yn:∀ (E:List Nat) (listed:Array Bool),Ya md ops listed->Ym md ops T E listed=true->Ya md ops (Zm E listed):=by
 intro E
 induction E with
 | nil=>intro listed h _;exact h
 | cons i r ih =>
  intro listed h ht
  simp only [Ym,Bool.and_eq_true,Bool.not_eq_true'] at ht
  obtain ⟨⟨⟨⟨_,hr⟩,_⟩,_⟩,ht⟩:=ht
  exact ih _ (h.set (by simpa using hr)) ht
theorem wp_drawN2 {id:Nat} {a:Act} {w:World} (S:World->Prop) (E m E2 m2:List Nat) (hm:P.follows .mixedOrders=true)
  (hc:(drawCheck2 ops E m E2 m2 && ((m++m2).all fun i=>decide (i<ops.size)))=true)
  (hQ:∀ c a d v w,Q (.panic c) (Act.put a (some d) v) w->Q (.panic c) a w) (hS:S w.drew)
  (h:Yc P ops S (fun _ a'=>midN P ops Q S (fun a2 w2=>Yc P ops S (fun _ a3=>midN P ops Q S (fun a4 w4=>wpList P ops Q [] a4 w4) m2 a3 w2) E2 [] a2) m a' w.drew) E [] a):(Code.region id ops true).wp P Q a w:=by
 simp only [Bool.and_eq_true,List.all_append] at hc
 obtain ⟨hc,hm',ht'⟩:=hc
 simp only [drawCheck2,Bool.and_eq_true,beq_iff_eq] at hc
 obtain ⟨⟨⟨⟨⟨h1,h2⟩,h3⟩,h4⟩,h5⟩,h6⟩:=hc
 obtain ⟨Es,hE,he⟩:=Xb E [] a h
 obtain ⟨Ms,hM⟩:=Jp ops m hm'
 obtain ⟨Ms2,hM2⟩:=Jp ops m2 ht'
 refine wp_region_any hm (Vt (S:=S) (T:=fun _=>false) _ _ _ _ ?_)
 generalize hl:Array.replicate ops.size false=l at h2 h3 h4 h5 ⊢
 have hcl:Ya .any ops l:=by
  intro j o hj hl'
  have hlt:j<ops.size:=(Array.getElem?_eq_some_iff.1 hj).1
  subst hl
  simp [hlt] at hl'
 rw [<- h6,Nat.add_comm]
 refine Yw h1 hQ hS E Es hE (m.length+(E2.length+m2.length)) _ a hcl h2 he ?_
 intro a' ha'
 rw [Nat.add_comm]
 refine Gg m Ms hM (E2.length+m2.length) _ a' _ _ (Yn E l hcl h2) hS h3 (Yp m Ms hM a' _ ha') ?_
 intro a2 w2 hS2 hcl2 hK
 obtain ⟨Es2,hE2,he2⟩:=Xb E2 [] a2 hK
 rw [Nat.add_comm]
 refine Yw h1 hQ hS2 E2 Es2 hE2 m2.length _ a2 hcl2 h4 he2 ?_
 intro a3 ha3
 exact mid_take m2 Ms2 hM2 _ [] [] .nil (by simp) _ a3 _ (fun i hi=>by simp at hi) (by simpa using h5) (Yp m2 Ms2 hM2 a3 _ ha3)
end
end Go.Dr
namespace Go.Dr
open Go
section
variable {P:Program} {ops:Array Oper} {Q:Exit->Act->World->Prop} {S:World->Prop}
def Rh:List (List Nat × List Nat)->Nat
 | []=>0
 | (E,m) :: r=>Rh r+m.length+E.length
def Vm (ops:Array Oper):List (List Nat × List Nat)->Array Bool->Bool
 | [],listed=>(Region.ready .any ops listed).isEmpty
 | (E,m) :: r,listed=>Ym .any ops (fun _=>false) E listed && Jv .any ops m (Zm E listed) && (m.all fun i=>decide (i<ops.size)) && Vm ops r (Zm m (Zm E listed))
def Vp (P:Program) (ops:Array Oper) (Q:Exit->Act->World->Prop) (S:World->Prop):List (List Nat × List Nat)->Act->World->Prop
 | [],a,w=>wpList P ops Q [] a w
 | (E,m) :: r,a,w=>Yc P ops S (fun _ a'=>midN P ops Q S (fun a2 w2=>Vp P ops Q S r a2 w2) m a' w) E [] a
theorem stages_take (hs:Region.noSelect ops=true) (hQ:∀ c a d v w,Q (.panic c) (Act.put a (some d) v) w->Q (.panic c) a w) :
  ∀ (st:List (List Nat × List Nat)) (listed:Array Bool) (a:Act) (w:World),Ya .any ops listed->S w->Vm ops st listed=true->Vp P ops Q S st a w->Vk P .any ops Q S (fun _=>false) (Rh st) listed a w:=by
 intro st
 induction st with
 | nil =>
  intro listed a w _ _ hc h
  simp only [Vm,List.isEmpty_iff] at hc
  exact ⟨hc,h⟩
 | cons e r ih =>
  obtain ⟨E,m⟩:=e
  intro listed a w hcl hS hc h
  simp only [Vm,Bool.and_eq_true] at hc
  obtain ⟨⟨⟨h2,h3⟩,hm'⟩,h4⟩:=hc
  simp only [Vp] at h
  obtain ⟨Es,hE,he⟩:=Xb E [] a h
  obtain ⟨Ms,hM⟩:=Jp ops m hm'
  refine Yw hs hQ hS E Es hE (Rh r+m.length) _ a hcl h2 he ?_
  intro a' ha'
  refine Gg m Ms hM (Rh r) _ a' _ _ (Yn E listed hcl h2) hS h3 (Yp m Ms hM a' _ ha') ?_
  intro a2 w2 hS2 hcl2 hK
  exact ih _ a2 w2 hcl2 hS2 h4 hK
theorem Vr {id:Nat} {a:Act} {w:World} (S:World->Prop) (st:List (List Nat × List Nat)) (hm:P.follows .mixedOrders=true)
  (hc:(Region.noSelect ops && Vm ops st (Array.replicate ops.size false) && (Rh st==ops.size))=true)
  (hQ:∀ c a d v w,Q (.panic c) (Act.put a (some d) v) w->Q (.panic c) a w) (hS:S w.drew)
  (h:Vp P ops Q S st a w.drew):(Code.region id ops true).wp P Q a w:=by
 simp only [Bool.and_eq_true,beq_iff_eq] at hc
 obtain ⟨⟨h1,h2⟩,h3⟩:=hc
 refine wp_region_any hm (Vt (S:=S) (T:=fun _=>false) _ _ _ _ ?_)
 generalize hl:Array.replicate ops.size false=l at h2 ⊢
 have hcl:Ya .any ops l:=by
  intro j o hj hl'
  have hlt:j<ops.size:=(Array.getElem?_eq_some_iff.1 hj).1
  subst hl
  simp [hlt] at hl'
 rw [<- h3]
 exact stages_take h1 hQ st l a w.drew hcl hS h2 h
end
end Go.Dr
namespace Go.Proofs.YtfdmbomlkpkegaaGreat
open Go Go.RowKit Go.Dr
theorem Xv [bn:Inhabited Ban] {base:Nat} {w:World} {v:Value} {ls:List Qs} (h:Zb base w v ls) (hl:ls.flatten.length<=35184372088832) :
  Calls Tryz.prog 97 #[v] w fun e w'=>∃ v',e=.returned v'/\OwnB w' w.heap.size v' ls.flatten/\Keep No w w':=by
 obtain ⟨us,hus,hbs,ao,cap,rfl,hlc,hcm,hcells⟩:=h
 unfold maxLen at hcm
 have hn:(ls.length:Int)<=9223372036854775807:=by omega
 have HU:=Lib.hid hus
 clear hus
 go_enter Tryz.func97,Tryz.ntmps97
 go_wp2
 go_loopw [3,8] (fun v i wr=>∃ k:Nat,k<=ls.length/\i=.int .i64 k/\OwnB wr w.heap.size v (catB ls k)/\Keep No w wr) (fun _ i _=>ls.length - (intOf i).toNat)
 case atStart=>exact ⟨0,Nat.zero_le _,rfl,by rw [catB_zero];exact OwnB.nil _ _,Keep.refl _ _⟩
 case round =>
  obtain ⟨k,hk,rfl,hown,hkp⟩:=hrel
  by_cases hlt:k<ls.length
  ·rcases hcells with rfl | ⟨g,o,rfl,hcells⟩
   ·simp at hlt
   ·have hku:k<us.length:=by have:=HU.out;omega
    have hc:=hkp.cell (hcells k us[k] (List.getElem?_eq_getElem hku)) (fun h=>h)
    have hlk:ls[k]?=some ls[k]:=List.getElem?_eq_getElem hlt
    have hb:=(hbs k _ _ (List.getElem?_eq_getElem hku) hlk).no hkp
    have hs:=catB_succ hlk
    have hle:=catLen_le ls (k+1)
    rw [catLen_succ hlk] at hle
    unfold catLen at hle
    have hki:(k:Int)<(ls.length:Int):=by omega
    have HS:=Lib.hid hs
    generalize us[k]=u at *
    generalize ls[k]=l at *
    clear hs hbs hcells hlk
    have hBs:=hkp.size
    go_wp2_with (at_builtin;refine Zq rfl _ _ rfl w.heap.size hown hb rfl rfl (by omega) hBs ?_;intro v' w' hown' hk')
    go_roundw
    case rel=>exact ⟨k+1,by omega,by go_num,by rw [HS.out];exact hown',hkp.trans hk' (fun x hx hxx=>by have:=(hown.lt x hxx).1;omega)⟩
    case measure=>simp [intOf];omega
  ·have hki:¬(k:Int)<(ls.length:Int):=by omega
   obtain rfl:k=ls.length:=by omega
   clear hki hlt hk
   go_wp2
   go_ret
   exact ⟨_,rfl,by rw [<- catB_all];exact hown,hkp⟩
theorem Keep.drewN {F:Nat->Prop} {a w:World} (h:Keep F a w) (n:Nat):Keep F a (w.drewN n):=⟨h.os,h.tape,h.output,h.size,h.block⟩
theorem r1same_spec [bn:Inhabited Ban] {base:Nat} {w:World} {u v:Value} {l m:Qs} (hu:Qv base w u l) (hv:Qv base w v m) :
  Calls Tryz.prog 82 #[u,v] w fun e w'=>e=.returned (.bool (l==m))/\Keep No w w':=by
 obtain ⟨ao,cap,rfl,hlc,hcm,_,hcell⟩:=hu
 obtain ⟨bo,cap',rfl,hlc',hcm',_,hcell'⟩:=hv
 unfold maxLen at hcm
 by_cases hlen:l.length=m.length
 ·have hln:(l.length:Int)<=9223372036854775807:=by omega
  have HL:=Lib.hid hlen
  rw [<- hlen]
  have hq:((l.length:Int) != (l.length:Int))=false:=by simp
  clear hlen hcm hcm' hlc hlc'
  go_enter Tryz.func82,Tryz.ntmps82
  go_wp2
  go_loopw [13] (fun i wr=>∃ k:Nat,k<=l.length/\i=.int .i64 k/\l.take k=m.take k/\Keep No w wr) (fun i _=>l.length - (intOf i).toNat)
  case atStart=>exact ⟨0,Nat.zero_le _,rfl,by simp,Keep.refl _ _⟩
  case round =>
   obtain ⟨k,hk,rfl,heq,hkp⟩:=hrel
   by_cases hlt:k<l.length
   ·have hki:(k:Int)<(l.length:Int):=by omega
    obtain ⟨ad,rfl,_,hx⟩:=hcell k l[k] (List.getElem?_eq_getElem hlt)
    have hlt':k<m.length:=by have:=HL.out;omega
    obtain ⟨bd,rfl,_,hy⟩:=hcell' k m[k] (List.getElem?_eq_getElem hlt')
    have hx:=hkp.cell hx (fun e=>e)
    have hy:=hkp.cell hy (fun e=>e)
    have tl:l.take (k+1)=l.take k++[l[k]]:=List.take_succ_eq_append_getElem hlt
    have tm:m.take (k+1)=m.take k++[m[k]]:=List.take_succ_eq_append_getElem hlt'
    have hlx:l[k]?=some l[k]:=List.getElem?_eq_getElem hlt
    have hmy:m[k]?=some m[k]:=List.getElem?_eq_getElem hlt'
    generalize l[k]=x at *
    generalize m[k]=y at *
    have hn:∀ z:UInt8,0<=(z.toNat:Int)/\(z.toNat:Int)<=255:=fun z=>⟨by omega,by have:=z.toNat_lt;omega⟩
    have HE:=Lib.hid (A7 heq tl tm hlx hmy hcell hcell')
    clear heq tl tm hlx hmy hcell hcell'
    unfold u8v at hx hy
    by_cases hxy:x=y
    ·subst hxy
     have hne:((x.toNat:Int) != (x.toNat:Int))=false:=by simp
     go_wp2
     go_quiet (fail)
     go_wp2
     go_roundw
     case rel=>exact ⟨k+1,by omega,by go_num,by rw [HE.out.2.1,HE.out.2.2.1,HE.out.1],hkp.drewN _⟩
     case measure=>simp [intOf];omega
    ·have hne:((x.toNat:Int) != (y.toNat:Int))=true:=by
      simp only [bne_iff_ne,ne_eq]
      intro h
      exact hxy (UInt8.toNat_inj.1 (by omega))
     have hf:(l==m)=false:=by
      rw [beq_eq_false_iff_ne]
      intro e
      have h1:=HE.out.2.2.2.1
      rw [e,HE.out.2.2.2.2.1] at h1
      exact hxy (by simpa using h1.symm)
     have HF:=Lib.hid hf
     clear hf hxy
     go_wp2
     go_quiet (fail)
     go_wp2
     go_ret
     exact ⟨by rw [HF.out];rfl,hkp.drewN _⟩
   ·have hki:¬(k:Int)<(l.length:Int):=by omega
    obtain rfl:k=l.length:=by omega
    have ht:(l==m)=true:=by
     rw [beq_iff_eq]
     have h1:l.take l.length=l:=List.take_length
     have h2:m.take l.length=m:=by rw [HL.out];exact List.take_length
     rw [h1,h2] at heq
     exact heq
    have HT:=Lib.hid ht
    clear ht heq hki hlt hk
    go_wp2
    go_ret
    exact ⟨by rw [HT.out];rfl,hkp⟩
 ·have hq:((l.length:Int) != (m.length:Int))=true:=by simp;omega
  have hf:(l==m)=false:=by
   rw [beq_eq_false_iff_ne]
   intro e
   exact hlen (by rw [e])
  rw [hf]
  clear hf hlen
  go_enter Tryz.func82,Tryz.ntmps82
  go_wp2
  go_ret
  exact ⟨rfl,Keep.refl _ _⟩
end Go.Proofs.YtfdmbomlkpkegaaGreat
