/- Lemmas for ReceiverNil. -/
import Derived.Test.YtfdmbomlkpkegaaGreatS9
import Derived.Test.YtfdmbomlkpkegaaGreatS2
import Derived.Deep.AppendLies
import Derived.Deep.DeepCutAuto
import Derived.Deep.CutBlock
import Derived.Deep.QuietTactic
import Derived.BigQuiet
set_option maxRecDepth 100000
set_option maxHeartbeats 8000000
set_option linter.all false
namespace Go.Proofs.YtfdmbomlkpkegaaGreat
open Go Go.RowKit Go.Dr
def Zg:AMap->List Value->List Value
 | e :: m,u :: us=>.int .u64 e.1 :: u :: Zg m us
 | _,_=>[]
def Ze [bn:Inhabited Ban] (base:Nat) (w:World) (v:Value) (m:AMap):Prop :=
 ∃ us:List Value,us.length=m.length/\(∀ (i:Nat) u e,us[i]?=some u->m[i]?=some e->Qv base w u e.2)/\w.ownsRow base 182 2 v m.length (Zg m us)
theorem Ze.nil [bn:Inhabited Ban] (base:Nat) (w:World):Ze base w (.slice none 0 0) []:=⟨[],rfl,fun i u c h=>by simp at h,World.ownsRow_nil _ _ _ _⟩
theorem Ze.form [bn:Inhabited Ban] {base:Nat} {w:World} {v:Value} {m:AMap} (h:Ze base w v m):∃ ao cap,v=.slice ao m.length cap/\m.length<=cap/\cap<=maxLen:=by
 obtain ⟨us,_,_,_,h⟩:=h
 rcases h with ⟨rfl,h⟩ | ⟨g,cap,cur,rfl,_,_,h1,h2,_⟩
 ·exact ⟨none,0,by rw [h],by omega,by decide⟩
 ·exact ⟨_,_,rfl,h1,h2⟩
theorem Ze.kind [bn:Inhabited Ban] {base:Nat} {w:World} {v:Value} {m:AMap} (h:Ze base w v m):∀ b,v.ownBlock=some b->base<=b/\∃ cur,w.heap[b]?=some (.cells cur 182 (0,0)):=by
 intro b hb
 obtain ⟨us,_,_,_,hw⟩:=h
 rcases hw with ⟨rfl,_⟩ | ⟨g,cap,cur,rfl,h1,h2,_⟩
 ·simp [Value.ownBlock] at hb
 ·simp [Value.ownBlock] at hb
  subst hb
  exact ⟨h1,cur,h2⟩
theorem Ze.footOk [bn:Inhabited Ban] {base:Nat} {w:World} {v:Value} {m:AMap} (h:Ze base w v m):Foot base w (fun b=>v.ownBlock=some b):=by
 intro b hb
 obtain ⟨h1,cur,h2⟩:=h.kind b hb
 exact ⟨h1,Qt h2,fun cs fr e=>by rw [h2] at e;simp at e⟩
theorem Ze.keep [bn:Inhabited Ban] {base:Nat} {w w':World} {v:Value} {m:AMap} {F:Nat->Prop} (h:Ze base w v m) (hF:Foot base w F) (k:Keep F w w') (hn:∀ b,v.ownBlock=some b->¬F b):Ze base w' v m:=by
 obtain ⟨us,h1,h2,h3,h4⟩:=h
 refine ⟨us,h1,fun i u c hu hc=>(h2 i u c hu hc).keep hF k,h3,?_⟩
 rcases h4 with h4 | ⟨g,cap,cur,rfl,h5,h6,h7⟩
 ·exact .inl h4
 ·exact .inr ⟨g,cap,cur,rfl,h5,k.heap h6 (hn g rfl),h7⟩
theorem Ze.no [bn:Inhabited Ban] {base:Nat} {w w':World} {v:Value} {m:AMap} (h:Ze base w v m) (k:Keep No w w'):Ze base w' v m:=h.keep (Foot.no _ _) k (fun _ _ h=>h)
theorem segCells_at:∀ {m:AMap} {us:List Value},us.length=m.length->∀ {i:Nat} {e:Int × Qs} {u:Value},m[i]?=some e->us[i]?=some u ->
  (Zg m us)[i*2]?=some (.int .u64 e.1)/\(Zg m us)[i*2+1]?=some u:=by
 intro m
 induction m with
 | nil=>intro us _ i c u h;simp at h
 | cons x m ih =>
  intro us hl i c u h1 h2
  cases us with
  | nil=>simp at hl
  | cons v us =>
   cases i with
   | zero=>simp at h1 h2;subst h1 h2;simp [Zg]
   | succ i =>
    have e:(i+1)*2=i*2+1+1:=by omega
    have:=ih (us:=us) (by simpa using hl) (i:=i) (e:=c) (u:=u) (by simpa using h1) (by simpa using h2)
    simp only [Zg,e]
    exact ⟨by simpa using this.1,by simpa [Nat.add_assoc] using this.2⟩
theorem Ze.cells [bn:Inhabited Ban] {base:Nat} {w:World} {ao:Option Addr} {n cap:Nat} {m:AMap} (h:Ze base w (.slice ao n cap) m) (hn:0<m.length) :
  ∃ g,ao=some ⟨g,0,none⟩/\base<=g/\∀ i e,m[i]?=some e->∃ u,Qv base w u e.2/\w.cell? ⟨g,i*2,none⟩=some (.int .u64 e.1)/\w.cell? ⟨g,i*2+1,none⟩=some u:=by
 obtain ⟨us,hus,hb,hx,hw⟩:=h
 rcases hw with ⟨_,h0⟩ | ⟨g,cp,cur,hv,hbg,hg,h1,h2,h3,h4⟩
 ·omega
 ·simp only [Value.slice.injEq] at hv
  refine ⟨g,hv.1,hbg,fun i c hc=>?_⟩
  have hi:i<m.length:=(List.getElem?_eq_some_iff.1 hc).1
  have hu:us[i]?=some us[i]:=List.getElem?_eq_getElem (by omega)
  obtain ⟨e0,e1⟩:=segCells_at hus hc hu
  have cell:∀ j x,(Zg m us)[j]?=some x->w.cell? ⟨g,j,none⟩=some x:=by
   intro j x hj
   rw [Qq hg]
   rw [<- h4,List.getElem?_take] at hj
   split at hj
   ·simpa using hj
   ·cases hj
  exact ⟨us[i],hb i _ _ hu hc,cell _ _ e0,cell _ _ e1⟩
structure IsAt (m:AMap) (k:Int) (a:Nat):Prop where
 le:a<=m.length
 low:∀ (j:Nat) (e:Int × Qs),j<a->m[j]?=some e->e.1<k
 high:∀ e,m[a]?=some e->¬e.1<k
theorem step6_split {c:Qf}:∀ {m:AMap} {a:Nat},a<=m.length->(∀ (j:Nat) (e:Int × Qs),j<a->m[j]?=some e->e.1<c.seg)->Xa m c=m.take a++Xa (m.drop a) c:=by
 intro m a
 induction a generalizing m with
 | zero=>intro _ _;simp
 | succ a ih =>
  intro hl h
  cases m with
  | nil=>simp at hl
  | cons e m =>
   have h0:=h 0 e (by omega) rfl
   have h1:=ih (m:=m) (by simpa using hl) (fun j x hj hx=>h (j+1) x (by omega) (by simpa using hx))
   simp only [List.take_succ_cons,List.drop_succ_cons,List.cons_append,<- h1]
   conv=>lhs;unfold Xa
   rw [if_pos h0]
theorem Rx {m:AMap} {a:Nat} {e:Int × Qs} (h:m[a]?=some e):m.drop a=e :: m.drop (a+1):=by
 obtain ⟨hlt,rfl⟩:=List.getElem?_eq_some_iff.1 h
 exact List.drop_eq_getElem_cons hlt
theorem step6_there_drop {m:AMap} {c:Qf} {a:Nat} (h:IsAt m c.seg a) {e:Int × Qs} (he:m[a]?=some e) (hk:e.1=c.seg) (hd:c.drop=true):Xa m c=m.take a++m.drop (a+1):=by
 rw [step6_split h.le h.low,Rx he]
 unfold Xa
 rw [if_neg (h.high e he),if_pos hk,hd]
 rfl
theorem step6_there {m:AMap} {c:Qf} {a:Nat} (h:IsAt m c.seg a) {e:Int × Qs} (he:m[a]?=some e) (hk:e.1=c.seg) (hd:c.drop=false):Xa m c=m.take a++(c.seg,e.2++c.p) :: m.drop (a+1):=by
 rw [step6_split h.le h.low,Rx he]
 unfold Xa
 rw [if_neg (h.high e he),if_pos hk,hd]
 rfl
theorem step6_not_drop {m:AMap} {c:Qf} {a:Nat} (h:IsAt m c.seg a) (hn:∀ e,m[a]?=some e->e.1≠c.seg) (hd:c.drop=true):Xa m c=m:=by
 rw [step6_split h.le h.low]
 cases he:m[a]? with
 | none =>
  have:m.drop a=[]:=List.drop_eq_nil_of_le (List.getElem?_eq_none_iff.1 he)
  rw [this]
  unfold Xa
  rw [hd]
  simp only [if_true]
  rw [<- this,List.take_append_drop]
 | some e =>
  rw [Rx he]
  unfold Xa
  rw [if_neg (h.high e he),if_neg (hn e he),hd]
  simp only [if_true]
  rw [<- Rx he,List.take_append_drop]
theorem step6_not {m:AMap} {c:Qf} {a:Nat} (h:IsAt m c.seg a) (hn:∀ e,m[a]?=some e->e.1≠c.seg) (hd:c.drop=false):Xa m c=m.take a++(c.seg,c.p) :: m.drop a:=by
 rw [step6_split h.le h.low]
 cases he:m[a]? with
 | none =>
  have:m.drop a=[]:=List.drop_eq_nil_of_le (List.getElem?_eq_none_iff.1 he)
  rw [this]
  unfold Xa
  rw [hd]
  rfl
 | some e =>
  rw [Rx he]
  conv=>lhs;unfold Xa
  rw [if_neg (h.high e he),if_neg (hn e he),hd]
  rfl
def Hz [bn:Inhabited Ban] (base:Nat) (w:World) (x:Value) (m:AMap):Prop :=
 ∃ us:List Value,us.length=m.length/\(∀ (i:Nat) u e,us[i]?=some u->m[i]?=some e->Qv base w u e.2) /\
  ∃ ao cap,x=.slice ao m.length cap/\((ao=none/\m=[]/\cap=0)\/∃ ad,ao=some ad/\∀ (j:Nat) y,(Zg m us)[j]?=some y->w.cell? (ad.add j)=some y)
theorem segCells_length:∀ {m:AMap} {us:List Value},us.length=m.length->(Zg m us).length=m.length*2:=by
 intro m
 induction m with
 | nil=>intro us _;simp [Zg]
 | cons c m ih =>
  intro us h
  cases us with
  | nil=>simp at h
  | cons u us=>simp only [Zg,List.length_cons,ih (us:=us) (by simpa using h)];omega
theorem segCells_one:∀ {m:AMap} {us:List Value},(∀ u∈us,u.oneCell'=true)->∀ x∈Zg m us,x.oneCell'=true:=by
 intro m
 induction m with
 | nil=>intro us _ x h;simp [Zg] at h
 | cons c m ih =>
  intro us h x hx
  cases us with
  | nil=>simp [Zg] at hx
  | cons u us =>
   simp only [Zg,List.mem_cons] at hx
   rcases hx with rfl | rfl | hx
   ·rfl
   ·exact h _ (by simp)
   ·exact ih (fun u hu=>h u (by simp [hu])) x hx
theorem segCells_append:∀ {m m2:AMap} {us us2:List Value},us.length=m.length->Zg (m++m2) (us++us2)=Zg m us++Zg m2 us2:=by
 intro m
 induction m with
 | nil=>intro m2 us us2 h;obtain rfl:=List.eq_nil_of_length_eq_zero h;rfl
 | cons c m ih =>
  intro m2 us us2 h
  cases us with
  | nil=>simp at h
  | cons u us=>simp only [List.cons_append,Zg,ih (us:=us) (by simpa using h)]
theorem segCells_take:∀ {m:AMap} {us:List Value} (a:Nat),us.length=m.length->Zg (m.take a) (us.take a)=(Zg m us).take (a*2):=by
 intro m
 induction m with
 | nil=>intro us a h;obtain rfl:=List.eq_nil_of_length_eq_zero h;simp [Zg]
 | cons c m ih =>
  intro us a h
  cases us with
  | nil=>simp at h
  | cons u us =>
   cases a with
   | zero=>simp [Zg]
   | succ a =>
    have e:(a+1)*2=a*2+1+1:=by omega
    simp only [List.take_succ_cons,Zg,e,ih (us:=us) a (by simpa using h)]
theorem segCells_drop:∀ {m:AMap} {us:List Value} (a:Nat),us.length=m.length->Zg (m.drop a) (us.drop a)=(Zg m us).drop (a*2):=by
 intro m
 induction m with
 | nil=>intro us a h;obtain rfl:=List.eq_nil_of_length_eq_zero h;simp [Zg]
 | cons c m ih =>
  intro us a h
  cases us with
  | nil=>simp at h
  | cons u us =>
   cases a with
   | zero=>simp [Zg]
   | succ a =>
    have e:(a+1)*2=a*2+1+1:=by omega
    simp only [List.drop_succ_cons,Zg,e,ih (us:=us) a (by simpa using h)]
theorem info_seg:(Tryz.prog.info? 182).map (fun i=>(i.zero,i.size,i.bytes))=some (some (.agg #[.int .u64 0,.slice none 0 0]),2,32):=by kernel_rfl
theorem run_append_segs [bn:Inhabited Ban] {base:Nat} {w:World} {v x:Value} {m m2:AMap} (ty:TypeId) (h:Ze base w v m) (hx:Hz base w x m2) (hlen:m.length+m2.length<=1000000) (hb:base<=w.heap.size) :
  ∃ v' w',(Builtin.append_ #[179,179] ty #[v,x]).run Tryz.prog w=.ok v' w'/\Ze base w' v' (m++m2)/\Keep (fun b=>v.ownBlock=some b) w w'/\(∀ b,v'.ownBlock=some b->v.ownBlock=some b\/b=w.heap.size):=by
 have hfo:=h.footOk
 obtain ⟨us,hus,hub,hown⟩:=h
 obtain ⟨us2,hus2,hub2,ao,cap,rfl,hx⟩:=hx
 obtain ⟨i0,hi0,hz0,hz1,hz2⟩:=info_parts info_seg
 rcases hx with ⟨rfl,rfl,rfl⟩ | ⟨ad,rfl,hx⟩
 ·refine ⟨v,w,run_append_owned_none (P:=Tryz.prog) w base 179 ty 182 i0 2 Tryz.underlying179 hi0 v m.length (Zg m us) hown,⟨us,by simpa using hus,by simpa using hub,by simpa using hown⟩,Keep.refl _ _,fun b hb=>.inl hb⟩
 ·have hone2:∀ u∈us2,u.oneCell'=true:=by
   intro u hu
   obtain ⟨i,hi,rfl⟩:=List.getElem_of_mem hu
   obtain ⟨_,_,e⟩:=(hub2 i us2[i] m2[i] (List.getElem?_eq_getElem hi) (List.getElem?_eq_getElem (by omega))).form
   rw [e];rfl
  obtain ⟨v',w',hrun,o1,g1,_,l1⟩:=run_append_own_at (P:=Tryz.prog) w base 179 ty 182 i0 _ 2 32 Tryz.underlying179 hi0 hz0 hz1 hz2 rfl (by omega) v m.length (Zg m us) hown
   ad m2.length cap (Zg m2 us2) (segCells_length hus2) hx (segCells_one hone2) (by unfold maxLen;omega) (by omega) hb
  have hk:Keep (fun b=>v.ownBlock=some b) w w':=(Keep.refl _ _).grown g1 (fun k hk=>.inl hk)
  refine ⟨v',w',hrun,⟨us++us2,by simp [hus,hus2],?_,?_⟩,hk,fun b hb=>?_⟩
  ·intro i u e h1 h2
   by_cases hi:i<us.length
   ·rw [List.getElem?_append_left hi] at h1
    rw [List.getElem?_append_left (by omega)] at h2
    exact (hub i u e h1 h2).keep hfo hk
   ·rw [List.getElem?_append_right (by omega)] at h1
    rw [List.getElem?_append_right (by omega)] at h2
    rw [hus] at h1
    exact (hub2 _ u e h1 h2).keep hfo hk
  ·rw [segCells_append hus,List.length_append]
   exact o1
  ·rcases l1 with l1 | l1
   ·exact .inl (by rw [<- l1];exact hb)
   ·right;rw [l1] at hb;simp at hb;exact hb.symm
theorem wp_append_segs [bn:Inhabited Ban] {base:Nat} {w:World} {o:Oper} {a:Act} {K:Act->World->Prop} {Q:Exit->Act->World->Prop} {v x:Value} {m m2:AMap} (s t:Operand)
  (hop:o.op=Op.call { callee:=Callee.builtin Builtin.append,args:=#[s,t],argTypes:=#[179,179] }) (hs:a.eval s=v) (ht:a.eval t=x)
  (h:Ze base w v m) (hx:Hz base w x m2) (hlen:m.length+m2.length<=1000000) (hb:base<=w.heap.size)
  (hK:∀ v' w',Ze base w' v' (m++m2)->Keep (fun b=>v.ownBlock=some b) w w'->(∀ b,v'.ownBlock=some b->v.ownBlock=some b\/b=w.heap.size)->K (a.put o.dst v') w'):o.wp Tryz.prog a w K Q:=by
 obtain ⟨v',w',hrun,h1,h2,h3⟩:=run_append_segs o.type h hx hlen hb
 unfold Oper.wp
 simp [execOp,hop,resolve,invoke,builtin,hs,ht,hrun,Result.andThen]
 exact hK v' w' h1 h2 h3
theorem wpList_append_segs [bn:Inhabited Ban] {base:Nat} {w:World} {ops:Array Oper} {rest:List Oper} {o:Oper} {a:Act} {Q:Exit->Act->World->Prop} {v x:Value} {m m2:AMap} (hg:o.guard=none) (s t:Operand)
  (hop:o.op=Op.call { callee:=Callee.builtin Builtin.append,args:=#[s,t],argTypes:=#[179,179] }) (hs:a.eval s=v) (ht:a.eval t=x)
  (h:Ze base w v m) (hx:Hz base w x m2) (hlen:m.length+m2.length<=1000000) (hb:base<=w.heap.size)
  (hK:∀ v' w',Ze base w' v' (m++m2)->Keep (fun b=>v.ownBlock=some b) w w'->(∀ b,v'.ownBlock=some b->v.ownBlock=some b\/b=w.heap.size)->wpList Tryz.prog ops Q rest (a.put o.dst v') w'):wpList Tryz.prog ops Q (o :: rest) a w :=
 wpList_plain hg fun _ hK'=>wp_append_segs s t hop hs ht h hx hlen hb fun v' w' h1 h2 h3=>hK' _ _ (hK v' w' h1 h2 h3)
theorem Ze.src [bn:Inhabited Ban] {base:Nat} {w:World} {ao:Option Addr} {n cap:Nat} {m:AMap} (h:Ze base w (.slice ao n cap) m) :
  n=m.length/\n<=cap/\∃ us:List Value,us.length=m.length/\(∀ (i:Nat) u e,us[i]?=some u->m[i]?=some e->Qv base w u e.2) /\
   ((ao=none/\m=[]/\cap=0)\/∃ g,ao=some ⟨g,0,none⟩/\∀ (j:Nat) y,(Zg m us)[j]?=some y->w.cell? ⟨g,j,none⟩=some y):=by
 obtain ⟨us,hus,hb,hx,hw⟩:=h
 rcases hw with ⟨h1,h0⟩ | ⟨g,cp,cur,hv,hbg,hg,h1,h2,h3,h4⟩
 ·simp at h1
  obtain rfl:m=[]:=List.eq_nil_of_length_eq_zero h0
  exact ⟨by simp;omega,by omega,us,hus,hb,.inl ⟨h1.1,rfl,h1.2.2⟩⟩
 ·simp only [Value.slice.injEq] at hv
  refine ⟨hv.2.1,by omega,us,hus,hb,.inr ⟨g,hv.1,fun j y hj=>?_⟩⟩
  rw [Qq hg]
  rw [<- h4,List.getElem?_take] at hj
  split at hj
  ·simpa using hj
  ·cases hj
theorem Ze.takeIn [bn:Inhabited Ban] {base:Nat} {w:World} {ao:Option Addr} {n cap:Nat} {m:AMap} (h:Ze base w (.slice ao n cap) m) (a:Nat) (ha:a<=m.length):Hz base w (.slice ao a cap) (m.take a):=by
 obtain ⟨rfl,hn,us,hus,hub,hx⟩:=h.src
 have hl:(m.take a).length=a:=by simp;omega
 refine ⟨us.take a,by simp [hus],fun i u e h1 h2=>?_,ao,cap,by rw [hl],?_⟩
 ·rw [List.getElem?_take] at h1 h2
  split at h1
  ·rename_i hi
   rw [if_pos hi] at h2
   exact hub i u e h1 h2
  ·cases h1
 ·rcases hx with ⟨rfl,rfl,rfl⟩ | ⟨g,rfl,hx⟩
  ·exact .inl ⟨rfl,by simp,rfl⟩
  ·refine .inr ⟨⟨g,0,none⟩,rfl,fun j y hj=>?_⟩
   rw [segCells_take a hus,List.getElem?_take] at hj
   split at hj
   ·rw [Addr.add_lit,Nat.zero_add];exact hx j y hj
   ·cases hj
theorem Ze.dropIn [bn:Inhabited Ban] {base:Nat} {w:World} {ao:Option Addr} {n cap:Nat} {m:AMap} (h:Ze base w (.slice ao n cap) m) (a:Nat) (ha:a<=m.length) :
  Hz base w (.slice (if cap=a then ao else ao.map (·.add (a*2))) (n-a) (cap-a)) (m.drop a):=by
 obtain ⟨rfl,hn,us,hus,hub,hx⟩:=h.src
 have hl:(m.drop a).length=m.length-a:=by simp
 refine ⟨us.drop a,by simp [hus],fun i u e h1 h2=>?_,_,_,by rw [hl],?_⟩
 ·rw [List.getElem?_drop] at h1 h2
  exact hub _ u e h1 h2
 ·rcases hx with ⟨rfl,rfl,rfl⟩ | ⟨g,rfl,hx⟩
  ·exact .inl ⟨by simp,by simp,by omega⟩
  ·by_cases hc:cap=a
   ·refine .inr ⟨⟨g,0,none⟩,by rw [if_pos hc],fun j y hj=>?_⟩
    have:m.drop a=[]:=List.drop_eq_nil_of_le (by omega)
    rw [this] at hj
    simp [Zg] at hj
   ·refine .inr ⟨(⟨g,0,none⟩:Addr).add (a*2),by rw [if_neg hc];rfl,fun j y hj=>?_⟩
    rw [segCells_drop a hus,List.getElem?_drop] at hj
    rw [Addr.add_lit,Addr.add_lit,Nat.zero_add]
    exact hx _ y hj
theorem Ze.allIn [bn:Inhabited Ban] {base:Nat} {w:World} {v:Value} {m:AMap} (h:Ze base w v m):Hz base w v m:=by
 obtain ⟨ao,cap,rfl,_,_⟩:=h.form
 have:=h.takeIn m.length (Nat.le_refl _)
 rwa [List.take_length] at this
theorem Ze.made [bn:Inhabited Ban] (base:Nat) (w:World) (hb:base<=w.heap.size):Ze base (w.alloc (.cells #[] 182)) (.slice (some ⟨w.heap.size,0,none⟩) 0 0) [] :=
 ⟨[],rfl,fun i u c h=>by simp at h,World.ownsRow_made w #[] 0 hb (by decide) rfl⟩
theorem Ze.one [bn:Inhabited Ban] {base:Nat} {w:World} {u:Value} {k:Int} {l:Qs} (hu:Qv base w u l) (hb:base<=w.heap.size) :
  Ze base (w.alloc (.cells #[.int .u64 k,u] 182)) (.slice (some ⟨w.heap.size,0,none⟩) 1 1) [(k,l)]:=by
 refine ⟨[u],rfl,fun i u' c h1 h2=>?_,⟨rfl,.inr ⟨w.heap.size,1,#[.int .u64 k,u],rfl,hb,Qy w _,Nat.le_refl _,by decide,by simp,by simp [Zg]⟩⟩⟩
 match i,h1,h2 with
 | 0,h1,h2=>simp at h1 h2;subst h1 h2;exact hu.no ((Keep.refl _ _).alloc _)
def LAt [bn:Inhabited Ban] (base:Nat) (w:World) (v:Value) (l:List Qf):Prop :=
 ∃ us:List Value,us.length=l.length/\(∀ (i:Nat) u c,us[i]?=some u->l[i]?=some c->Qv base w u c.p)/\w.ownsRow base 244 3 v l.length (Zx l us)
theorem LAt.form [bn:Inhabited Ban] {base:Nat} {w:World} {v:Value} {l:List Qf} (h:LAt base w v l):∃ ao cap,v=.slice ao l.length cap/\l.length<=cap/\cap<=maxLen:=by
 obtain ⟨us,_,_,_,h⟩:=h
 rcases h with ⟨rfl,h⟩ | ⟨g,cap,cur,rfl,_,_,h1,h2,_⟩
 ·exact ⟨none,0,by rw [h],by omega,by decide⟩
 ·exact ⟨_,_,rfl,h1,h2⟩
theorem LAt.cells [bn:Inhabited Ban] {base:Nat} {w:World} {ao:Option Addr} {n cap:Nat} {l:List Qf} (h:LAt base w (.slice ao n cap) l) (hn:0<l.length) :
  ∃ g,ao=some ⟨g,0,none⟩/\base<=g/\∀ i c,l[i]?=some c->∃ u,Qv base w u c.p/\w.cell? ⟨g,i*3,none⟩=some (.int .u64 c.seg)/\w.cell? ⟨g,i*3+1,none⟩=some u/\w.cell? ⟨g,i*3+2,none⟩=some (.bool c.drop):=by
 obtain ⟨us,hus,hb,hx,hw⟩:=h
 rcases hw with ⟨_,h0⟩ | ⟨g,cp,cur,hv,hbg,hg,h1,h2,h3,h4⟩
 ·omega
 ·simp only [Value.slice.injEq] at hv
  refine ⟨g,hv.1,hbg,fun i c hc=>?_⟩
  have hi:i<l.length:=(List.getElem?_eq_some_iff.1 hc).1
  have hu:us[i]?=some us[i]:=List.getElem?_eq_getElem (by omega)
  obtain ⟨e0,e1,e2⟩:=callCells_at hus hc hu
  have cell:∀ j x,(Zx l us)[j]?=some x->w.cell? ⟨g,j,none⟩=some x:=by
   intro j x hj
   rw [Qq hg]
   rw [<- h4,List.getElem?_take] at hj
   split at hj
   ·simpa using hj
   ·cases hj
  exact ⟨us[i],hb i _ _ hu hc,cell _ _ e0,cell _ _ e1,cell _ _ e2⟩
theorem step6_length (m:AMap) (c:Qf):(Xa m c).length<=m.length+1:=by
 induction m with
 | nil=>unfold Xa;split <;> simp
 | cons e m ih =>
  unfold Xa
  split
  ·simp;omega
  ·split
   ·split
    ·simp only [List.length_cons];omega
    ·simp
   ·split
    ·simp
    ·simp
theorem step6_sum (m:AMap) (c:Qf):msum (Xa m c)<=msum m+c.p.length:=by
 induction m with
 | nil=>unfold Xa;split <;> simp [msum]
 | cons e m ih =>
  unfold Xa
  split
  ·simp only [msum];omega
  ·split
   ·split
    ·simp only [msum];omega
    ·simp only [msum,List.length_append];omega
   ·split
    ·simp only [msum];omega
    ·simp only [msum];omega
theorem msum_mem {m:AMap}:∀ {a:Nat} {e:Int × Qs},m[a]?=some e->e.2.length<=msum m:=by
 induction m with
 | nil=>intro a e h;simp at h
 | cons x m ih =>
  intro a e h
  cases a with
  | zero=>simp at h;subst h;simp [msum]
  | succ a=>have:=ih (by simpa using h);simp only [msum];omega
theorem segs6_take {l:List Qf} {k:Nat} {c:Qf} (h:l[k]?=some c):segs6 (l.take (k+1))=Xa (segs6 (l.take k)) c:=by
 obtain ⟨hlt,rfl⟩:=List.getElem?_eq_some_iff.1 h
 rw [List.take_succ_eq_append_getElem hlt,Gv]
theorem segCells_set:∀ {m:AMap} {us:List Value} {a:Nat} {e:Int × Qs} (l:Qs) (v:Value),us.length=m.length->m[a]?=some e->Zg (m.set a (e.1,l)) (us.set a v)=(Zg m us).set (a*2+1) v:=by
 intro m
 induction m with
 | nil=>intro us a e l v _ h;simp at h
 | cons x m ih =>
  intro us a e l v hl h
  cases us with
  | nil=>simp at hl
  | cons u us =>
   cases a with
   | zero=>simp at h;subst h;simp [Zg]
   | succ a =>
    have e1:(a+1)*2+1=a*2+1+1+1:=by omega
    have:=ih (us:=us) (a:=a) (e:=e) l v (by simpa using hl) (by simpa using h)
    simp only [List.set_cons_succ,Zg,e1,this]
theorem set_at {m:AMap} {a:Nat} {e x:Int × Qs} (h:m[a]?=some e):m.set a x=m.take a++x :: m.drop (a+1):=by
 rw [List.set_eq_take_append_cons_drop,if_pos (List.getElem?_eq_some_iff.1 h).1]
theorem Ze.set [bn:Inhabited Ban] {base:Nat} {w:World} {g n cap:Nat} {m:AMap} {a:Nat} {e:Int × Qs} {v:Value} {l:Qs} (h:Ze base w (.slice (some ⟨g,0,none⟩) n cap) m) (he:m[a]?=some e) (hv:Qv base w v l) :
  Ze base (w.setCell ⟨g,a*2+1,none⟩ v) (.slice (some ⟨g,0,none⟩) n cap) (m.set a (e.1,l)):=by
 have hF:Foot base w (·=g):=by
  rintro b rfl
  exact h.footOk b rfl
 have hK:Keep (·=g) w (w.setCell ⟨g,a*2+1,none⟩ v):=Keep.setCell (F:=(·=g)) (Keep.refl _ _) (p:=⟨g,a*2+1,none⟩) (.inl rfl) _
 have hal:a<m.length:=(List.getElem?_eq_some_iff.1 he).1
 obtain ⟨us,hus,hb,hx,hw⟩:=h
 have hcl:=segCells_length hus
 rcases hw with ⟨h1,h0⟩ | ⟨g',cp,cur,hv',hbg,hg,h1,h2,h3,h4⟩
 ·omega
 ·simp at hv'
  obtain ⟨rfl,rfl,rfl⟩:=hv'
  refine ⟨us.set a v,by simp [hus],fun i u x hu hx=>?_,?_,.inr ⟨g,cap,cur.setIfInBounds (a*2+1) v,by simp,hbg,Qz hg,by simpa using h1,h2,by simpa using h3,?_⟩⟩
  ·by_cases hia:a=i
   ·subst hia
    rw [List.getElem?_set_self (by omega)] at hu
    rw [List.getElem?_set_self (by omega)] at hx
    simp at hu hx
    subst hu hx
    exact hv.keep hF hK
   ·rw [List.getElem?_set_ne hia] at hu
    rw [List.getElem?_set_ne hia] at hx
    exact (hb i u x hu hx).keep hF hK
  ·rw [segCells_set l v hus he];simpa using hcl
  ·rw [segCells_set l v hus he,<- h4,List.length_set,Array.toList_setIfInBounds,List.take_set]
def SegsPost [bn:Inhabited Ban] (base:Nat) (w:World) (m:AMap) (e:Ending) (w':World):Prop :=
 ∃ v',e=.returned v'/\Ze base w' v' m/\Keep No w w'/\∀ b,v'.ownBlock=some b->w.heap.size<=b
theorem segs_spec [bn:Inhabited Ban] {base:Nat} {w:World} {v:Value} {l:List Qf} (h:LAt base w v l) (hb:base<=w.heap.size) (hl:l.length<=1000) (hs:wsum l<=1099511627776) :
  Calls Tryz.prog 80 #[v] w (SegsPost base w (segs6 l)):=by
 obtain ⟨ao,cap,rfl,hlc,hcm⟩:=h.form
 have hln:(l.length:Int)<=1000:=by omega
 clear hlc hcm
 go_enter Tryz.func80,Tryz.ntmps80
 go_wp2
 go_loopw [3,11] (fun v i wr=>∃ k:Nat,k<=l.length/\i=.int .i64 k/\Ze base wr v (segs6 (l.take k))/\(segs6 (l.take k)).length<=k/\msum (segs6 (l.take k))<=wsum (l.take k)/\Keep No w wr/\∀ b,v.ownBlock=some b->w.heap.size<=b) (fun _ i _=>l.length - (intOf i).toNat)
 case atStart=>exact ⟨0,Nat.zero_le _,rfl,Ze.nil _ _,Nat.le_refl _,Nat.le_refl _,Keep.refl _ _,fun b hb=>by simp [Value.ownBlock] at hb⟩
 case round =>
  obtain ⟨k,hk,rfl,hS,hSl,hSs,hkp,hnew⟩:=hrel
  obtain ⟨so,sc,rfl,hmc,hcm⟩:=hS.form
  by_cases hlt:k<l.length
  ·obtain ⟨g,rfl,hbg,hcells⟩:=h.cells (by omega)
   have hck:l[k]?=some l[k]:=List.getElem?_eq_getElem hlt
   obtain ⟨u,hu,e0,e1,e2⟩:=hcells k _ hck
   have hT:=segs6_take hck
   generalize l[k]=c at *
   generalize segs6 (l.take k)=m at *
   obtain ⟨uo,uc,rfl⟩:=hu.form
   have e0:=hkp.cell e0 (fun e=>e)
   have e1:=hkp.cell e1 (fun e=>e)
   have e2:=hkp.cell e2 (fun e=>e)
   have hu:=hu.no hkp
   have hki:(k:Int)<(l.length:Int):=by omega
   have hml:(m.length:Int)<=1000:=by omega
   have HX:=Lib.hid (A7 hck hT hlt hSl hSs hmc hcm)
   clear hcells hck hT hlt hSl hSs hmc hcm
   have kA:Keep No wr (wr.alloc (.cells #[.int .u64 c.seg,.slice uo c.p.length uc,.bool c.drop] 244)):=(Keep.refl _ _).alloc _
   have hbx:=Qy wr (.cells #[.int .u64 c.seg,.slice uo c.p.length uc,.bool c.drop] 244)
   go_upto_block 2 with fail
   obtain ⟨W,hW⟩:∃ W,W=wr.alloc (.cells #[.int .u64 c.seg,.slice uo c.p.length uc,.bool c.drop] 244):=⟨_,rfl⟩
   rw [<- hW] at kA hbx ⊢
   have HW:=Lib.hid hW
   clear hW
   go_cut [6] (fun av wx=>∃ a:Nat,av=.int .i64 a/\IsAt m c.seg a/\Keep No W wx)
   case first =>
    go_wp2_with fail
    go_loopw [6] (fun i wx=>∃ a:Nat,a<=m.length/\i=.int .i64 a/\(∀ (j:Nat) (e:Int × Qs),j<a->m[j]?=some e->e.1<c.seg)/\Keep No W wx) (fun i _=>m.length - (intOf i).toNat)
    case atStart=>exact ⟨0,Nat.zero_le _,rfl,fun j e hj=>by omega,Keep.refl _ _⟩
    case round =>
     obtain ⟨a,ha,rfl,hlow,hkx⟩:=hrel
     by_cases hal:a<m.length
     ·obtain ⟨g3,rfl,hbg3,hcells3⟩:=hS.cells (by omega)
      have hea:m[a]?=some m[a]:=List.getElem?_eq_getElem hal
      obtain ⟨u3,hu3,x0,x1⟩:=hcells3 a _ hea
      generalize m[a]=e at *
      have x0:=(kA.then hkx).cell x0 (fun e=>e)
      have y0:=hkx.cell (Qq hbx 0) (fun e=>e)
      simp at y0
      have hai:(a:Int)<(m.length:Int):=by omega
      have HL:=Lib.hid (A3 hlow hea hal)
      clear hlow hea hal hcells3 x1 hu3 e0 e1 e2 hu
      by_cases hes:e.1<c.seg
      ·have hq:decide (e.1<c.seg)=true:=by simpa using hes
       go_wp2
       go_quiet (fail)
       go_wp2
       go_roundw
       case rel =>
        refine ⟨a+1,by have:=HL.out.2.2;omega,by go_num,fun j x hj hx=>?_,hkx.drewN _⟩
        by_cases hja:j=a
        ·subst hja
         rw [HL.out.2.1] at hx
         simp at hx
         subst hx
         exact hes
        ·exact HL.out.1 j x (by omega) hx
       case measure=>have:=HL.out.2.2;simp [intOf];omega
      ·have hq:decide (e.1<c.seg)=false:=by simpa using hes
       go_wp2
       go_quiet (fail)
       go_wp2
       go_meet
       exact ⟨a,rfl,⟨ha,HL.out.1,fun x hx=>by rw [HL.out.2.1] at hx;simp at hx;subst hx;have:=hes;omega⟩,hkx.drewN _⟩
     ·have hai:¬(a:Int)<(m.length:Int):=by omega
      have hq:decide (a<m.length)=false:=by simpa using hal
      have HL:=Lib.hid (A3 hlow ha hal)
      clear hlow ha hal hai
      go_wp2
      go_quiet (fail)
      go_wp2
      go_meet
      exact ⟨a,rfl,⟨HL.out.2.1,HL.out.1,fun x hx=>absurd (List.getElem?_eq_some_iff.1 hx).1 HL.out.2.2⟩,hkx.drewN _⟩
   case rest =>
    obtain ⟨a,rfl,hat,hkx⟩:=hcut
    have kx:=kA.then hkx
    have hAw:w.heap.size<=wr.heap.size:=hkp.size
    have hS:=hS.no kx
    have hu:=hu.no kx
    have hbx:=hkx.heap hbx (fun e=>e)
    have hkp:=hkp.then kx
    have hwc:=hkp.size
    have hAlt:=Qt hbx
    clear kA hkx kx e0 e1 e2
    obtain ⟨th,ht1,ht2⟩:∃ th:Bool,(th=true->∃ e,m[a]?=some e/\e.1=c.seg)/\(th=false->∀ e,m[a]?=some e->e.1≠c.seg):=by
     by_cases hq:∃ e,m[a]?=some e/\e.1=c.seg
     ·exact ⟨true,fun _=>hq,fun h=>by cases h⟩
     ·exact ⟨false,fun h=>(by cases h),fun _ e he hk=>hq ⟨e,he,hk⟩⟩
    generalize wr.heap.size=A at *
    generalize wc=wa at *
    go_upto_region 8 with fail
    go_cut [7] (fun tv wx=>tv=.bool th/\Keep No wa wx)
    case first =>
     have y0:=Qq hbx 0
     simp at y0
     by_cases hal:a<m.length
     ·obtain ⟨g3,rfl,hbg3,hcells3⟩:=hS.cells (by omega)
      have hea:m[a]?=some m[a]:=List.getElem?_eq_getElem hal
      obtain ⟨u3,hu3,x0,x1⟩:=hcells3 a _ hea
      generalize m[a]=e at *
      have hai:(a:Int)<(m.length:Int):=by omega
      by_cases hes:e.1=c.seg
      ·obtain rfl:th=true:=by
        cases th
        ·exact absurd hes (ht2 rfl e hea)
        ·rfl
       have hq:(e.1==c.seg)=true:=by simpa using hes
       clear ht1 ht2 hea hal hcells3 x1 hu3 hat hes
       go_quiet (fail)
       go_wp2
       go_meet
       exact ⟨rfl,(Keep.refl _ _).drewN _⟩
      ·obtain rfl:th=false:=by
        cases th
        ·rfl
        ·obtain ⟨e',he',hk'⟩:=ht1 rfl
         rw [hea] at he'
         simp at he'
         subst he'
         exact absurd hk' hes
       have hq:(e.1==c.seg)=false:=by simpa using hes
       clear ht1 ht2 hea hal hcells3 x1 hu3 hat hes
       go_quiet (fail)
       go_wp2
       go_meet
       exact ⟨rfl,(Keep.refl _ _).drewN _⟩
     ·obtain rfl:th=false:=by
       cases th
       ·rfl
       ·obtain ⟨e',he',hk'⟩:=ht1 rfl
        exact absurd (List.getElem?_eq_some_iff.1 he').1 hal
      have hq:decide (a<m.length)=false:=by simpa using hal
      clear ht1 ht2 hal hat
      go_quiet (fail)
      go_wp2
      go_meet
      exact ⟨rfl,(Keep.refl _ _).drewN _⟩
    case rest =>
     obtain ⟨rfl,hkx⟩:=hcut
     have hS:=hS.no hkx
     have hu:=hu.no hkx
     have hbx:=hkx.heap hbx (fun e=>e)
     have hkp:=hkp.then hkx
     have hwb:=hkp.size
     clear hkx hwc
     have y0:=Qq hbx 0
     have y1:=Qq hbx 1
     have y2:=Qq hbx 2
     simp at y0 y1 y2
     have hBw:base<=wc.heap.size:=by omega
     cases hd:c.drop with
     | true =>
      rw [hd] at y2
      cases th with
      | true =>
       obtain ⟨e,hea,hes⟩:=ht1 rfl
       have hT:=step6_there_drop hat hea hes hd
       have hal:a<m.length:=(List.getElem?_eq_some_iff.1 hea).1
       have hsc:=HX.out.2.2.2.2.2.1
       have hscm:=HX.out.2.2.2.2.2.2
       unfold maxLen at hscm
       obtain ⟨g3,rfl,hbg3,_⟩:=hS.cells (by omega)
       have i1:(a:Int)<=(sc:Int):=by omega
       have i4:(a:Int)<=1000:=by omega
       have i5:(sc:Int)<=9223372036854775807:=by omega
       obtain ⟨b,hb1⟩:∃ b,b=a+1:=⟨_,rfl⟩
       have hwr:IntKind.i64.wrap ((a:Int)+1)=(b:Int):=by rw [IntWalk.i64_in _ (by omega),hb1];omega
       have i2:(b:Int)<=(m.length:Int):=by omega
       have i3:(b:Int)<=(sc:Int):=by omega
       have HH:=Lib.hid (A3 hT hnew hkp)
       have HA:=Lib.hid (A3 hal hsc hb1)
       clear hb1
       clear hT hnew ht1 ht2 hat hu hbx hd hkp hea hes hal hsc hscm
       go_wp2
       refine Ql (fun w'=>Keep No wc w') [1,2,3,5,6,7,8] [0,4,9] [10] (by kernel_rfl) (by kernel_rfl) (fun _ _ _ _ _ h=>h) (Keep.refl _ _).drew ?_
       iterate 7 (refine Qk (v:=?_) rfl rfl rfl ?_ ?_;rotate_left;focus (
        intro w' hS
        go_simp
        try with_reducible rfl))
       refine Qj ?_
       refine Qx rfl rfl (fun K hK=>?_)
       go_simp
       have km:Keep No wc (wc.alloc (.cells #[] 182)).drew:=((Keep.refl _ _).alloc _).drew
       refine hK _ _ km ?_
       clear hK K
       have hmade:=(Ze.made base wc hBw).no ((Keep.refl No _).drew)
       refine Qx rfl rfl (fun K hK=>?_)
       refine wp_append_segs (v:=.slice (some ⟨wc.heap.size,0,none⟩) 0 0) _ _ rfl rfl rfl hmade ((hS.no km).takeIn a (by have:=HA.out.1;omega)) (by simp;omega) (Nat.le_trans hBw km.size) ?_
       intro v1 w1 hS1 hk1 hv1
       have hk1:Keep No wc w1:=km.absorb hk1 (fun x hx=>by have hx:some wc.heap.size=some x:=hx;injection hx with hx;omega)
       have hv1:∀ b,v1.ownBlock=some b->wc.heap.size<=b:=fun b hb=>by
        rcases hv1 b hb with hx | hx
        ·have hx:some wc.heap.size=some b:=hx
         injection hx with hx
         omega
        ·have:=km.size;omega
       refine hK _ _ hk1 ?_
       clear hK K hmade
       have hsrc:=(hS.no hk1).dropIn b (by have:=HA.out;omega)
       simp only [Option.map_some,Addr.add_lit,Nat.zero_add] at hsrc
       refine Qx rfl rfl (fun K hK=>?_)
       refine wp_append_segs (v:=v1) _ _ rfl rfl ?_ hS1 hsrc (by simp;omega) (Nat.le_trans hBw hk1.size) ?_
       ·rfl
       intro v2 w2 hS2 hk2 hv2
       have hk2:Keep No wc w2:=hk1.absorb hk2 hv1
       have hv2:∀ b,v2.ownBlock=some b->wc.heap.size<=b:=fun b hb=>by
        rcases hv2 b hb with hx | hx
        ·exact hv1 b hx
        ·have:=hk1.size;omega
       refine hK _ _ hk2 ?_
       clear hK K hsrc
       refine Qh (Qu rfl (Qm ?_))
       have HB:=Lib.hid (A3 hS2 hk2 hv2)
       clear hS2 hk2 hv2 hS1 hk1 hv1 hS hwr
       go_wp2
       go_roundw
       case rel =>
        have hTT:[]++m.take a++m.drop b=Xa m c:=by rw [HH.out.1,HA.out.2.2,List.nil_append]
        refine ⟨k+1,by have:=HX.out.2.2.1;omega,by go_num,?_,?_,?_,HH.out.2.2.then HB.out.2.1,fun b hb=>by have:=HB.out.2.2 b hb;omega⟩
        ·rw [HX.out.2.1,<- hTT];exact HB.out.1
        ·rw [HX.out.2.1];have:=step6_length m c;have:=HX.out.2.2.2.1;omega
        ·rw [HX.out.2.1,Jj HX.out.1];have:=step6_sum m c;have:=HX.out.2.2.2.2.1;omega
       case measure=>have:=HX.out.2.2.1;simp [intOf];omega
      | false =>
       have hT:=step6_not_drop hat (ht2 rfl) hd
       have HH:=Lib.hid (A4 hT hS hnew hkp)
       clear hT hS hnew hkp ht1 ht2 hat hu hbx hd
       go_wp2
       go_roundw
       case rel =>
        refine ⟨k+1,by have:=HX.out.2.2.1;omega,by go_num,?_,?_,?_,HH.out.2.2.2,HH.out.2.2.1⟩
        ·rw [HX.out.2.1,HH.out.1];exact HH.out.2.1
        ·rw [HX.out.2.1,HH.out.1];have:=HX.out.2.2.2.1;omega
        ·rw [HX.out.2.1,HH.out.1,Jj HX.out.1];have:=HX.out.2.2.2.2.1;omega
       case measure=>have:=HX.out.2.2.1;simp [intOf];omega
     | false =>
      rw [hd] at y2
      cases th with
      | true =>
       obtain ⟨e,hea,hes⟩:=ht1 rfl
       have hT:=step6_there hat hea hes hd
       have hal:a<m.length:=(List.getElem?_eq_some_iff.1 hea).1
       obtain ⟨g3,rfl,hbg3,hcells3⟩:=hS.cells (by omega)
       obtain ⟨u3,hu3,x0,x1⟩:=hcells3 a _ hea
       obtain ⟨u3o,u3c,rfl⟩:=hu3.form
       have hai:(a:Int)<(m.length:Int):=by omega
       have hsum:e.2.length+c.p.length<=35184372088832:=by
        have h1:=msum_mem hea
        have h2:=HX.out.2.2.2.2.1
        have h3:=Xe l (k+1)
        rw [Jj HX.out.1] at h3
        omega
       have HH:=Lib.hid (A5 hT hnew hal hea hes)
       clear hT hnew ht1 ht2 hat hd hea hes hal hcells3
       have hwbx:=hkp
       go_wp2
       refine Ql (fun w'=>Keep No wc w') [0,1,2,3,4,5,6,7,8] [9,10] [11,12,13] (by kernel_rfl) (by kernel_rfl) (fun _ _ _ _ _ h=>h) (Keep.refl _ _).drew ?_
       iterate 9 (refine Qk (v:=?_) rfl rfl rfl ?_ ?_;rotate_left;focus (
        intro w' hq
        have x1':=hq.cell x1 (fun e=>e)
        have y1':=hq.cell y1 (fun e=>e)
        go_simp
        try with_reducible rfl))
       refine Qj ?_
       have hk2:Keep No wc (wc.alloc (.cells #[.slice u3o e.2.length u3c,.slice uo c.p.length uc] 59)).drew:=((Keep.refl _ _).alloc _).drew
       have hsl:Zb base (wc.alloc (.cells #[.slice u3o e.2.length u3c,.slice uo c.p.length uc] 59)).drew (.slice (some ⟨wc.heap.size,0,none⟩) 2 2) [e.2,c.p] :=
        Zb.of_block (cs:=#[.slice u3o e.2.length u3c,.slice uo c.p.length uc]) (Qy wc _) [e.2,c.p] rfl (by simp [maxLen]) (fun i u' l h1 h2=>by
         match i,h1,h2 with
         | 0,h1,h2=>simp at h1 h2;subst h1 h2;exact hu3.no ((Keep.refl _ _).alloc _)
         | 1,h1,h2=>simp at h1 h2;subst h1 h2;exact hu.no ((Keep.refl _ _).alloc _))
       refine Qx rfl rfl (fun K hK=>?_)
       go_simp
       refine hK _ _ hk2 ?_
       clear hK K
       refine Qx rfl rfl (fun K hK=>?_)
       go_simp
       refine (Xv hsl (by simp;omega)).mono ?_
       rintro e' w3 ⟨v3,rfl,hown3,hk3⟩
       simp only []
       have hkk:=hk2.then hk3
       refine hK _ _ hkk ?_
       clear hK K
       refine Qh (Qu rfl (Qu rfl (Qu rfl (Qm ?_))))
       have hS3:=hS.no hkk
       have hTop:e.2++c.p≠[]->ban.top<=wc.heap.size:=fun hne=>by
        by_cases h1:e.2=[]
        ·exact hu.top (fun h2=>hne (by simp [h1,h2]))
        ·exact hu3.top h1
       have hv3:Qv base w3 v3 (e.2++c.p):=by
        have:=hown3.bytes (base:=base) (fun hne=>Nat.le_trans (hTop (by simpa using hne)) hk2.size)
        simpa using this
       have hset:=hS3.set HH.out.2.2.2.1 hv3
       rw [HH.out.2.2.2.2,set_at HH.out.2.2.2.1,<- HH.out.1] at hset
       obtain ⟨v3o,v3c,rfl⟩:=hv3.form
       have z1:=hkk.cell x1 (fun e=>e)
       have fz:w3.frozen? ⟨g3,a*2+1,none⟩=false:=by
        obtain ⟨_,cur,hq⟩:=hS3.kind g3 rfl
        exact Qg hq _
       have hfin:Keep No w (w3.setCell ⟨g3,a*2+1,none⟩ (.slice v3o (e.2++c.p).length v3c)) :=
        (hwbx.then hkk).setCell (p:=⟨g3,a*2+1,none⟩) (.inr (HH.out.2.1 g3 rfl)) _
       have HB:=Lib.hid (A2 hset hfin)
       clear hset hfin hS3 hv3 hown3 hk3 hk2 hkk hsl hS hu hu3 x0 x1 y0 y1 y2 hbx hwbx hkp
       go_wp2
       go_roundw
       case rel =>
        obtain ⟨q1,q2⟩:=HB.out
        rw [List.length_append] at q1 q2
        refine ⟨k+1,by have:=HX.out.2.2.1;omega,by go_num,?_,?_,?_,q2,HH.out.2.1⟩
        ·rw [HX.out.2.1];exact q1
        ·rw [HX.out.2.1];have:=step6_length m c;have:=HX.out.2.2.2.1;omega
        ·rw [HX.out.2.1,Jj HX.out.1];have:=step6_sum m c;have:=HX.out.2.2.2.2.1;omega
       case measure=>have:=HX.out.2.2.1;simp [intOf];omega
      | false =>
       have hT:=step6_not hat (ht2 rfl) hd
       have hsc:=HX.out.2.2.2.2.2.1
       have hscm:=HX.out.2.2.2.2.2.2
       unfold maxLen at hscm
       have hale:=hat.le
       have i1:(a:Int)<=(sc:Int):=by omega
       have i2:(a:Int)<=(m.length:Int):=by omega
       have i4:(a:Int)<=1000:=by omega
       have i5:(sc:Int)<=9223372036854775807:=by omega
       have hpl:c.p.length<=35184372088832:=by
        have h3:=Xe l (k+1)
        rw [Jj HX.out.1] at h3
        omega
       have HH:=Lib.hid (A3 hT hnew hkp)
       have HA:=Lib.hid (A2 hale hsc)
       clear hT hnew ht1 ht2 hat hd hkp hale hsc hscm
       go_wp2
       refine Ql (fun w'=>Keep No wc w') [0,1,2,3,8,9,10] [4,5,6,7,11] [12] (by kernel_rfl) (by kernel_rfl) (fun _ _ _ _ _ h=>h) (Keep.refl _ _).drew ?_
       iterate 7 (refine Qk (v:=?_) rfl rfl rfl ?_ ?_;rotate_left;focus (
        intro w' hq
        have y0':=hq.cell y0 (fun e=>e)
        have y1':=hq.cell y1 (fun e=>e)
        go_simp
        try with_reducible rfl))
       refine Qj ?_
       have hk2:Keep No wc (wc.alloc (.cells #[.slice uo c.p.length uc] 59)).drew:=((Keep.refl _ _).alloc _).drew
       have hsl:Zb base (wc.alloc (.cells #[.slice uo c.p.length uc] 59)).drew (.slice (some ⟨wc.heap.size,0,none⟩) 1 1) [c.p] :=
        Zb.of_block (cs:=#[.slice uo c.p.length uc]) (Qy wc _) [c.p] rfl (by simp [maxLen]) (fun i u' l h1 h2=>by
         match i,h1,h2 with
         | 0,h1,h2=>simp at h1 h2;subst h1 h2;exact hu.no ((Keep.refl _ _).alloc _))
       refine Qx rfl rfl (fun K hK=>?_)
       go_simp
       refine hK _ _ hk2 ?_
       clear hK K
       refine Qx rfl rfl (fun K hK=>?_)
       go_simp
       refine (Xv hsl (by simp;omega)).mono ?_
       rintro e' w3 ⟨v3,rfl,hown3,hk3⟩
       simp only []
       have hkk:=hk2.then hk3
       refine hK _ _ hkk ?_
       clear hK K
       have hv3:Qv base w3 v3 c.p:=by
        have:=hown3.bytes (base:=base) (fun hne=>Nat.le_trans (hu.top (by simpa using hne)) hk2.size)
        simpa using this
       obtain ⟨v3o,v3c,rfl⟩:=hv3.form
       refine Qx rfl rfl (fun K hK=>?_)
       go_simp
       refine hK _ _ hkk ?_
       clear hK K
       refine Qx rfl rfl (fun K hK=>?_)
       go_simp
       have kn:Keep No w3 (w3.alloc (.cells #[.int .u64 c.seg,.slice v3o c.p.length v3c] 182)):=(Keep.refl _ _).alloc _
       have hkn:=hkk.then kn
       refine hK _ _ hkn ?_
       clear hK K
       have hone:=Ze.one (k:=c.seg) hv3 (Nat.le_trans hBw hkk.size)
       have hsrc:=(hS.no hkn).dropIn a (by have:=HA.out.1;omega)
       have hadd:so.map (·.add (a*2))=so.map (·.add (a*2)):=rfl
       refine Qx rfl rfl (fun K hK=>?_)
       refine wp_append_segs (v:=.slice (some ⟨w3.heap.size,0,none⟩) 1 1) _ _ rfl rfl rfl hone hsrc (by simp;omega) (Nat.le_trans hBw hkn.size) ?_
       intro v4 w4 hS4 hk4 hv4
       have hk4:Keep No wc w4:=hkn.absorb hk4 (fun x hx=>by have hx:some w3.heap.size=some x:=hx;injection hx with hx;have:=hkk.size;omega)
       refine hK _ _ hk4 ?_
       clear hK K hsrc hone hadd kn hkn hk3 hk2 hkk hsl hown3 hv3 y0 y1 y2 hbx hu hv4
       refine Qh (Qu rfl (Qm ?_))
       have kz:Keep No w4 (w4.alloc (.cells #[] 182)):=(Keep.refl _ _).alloc _
       have hBw4:base<=w4.heap.size:=Nat.le_trans hBw hk4.size
       have hw4:w.heap.size<=w4.heap.size:=Nat.le_trans hwb hk4.size
       have hmade:=Ze.made base w4 hBw4
       have hsrc:=(hS.no (hk4.then kz)).takeIn a (by have:=HA.out.1;omega)
       have hl1:([]:AMap).length+(m.take a).length<=1000000:=by simp;omega
       have hl2:(([]:AMap)++m.take a).length+([(c.seg,c.p)]++m.drop a).length<=1000000:=by simp;omega
       have HK:=Lib.hid (A2 (HH.out.2.2.then hk4) hw4)
       have HL:=Lib.hid (A2 hl1 hl2)
       clear hw4 hl1 hl2 hk4 hS hwb
       go_wp2_with (at_builtin;first
        | (refine wpList_append_segs (v:=.slice (some ⟨w4.heap.size,0,none⟩) 0 0) rfl _ _ rfl rfl rfl hmade hsrc HL.out.1 (Nat.le_trans hBw4 kz.size) ?_;intro v5 w5 hS5 hk5 hv5;have k45:Keep No w4 w5:=kz.absorb hk5 (fun x hx=>by have hx:some w4.heap.size=some x:=hx;injection hx with hx;omega);have hS45:=(hS4.no k45).allIn)
        | (refine wpList_append_segs (v:=v5) rfl _ _ rfl rfl rfl hS5 hS45 HL.out.2 (Nat.le_trans hBw4 k45.size) ?_;intro v6 w6 hS6 hk6 hv6))
       go_roundw
       case rel =>
        have hTT:[]++m.take a++([(c.seg,c.p)]++m.drop a)=Xa m c:=by rw [HH.out.1];rfl
        have o5:∀ b,v5.ownBlock=some b->w4.heap.size<=b:=fun b hb=>by
         rcases hv5 b hb with hx | hx
         ·have hx:some w4.heap.size=some b:=hx
          injection hx with hx
          omega
         ·have:=kz.size;omega
        have k46:Keep No w4 w6:=k45.absorb hk6 o5
        refine ⟨k+1,by have:=HX.out.2.2.1;omega,by go_num,?_,?_,?_,HK.out.1.then k46,fun b hb=>?_⟩
        ·rw [HX.out.2.1,<- hTT];exact hS6
        ·rw [HX.out.2.1];have:=step6_length m c;have:=HX.out.2.2.2.1;omega
        ·rw [HX.out.2.1,Jj HX.out.1];have:=step6_sum m c;have:=HX.out.2.2.2.2.1;omega
        ·have:=HK.out.2
         rcases hv6 b hb with hx | hx
         ·have:=o5 b hx;omega
         ·have:=k45.size;omega
       case measure=>have:=HX.out.2.2.1;simp [intOf];omega
  ·obtain rfl:k=l.length:=by omega
   have e:l.take l.length=l:=List.take_length
   rw [e] at hS hnew hmc
   have hki:¬(l.length:Int)<(l.length:Int):=by omega
   have HP:Hid (SegsPost base w (segs6 l) (.returned (.slice so (segs6 l).length sc)) wr):=⟨_,rfl,hS,hkp,hnew⟩
   rw [e]
   clear hS hSl hSs hk hlt e hmc hcm hnew
   go_wp2
   go_ret
   exact HP.out
structure Qn where
 room:Int
 full:Bool
 l:List Qf
 safe:Int
structure Zs [bn:Inhabited Ban] (base:Nat) (w:World) (q:Nat) (lv:Value) (x:Qn):Prop where
 blk:w.heap[q]?=some (.cells #[.int .i64 x.room,.bool x.full,lv,.int .i64 x.safe] 119 (0,0))
 calls:LAt base w lv x.l
 qb:base<=q
theorem Ud (l:List Qf):msum (segs6 l)<=wsum l:=by
 have h:∀ (k:Nat),msum (segs6 (l.take k))<=wsum (l.take k):=by
  intro k
  induction k with
  | zero=>simp [segs6,msum]
  | succ k ih =>
   cases hk:l[k]? with
   | none =>
    have h1:=List.getElem?_eq_none_iff.1 hk
    rw [List.take_of_length_le (by omega)]
    rw [List.take_of_length_le h1] at ih
    exact ih
   | some c =>
    rw [segs6_take hk,Jj hk]
    have:=step6_sum (segs6 (l.take k)) c
    omega
 have:=h l.length
 rwa [List.take_length] at this
theorem msum_take {m:AMap}:∀ {k:Nat} {e:Int × Qs},m[k]?=some e->msum (m.take (k+1))=msum (m.take k)+e.2.length:=by
 induction m with
 | nil=>intro k e h;simp at h
 | cons x m ih =>
  intro k e h
  cases k with
  | zero=>simp at h;subst h;simp [msum]
  | succ k=>have:=ih (k:=k) (by simpa using h);simp only [List.take_succ_cons,msum] at this ⊢;omega
theorem msum_take_le (m:AMap):∀ (k:Nat),msum (m.take k)<=msum m:=by
 induction m with
 | nil=>intro k;simp
 | cons x m ih =>
  intro k
  cases k with
  | zero=>simp [msum]
  | succ k=>have:=ih k;simp only [List.take_succ_cons,msum];omega
theorem rused_spec [bn:Inhabited Ban] {base:Nat} {w:World} {q:Nat} {lv:Value} {x:Qn} (h:Zs base w q lv x) (hb:base<=w.heap.size) (hl:x.l.length<=1000) (hs:wsum x.l<=1099511627776) :
  Calls Tryz.prog 194 #[.pointer (some ⟨q,0,none⟩)] w fun e w'=>e=.returned (.int .i64 (msum (segs6 x.l):Nat))/\Keep No w w':=by
 have c2:=Qq h.blk 2
 simp at c2
 have hsum:=Ud x.l
 go_enter Tryz.func194,Tryz.ntmps194
 go_wp2_with fail
 refine (segs_spec h.calls hb hl (by omega)).mono ?_
 rintro e w1 ⟨v,rfl,hS,hk1,hn1⟩
 generalize hm:segs6 x.l=m at *
 have HM:=Lib.hid hm
 clear hm
 obtain ⟨so,sc,rfl,hmc,hcm⟩:=hS.form
 unfold maxLen at hcm
 have hml:(m.length:Int)<=9223372036854775807:=by omega
 have hms:msum m<=35184372088832:=by omega
 clear hmc hcm h c2 hsum hs
 go_wp2_with fail
 go_loopw [3,12] (fun t i wr=>∃ k:Nat,k<=m.length/\i=.int .i64 k/\t=.int .i64 (msum (m.take k):Nat)/\Keep No w1 wr) (fun _ i _=>m.length - (intOf i).toNat)
 case atStart=>exact ⟨0,Nat.zero_le _,rfl,rfl,Keep.refl _ _⟩
 case round =>
  obtain ⟨k,hk,rfl,rfl,hkp⟩:=hrel
  by_cases hlt:k<m.length
  ·obtain ⟨g,rfl,hbg,hcells⟩:=hS.cells (by omega)
   have hek:m[k]?=some m[k]:=List.getElem?_eq_getElem hlt
   obtain ⟨u,hu,e0,e1⟩:=hcells k _ hek
   have hT:=msum_take hek
   have hle:=msum_take_le m (k+1)
   generalize m[k]=e at *
   obtain ⟨uo,uc,rfl⟩:=hu.form
   have e0:=hkp.cell e0 (fun e=>e)
   have e1:=hkp.cell e1 (fun e=>e)
   have hki:(k:Int)<(m.length:Int):=by omega
   have b1:((msum (m.take k):Nat):Int)+(e.2.length:Int)<=35184372088832:=by omega
   have b0:(0:Int)<=((msum (m.take k):Nat):Int)+(e.2.length:Int):=by omega
   have HX:=Lib.hid (A2 hT hlt)
   clear hT hlt hle hcells hek hu hms
   go_wp2
   go_roundw
   case rel=>exact ⟨k+1,by have:=HX.out.2;omega,by go_num,by rw [HX.out.1];go_num,hkp.alloc _⟩
   case measure=>have:=HX.out.2;simp [intOf];omega
  ·have hki:¬(k:Int)<(m.length:Int):=by omega
   obtain rfl:k=m.length:=by omega
   have e:m.take m.length=m:=List.take_length
   rw [e]
   clear hki hlt hk e
   go_wp2
   go_ret
   exact ⟨by rw [HM.out];rfl,hk1.then hkp⟩
theorem info_rcall:(Tryz.prog.info? 244).map (fun i=>(i.zero,i.size,i.bytes))=some (some (.agg #[.int .u64 0,.slice none 0 0,.bool false]),3,40):=by kernel_rfl
theorem LAt.nil [bn:Inhabited Ban] (base:Nat) (w:World):LAt base w (.slice none 0 0) []:=⟨[],rfl,fun i u c h=>by simp at h,World.ownsRow_nil _ _ _ _⟩
theorem LAt.kind [bn:Inhabited Ban] {base:Nat} {w:World} {v:Value} {m:List Qf} (h:LAt base w v m):∀ b,v.ownBlock=some b->base<=b/\∃ cur,w.heap[b]?=some (.cells cur 244 (0,0)):=by
 intro b hb
 obtain ⟨us,_,_,_,hw⟩:=h
 rcases hw with ⟨rfl,_⟩ | ⟨g,cap,cur,rfl,h1,h2,_⟩
 ·simp [Value.ownBlock] at hb
 ·simp [Value.ownBlock] at hb
  subst hb
  exact ⟨h1,cur,h2⟩
theorem LAt.footOk [bn:Inhabited Ban] {base:Nat} {w:World} {v:Value} {m:List Qf} (h:LAt base w v m):Foot base w (fun b=>v.ownBlock=some b):=by
 intro b hb
 obtain ⟨h1,cur,h2⟩:=h.kind b hb
 exact ⟨h1,Qt h2,fun cs fr e=>by rw [h2] at e;simp at e⟩
theorem LAt.keep [bn:Inhabited Ban] {base:Nat} {w w':World} {v:Value} {m:List Qf} {F:Nat->Prop} (h:LAt base w v m) (hF:Foot base w F) (k:Keep F w w') (hn:∀ b,v.ownBlock=some b->¬F b):LAt base w' v m:=by
 obtain ⟨us,h1,h2,h3,h4⟩:=h
 refine ⟨us,h1,fun i u c hu hc=>(h2 i u c hu hc).keep hF k,h3,?_⟩
 rcases h4 with h4 | ⟨g,cap,cur,rfl,h5,h6,h7⟩
 ·exact .inl h4
 ·exact .inr ⟨g,cap,cur,rfl,h5,k.heap h6 (hn g rfl),h7⟩
theorem LAt.no [bn:Inhabited Ban] {base:Nat} {w w':World} {v:Value} {m:List Qf} (h:LAt base w v m) (k:Keep No w w'):LAt base w' v m:=h.keep (Foot.no _ _) k (fun _ _ h=>h)
def Gh [bn:Inhabited Ban] (base:Nat) (w:World) (x:Value) (m:List Qf):Prop :=
 ∃ us:List Value,us.length=m.length/\(∀ (i:Nat) u e,us[i]?=some u->m[i]?=some e->Qv base w u e.p) /\
  ∃ ao cap,x=.slice ao m.length cap/\((ao=none/\m=[]/\cap=0)\/∃ ad,ao=some ad/\∀ (j:Nat) y,(Zx m us)[j]?=some y->w.cell? (ad.add j)=some y)
theorem rcCells_append:∀ {m m2:List Qf} {us us2:List Value},us.length=m.length->Zx (m++m2) (us++us2)=Zx m us++Zx m2 us2:=by
 intro m
 induction m with
 | nil=>intro m2 us us2 h;obtain rfl:=List.eq_nil_of_length_eq_zero h;rfl
 | cons c m ih =>
  intro m2 us us2 h
  cases us with
  | nil=>simp at h
  | cons u us=>simp only [List.cons_append,Zx,ih (us:=us) (by simpa using h)]
theorem rcCells_take:∀ {m:List Qf} {us:List Value} (a:Nat),us.length=m.length->Zx (m.take a) (us.take a)=(Zx m us).take (a*3):=by
 intro m
 induction m with
 | nil=>intro us a h;obtain rfl:=List.eq_nil_of_length_eq_zero h;simp [Zx]
 | cons c m ih =>
  intro us a h
  cases us with
  | nil=>simp at h
  | cons u us =>
   cases a with
   | zero=>simp [Zx]
   | succ a =>
    have e:(a+1)*3=a*3+1+1+1:=by omega
    simp only [List.take_succ_cons,Zx,e,ih (us:=us) a (by simpa using h)]
theorem run_append_rcalls [bn:Inhabited Ban] {base:Nat} {w:World} {v x:Value} {m m2:List Qf} (ty:TypeId) (h:LAt base w v m) (hx:Gh base w x m2) (hlen:m.length+m2.length<=1000000) (hb:base<=w.heap.size) :
  ∃ v' w',(Builtin.append_ #[117,117] ty #[v,x]).run Tryz.prog w=.ok v' w'/\LAt base w' v' (m++m2)/\Keep (fun b=>v.ownBlock=some b) w w'/\(∀ b,v'.ownBlock=some b->v.ownBlock=some b\/b=w.heap.size):=by
 have hfo:=h.footOk
 obtain ⟨us,hus,hub,hown⟩:=h
 obtain ⟨us2,hus2,hub2,ao,cap,rfl,hx⟩:=hx
 obtain ⟨i0,hi0,hz0,hz1,hz2⟩:=info_parts info_rcall
 rcases hx with ⟨rfl,rfl,rfl⟩ | ⟨ad,rfl,hx⟩
 ·refine ⟨v,w,run_append_owned_none (P:=Tryz.prog) w base 117 ty 244 i0 3 Tryz.underlying117 hi0 v m.length (Zx m us) hown,⟨us,by simpa using hus,by simpa using hub,by simpa using hown⟩,Keep.refl _ _,fun b hb=>.inl hb⟩
 ·have hone2:∀ u∈us2,u.oneCell'=true:=by
   intro u hu
   obtain ⟨i,hi,rfl⟩:=List.getElem_of_mem hu
   obtain ⟨_,_,e⟩:=(hub2 i us2[i] m2[i] (List.getElem?_eq_getElem hi) (List.getElem?_eq_getElem (by omega))).form
   rw [e];rfl
  obtain ⟨v',w',hrun,o1,g1,_,l1⟩:=run_append_own_at (P:=Tryz.prog) w base 117 ty 244 i0 _ 3 40 Tryz.underlying117 hi0 hz0 hz1 hz2 rfl (by omega) v m.length (Zx m us) hown
   ad m2.length cap (Zx m2 us2) (callCells_length hus2) hx (callCells_one hone2) (by unfold maxLen;omega) (by omega) hb
  have hk:Keep (fun b=>v.ownBlock=some b) w w':=(Keep.refl _ _).grown g1 (fun k hk=>.inl hk)
  refine ⟨v',w',hrun,⟨us++us2,by simp [hus,hus2],?_,?_⟩,hk,fun b hb=>?_⟩
  ·intro i u e h1 h2
   by_cases hi:i<us.length
   ·rw [List.getElem?_append_left hi] at h1
    rw [List.getElem?_append_left (by omega)] at h2
    exact (hub i u e h1 h2).keep hfo hk
   ·rw [List.getElem?_append_right (by omega)] at h1
    rw [List.getElem?_append_right (by omega)] at h2
    rw [hus] at h1
    exact (hub2 _ u e h1 h2).keep hfo hk
  ·rw [rcCells_append hus,List.length_append]
   exact o1
  ·rcases l1 with l1 | l1
   ·exact .inl (by rw [<- l1];exact hb)
   ·right;rw [l1] at hb;simp at hb;exact hb.symm
theorem wp_append_rcalls [bn:Inhabited Ban] {base:Nat} {w:World} {o:Oper} {a:Act} {K:Act->World->Prop} {Q:Exit->Act->World->Prop} {v x:Value} {m m2:List Qf} (s t:Operand)
  (hop:o.op=Op.call { callee:=Callee.builtin Builtin.append,args:=#[s,t],argTypes:=#[117,117] }) (hs:a.eval s=v) (ht:a.eval t=x)
  (h:LAt base w v m) (hx:Gh base w x m2) (hlen:m.length+m2.length<=1000000) (hb:base<=w.heap.size)
  (hK:∀ v' w',LAt base w' v' (m++m2)->Keep (fun b=>v.ownBlock=some b) w w'->(∀ b,v'.ownBlock=some b->v.ownBlock=some b\/b=w.heap.size)->K (a.put o.dst v') w'):o.wp Tryz.prog a w K Q:=by
 obtain ⟨v',w',hrun,h1,h2,h3⟩:=run_append_rcalls o.type h hx hlen hb
 unfold Oper.wp
 simp [execOp,hop,resolve,invoke,builtin,hs,ht,hrun,Result.andThen]
 exact hK v' w' h1 h2 h3
theorem wpList_append_rcalls [bn:Inhabited Ban] {base:Nat} {w:World} {ops:Array Oper} {rest:List Oper} {o:Oper} {a:Act} {Q:Exit->Act->World->Prop} {v x:Value} {m m2:List Qf} (hg:o.guard=none) (s t:Operand)
  (hop:o.op=Op.call { callee:=Callee.builtin Builtin.append,args:=#[s,t],argTypes:=#[117,117] }) (hs:a.eval s=v) (ht:a.eval t=x)
  (h:LAt base w v m) (hx:Gh base w x m2) (hlen:m.length+m2.length<=1000000) (hb:base<=w.heap.size)
  (hK:∀ v' w',LAt base w' v' (m++m2)->Keep (fun b=>v.ownBlock=some b) w w'->(∀ b,v'.ownBlock=some b->v.ownBlock=some b\/b=w.heap.size)->wpList Tryz.prog ops Q rest (a.put o.dst v') w'):wpList Tryz.prog ops Q (o :: rest) a w :=
 wpList_plain hg fun _ hK'=>wp_append_rcalls s t hop hs ht h hx hlen hb fun v' w' h1 h2 h3=>hK' _ _ (hK v' w' h1 h2 h3)
theorem LAt.src [bn:Inhabited Ban] {base:Nat} {w:World} {ao:Option Addr} {n cap:Nat} {m:List Qf} (h:LAt base w (.slice ao n cap) m) :
  n=m.length/\n<=cap/\∃ us:List Value,us.length=m.length/\(∀ (i:Nat) u e,us[i]?=some u->m[i]?=some e->Qv base w u e.p) /\
   ((ao=none/\m=[]/\cap=0)\/∃ g,ao=some ⟨g,0,none⟩/\∀ (j:Nat) y,(Zx m us)[j]?=some y->w.cell? ⟨g,j,none⟩=some y):=by
 obtain ⟨us,hus,hb,hx,hw⟩:=h
 rcases hw with ⟨h1,h0⟩ | ⟨g,cp,cur,hv,hbg,hg,h1,h2,h3,h4⟩
 ·simp at h1
  obtain rfl:m=[]:=List.eq_nil_of_length_eq_zero h0
  exact ⟨by simp;omega,by omega,us,hus,hb,.inl ⟨h1.1,rfl,h1.2.2⟩⟩
 ·simp only [Value.slice.injEq] at hv
  refine ⟨hv.2.1,by omega,us,hus,hb,.inr ⟨g,hv.1,fun j y hj=>?_⟩⟩
  rw [Qq hg]
  rw [<- h4,List.getElem?_take] at hj
  split at hj
  ·simpa using hj
  ·cases hj
theorem LAt.takeIn [bn:Inhabited Ban] {base:Nat} {w:World} {ao:Option Addr} {n cap:Nat} {m:List Qf} (h:LAt base w (.slice ao n cap) m) (a:Nat) (ha:a<=m.length):Gh base w (.slice ao a cap) (m.take a):=by
 obtain ⟨rfl,hn,us,hus,hub,hx⟩:=h.src
 have hl:(m.take a).length=a:=by simp;omega
 refine ⟨us.take a,by simp [hus],fun i u e h1 h2=>?_,ao,cap,by rw [hl],?_⟩
 ·rw [List.getElem?_take] at h1 h2
  split at h1
  ·rename_i hi
   rw [if_pos hi] at h2
   exact hub i u e h1 h2
  ·cases h1
 ·rcases hx with ⟨rfl,rfl,rfl⟩ | ⟨g,rfl,hx⟩
  ·exact .inl ⟨rfl,by simp,rfl⟩
  ·refine .inr ⟨⟨g,0,none⟩,rfl,fun j y hj=>?_⟩
   rw [rcCells_take a hus,List.getElem?_take] at hj
   split at hj
   ·rw [Addr.add_lit,Nat.zero_add];exact hx j y hj
   ·cases hj
theorem LAt.allIn [bn:Inhabited Ban] {base:Nat} {w:World} {v:Value} {m:List Qf} (h:LAt base w v m):Gh base w v m:=by
 obtain ⟨ao,cap,rfl,_,_⟩:=h.form
 have:=h.takeIn m.length (Nat.le_refl _)
 rwa [List.take_length] at this
theorem LAt.made [bn:Inhabited Ban] (base:Nat) (w:World) (hb:base<=w.heap.size):LAt base (w.alloc (.cells #[] 244)) (.slice (some ⟨w.heap.size,0,none⟩) 0 0) [] :=
 ⟨[],rfl,fun i u c h=>by simp at h,World.ownsRow_made w #[] 0 hb (by decide) rfl⟩
theorem LAt.one [bn:Inhabited Ban] {base:Nat} {w:World} {u:Value} (c:Qf) (hu:Qv base w u c.p) (hb:base<=w.heap.size) :
  LAt base (w.alloc (.cells #[.int .u64 c.seg,u,.bool c.drop] 244)) (.slice (some ⟨w.heap.size,0,none⟩) 1 1) [c]:=by
 refine ⟨[u],rfl,fun i u' c' h1 h2=>?_,⟨rfl,.inr ⟨w.heap.size,1,#[.int .u64 c.seg,u,.bool c.drop],rfl,hb,Qy w _,Nat.le_refl _,by decide,by simp,by simp [Zx]⟩⟩⟩
 match i,h1,h2 with
 | 0,h1,h2=>simp at h1 h2;subst h1 h2;exact hu.no ((Keep.refl _ _).alloc _)
def Qn.push (x:Qn) (c:Qf):Qn:={ x with l:=x.l++[c] }
def RPost [bn:Inhabited Ban] (base:Nat) (w:World) (q:Nat) (lv:Value) (x':Qn) (v:Value) (e:Ending) (w':World):Prop :=
 e=.returned v/\∃ lv',Zs base w' q lv' x'/\Keep (·=q) w w'/\∀ b,lv'.ownBlock=some b->lv.ownBlock=some b\/w.heap.size<=b
theorem Zs.no [bn:Inhabited Ban] {base:Nat} {w w':World} {q:Nat} {lv:Value} {x:Qn} (h:Zs base w q lv x) (k:Keep No w w'):Zs base w' q lv x :=
 ⟨k.heap h.blk (fun e=>e),h.calls.no k,h.qb⟩
theorem Zs.setL [bn:Inhabited Ban] {base:Nat} {w:World} {q:Nat} {lv v:Value} {x:Qn} {l:List Qf} (h:Zs base w q lv x) (hv:LAt base w v l):Zs base (w.setCell ⟨q,2,none⟩ v) q v { x with l:=l }:=by
 have hblk:=h.blk
 have hF:Foot base w (·=q):=by
  rintro b rfl
  exact ⟨h.qb,Qt hblk,fun cs fr e=>by rw [hblk] at e;simp at e⟩
 have hK:Keep (·=q) w (w.setCell ⟨q,2,none⟩ v):=Keep.setCell (F:=(·=q)) (Keep.refl _ _) (p:=⟨q,2,none⟩) (.inl rfl) _
 have hb2:=Qz (i:=2) (u:=v) hblk
 refine ⟨by simpa using hb2,hv.keep hF hK (fun b hb e=>?_),h.qb⟩
 obtain ⟨_,cur,hz⟩:=hv.kind b hb
 rw [e,hblk] at hz
 simp at hz
theorem Za {P:Program} {ops:Array Oper} {Q:Exit->Act->World->Prop} {S:World->Prop} {K:Act->World->Prop} {i:Nat} {r:List Nat} {a:Act} {w:World} {o:Oper} (hi:ops.toList[i]?=some o) (hg:Region.wanted o (yielded ops a.tmps)=true)
  (h:∀ K':Act->World->Prop,(∀ a w,S w->midN P ops Q S K r a w->K' a w)->o.wp P a w K' Q):midN P ops Q S K (i :: r) a w:=by
 unfold midN
 refine ⟨o,hi,?_⟩
 rw [if_pos hg]
 exact h _ (fun a w hS h=>⟨hS,h⟩)
def Qn.append (x:Qn) (seg:Int) (l:Qs):Qn × Int :=
 if x.full then (x,5) else if x.room<(msum (segs6 x.l):Int)+(l.length:Int) then (x,5) else (x.push ⟨seg,l,false⟩,0)
theorem rappend_spec [bn:Inhabited Ban] {base:Nat} {w:World} {q:Nat} {lv:Value} {x:Qn} (h:Zs base w q lv x) (hb:base<=w.heap.size) (hl:x.l.length<=1000) (hs:wsum x.l<=1099511627776) (seg:Int)
  {u:Value} {l:Qs} (hu:Qv base w u l) (hll:l.length<=1099511627776) :
  Calls Tryz.prog 151 #[.pointer (some ⟨q,0,none⟩),.int .u64 seg,u] w (RPost base w q lv (x.append seg l).1 (.int .i64 (x.append seg l).2)):=by
 have d0:=Qq h.blk 0
 have d1:=Qq h.blk 1
 have d2:=Qq h.blk 2
 simp at d0 d1 d2
 obtain ⟨lo,lc,rfl,_,_⟩:=h.calls.form
 obtain ⟨uo,uc,rfl⟩:=hu.form
 have hms:=Ud x.l
 by_cases hf:x.full=true
 ·have hr:x.append seg l=(x,5):=by simp [Qn.append,hf]
  rw [hf] at d1
  rw [hr]
  have HP:=Lib.hid h
  clear hr hf hu h hms hl hs hll
  go_enter Tryz.func151,Tryz.ntmps151
  go_wp2
  go_quiet (fail)
  go_wp2
  go_ret
  exact ⟨rfl,_,HP.out.no ((Keep.refl _ _).drewN _),((Keep.refl _ _).drewN _),fun b hb=>.inl hb⟩
 ·have hf':x.full=false:=by simpa using hf
  rw [hf'] at d1
  clear hf
  have hU:=fun w' (k:Keep No w w')=>rused_spec (h.no k) (Nat.le_trans hb k.size) hl hs
  go_enter Tryz.func151,Tryz.ntmps151
  go_wp2
  refine Ql (fun w'=>Keep No w w') [0,1,2,3,4,5,7,8,10,11,12,13] [6,9,14,15] [] (by kernel_rfl) (by kernel_rfl) (fun _ _ _ _ _ h=>h) (Keep.refl _ _).drew ?_
  iterate 5 (refine Qk (v:=?_) rfl rfl rfl ?_ ?_;rotate_left;focus (
   intro w' hS
   have d0':=hS.cell d0 (fun e=>e)
   have d1':=hS.cell d1 (fun e=>e)
   go_simp
   try with_reducible rfl))
  iterate 7 (refine Qe (v:=?_) rfl rfl (by first | kernel_rfl | simp [Region.wanted,yielded,Act.put]) ?_ ?_;rotate_left;focus (
   intro w' hS
   have d0':=hS.cell d0 (fun e=>e)
   have d1':=hS.cell d1 (fun e=>e)
   go_simp
   try with_reducible rfl))
  refine Qj ?_
  refine Za rfl (by first | kernel_rfl | simp [Region.wanted,yielded,Act.put]) (fun K hK=>?_)
  go_simp
  have kd:Keep No w w.drew:=(Keep.refl _ _).drew
  refine (hU _ kd).mono ?_
  rintro e w1 ⟨rfl,k1⟩
  have k1:=kd.then k1
  refine hK _ _ k1 ?_
  clear hK K hU
  have b0:(0:Int)<=(msum (segs6 x.l):Nat)+(l.length:Int):=by omega
  have b1:((msum (segs6 x.l):Nat):Int)+(l.length:Int)<=9223372036854775807:=by omega
  refine Za rfl (by first | kernel_rfl | simp [Region.wanted,yielded,Act.put]) (fun K hK=>?_)
  go_simp
  refine hK _ _ k1 ?_
  clear hK K
  have hX1:=h.no k1
  have hwr:IntKind.i64.wrap (((msum (segs6 x.l):Nat):Int)+(l.length:Int))=((msum (segs6 x.l):Nat):Int)+(l.length:Int):=IntWalk.i64_in _ (by omega)
  by_cases hlt:x.room<((msum (segs6 x.l):Nat):Int)+(l.length:Int)
  ·have hr:x.append seg l=(x,5):=by simp [Qn.append,hf',hlt]
   have HP:=Lib.hid (A3 hr hX1 k1)
   refine Za rfl (by first | kernel_rfl | simp [Region.wanted,yielded,Act.put]) (fun K hK=>?_)
   go_simp
   refine hK _ _ k1 ?_
   clear hK K
   refine Qx rfl rfl (fun K hK=>?_)
   go_simp
   refine hK _ _ k1 ?_
   clear hK K
   refine Qh (Qm ?_)
   clear hr hX1 h hu
   go_wp2
   go_ret
   rw [HP.out.1]
   exact ⟨rfl,_,HP.out.2.1,HP.out.2.2.no,fun b hb=>.inl hb⟩
  ·have hr:x.append seg l=(x.push ⟨seg,l,false⟩,0):=by simp [Qn.append,hf',hlt]
   have HP:=Lib.hid (A3 hr hX1 k1)
   refine Za rfl (by first | kernel_rfl | simp [Region.wanted,yielded,Act.put]) (fun K hK=>?_)
   go_simp
   refine hK _ _ k1 ?_
   clear hK K
   refine Qx rfl rfl (fun K hK=>?_)
   go_simp
   refine hK _ _ k1 ?_
   clear hK K
   refine Qh (Qm ?_)
   have hB1:base<=w1.heap.size:=Nat.le_trans hb k1.size
   have kz:Keep No w1 (w1.alloc (.cells #[] 244)):=(Keep.refl _ _).alloc _
   have hmade:=LAt.made base w1 hB1
   have hsrc:=(hX1.no kz).calls.allIn
   have hl1:([]:List Qf).length+x.l.length<=1000000:=by simp;omega
   have hl2:(([]:List Qf)++x.l).length+([⟨seg,l,false⟩]:List Qf).length<=1000000:=by simp;omega
   have d2':=kz.cell (k1.cell d2 (fun e=>e)) (fun e=>e)
   have hu1:=hu.no k1
   clear hr h hu hX1 k1 d0 d1 d2 hms hs hl hwr b0 b1 hlt
   go_wp2_with (at_builtin;refine wpList_append_rcalls (v:=.slice (some ⟨w1.heap.size,0,none⟩) 0 0) rfl _ _ rfl rfl rfl hmade hsrc hl1 (Nat.le_trans hB1 kz.size) ?_;intro v3 w3 hL3 hk3 hv3;have k13:Keep No w1 w3:=kz.absorb hk3 (fun x hx=>by have hx:some w1.heap.size=some x:=hx;injection hx with hx;omega);have hB3:=Nat.le_trans hB1 k13.size)
   have k3:Keep No w3 (w3.alloc (.cells #[.slice uo l.length uc] 59)):=(Keep.refl _ _).alloc _
   have hu3:=hu1.no k13
   have hsl:Zb base (w3.alloc (.cells #[.slice uo l.length uc] 59)) (.slice (some ⟨w3.heap.size,0,none⟩) 1 1) [l] :=
    Zb.of_block (cs:=#[.slice uo l.length uc]) (Qy w3 _) [l] rfl (by simp [maxLen]) (fun i u' l h1 h2=>by
     match i,h1,h2 with
     | 0,h1,h2=>simp at h1 h2;subst h1 h2;exact hu3.no k3)
   refine (Xv hsl (by simp;omega)).mono ?_
   rintro e w4 ⟨v4,rfl,hown,hk4⟩
   have k34:=k3.then hk4
   have hv4:Qv base w4 v4 l:=by
    have:=hown.bytes (base:=base) (fun hne=>Nat.le_trans (hu3.top (by simpa using hne)) k3.size)
    simpa using this
   obtain ⟨o4,c4,rfl⟩:=hv4.form
   have kB:Keep No w4 (w4.alloc (.cells #[.int .u64 seg,.slice o4 l.length c4,.bool false] 244)):=(Keep.refl _ _).alloc _
   have hB4:=Nat.le_trans hB3 k34.size
   have hone:=(LAt.one ⟨seg,l,false⟩ hv4 hB4).allIn
   clear hsl hown hk4 hu1 hu3 hv4 hmade hsrc
   go_wp2_with (at_builtin;refine wpList_append_rcalls (v:=v3) rfl _ _ rfl rfl rfl (hL3.no (k34.then kB)) hone hl2 (Nat.le_trans hB4 kB.size) ?_;intro v5 w5 hL5 hk5 hv5;have o3:∀ b,v3.ownBlock=some b->w1.heap.size<=b:=(fun b hb=>by (rcases hv3 b hb with hx | hx);(have hx:some w1.heap.size=some b:=hx;injection hx with hx;omega);(have:=kz.size;omega));have k15:Keep No w1 w5:=((k13.then k34).then kB).absorb hk5 o3;have hX5:=HP.out.2.1.no k15;have z2:=Qq hX5.blk 2;have f2:=Qg hX5.blk 2;simp at z2;obtain ⟨o5,c5,rfl,_,_⟩:=hL5.form)
   go_ret
   rw [HP.out.1]
   refine ⟨rfl,_,by simpa [Qn.push] using hX5.setL hL5,(HP.out.2.2.then k15).no.trans (Keep.setCell (F:=(·=q)) (Keep.refl _ _) (p:=⟨q,2,none⟩) (.inl rfl) _) (fun _ _ e=>e),fun b hb=>.inr ?_⟩
   have hw:=HP.out.2.2.size
   rcases hv5 b (by simpa [Value.ownBlock] using hb) with hx | hx
   ·have:=o3 b hx;omega
   ·have h1:=kB.size;have h2:=k13.size;have h3:=k34.size;omega
end Go.Proofs.YtfdmbomlkpkegaaGreat
namespace Go.Proofs.YtfdmbomlkpkegaaGreat
open Go Go.RowKit
structure Rel6 (d:Qr) (x:Qn):Prop where
 room:x.room=d.room
 full:x.full=d.full
 now:Jf (segs6 x.l) d.now
 safe:Jf (segs6 (x.l.take x.safe.toNat)) d.safe
 s0:0<=x.safe
 s1:x.safe<=x.l.length
 wait:d.wait=x.l.drop x.safe.toNat
 kn:Keys d.now
 ks:Keys d.safe
theorem Rel6.sum {d:Qr} {x:Qn} (h:Rel6 d x):msum (segs6 x.l)=msum d.now:=Jf.sum (Ve _).keys h.kn h.now
theorem Rel6.push {d:Qr} {x:Qn} (h:Rel6 d x) (c:Qf):Rel6 (d.put c) (x.push c):=by
 have hs:x.safe.toNat<=x.l.length:=by have:=h.s1;omega
 refine ⟨h.room,h.full,?_,?_,h.s0,?_,?_,h.kn.done c,h.ks⟩
 ·simp only [Qn.push,Qr.put]
  rw [Gv]
  exact h.now.step (Ve _) h.kn c
 ·simp only [Qn.push,Qr.put]
  rw [List.take_append_of_le_length hs]
  exact h.safe
 ·simp only [Qn.push,List.length_append]
  have:=h.s1
  omega
 ·simp only [Qn.push,Qr.put]
  rw [List.drop_append_of_le_length hs,h.wait]
theorem Rel6.append {d:Qr} {x:Qn} (h:Rel6 d x) (seg:Int) (l:Qs):Rel6 (d.append seg l).1 (x.append seg l).1/\(d.append seg l).2=(x.append seg l).2:=by
 unfold Qr.append Qn.append
 rw [h.full,h.room,h.sum]
 by_cases hf:d.full=true
 ·simp [hf,h]
 ·by_cases hl:d.room - (msum d.now:Int)<(l.length:Int)
  ·rw [if_neg hf,if_neg hf,if_pos hl,if_pos (by omega)]
   exact ⟨h,rfl⟩
  ·rw [if_neg hf,if_neg hf,if_neg hl,if_neg (by omega)]
   exact ⟨h.push _,rfl⟩
def Qn.sync (x:Qn):Qn:={ x with safe:=x.l.length }
theorem Rel6.sync {d:Qr} {x:Qn} (h:Rel6 d x):Rel6 d.sync x.sync:=by
 refine ⟨h.room,h.full,h.now,?_,by simp [Qn.sync],by simp [Qn.sync],?_,h.kn,h.kn⟩
 ·simp only [Qn.sync,Qr.sync,Int.toNat_natCast,List.take_length]
  exact h.now
 ·simp [Qn.sync,Qr.sync]
end Go.Proofs.YtfdmbomlkpkegaaGreat
