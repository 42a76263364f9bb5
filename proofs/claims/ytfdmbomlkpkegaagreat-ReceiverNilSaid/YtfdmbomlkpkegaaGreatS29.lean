/- Lemmas for ReceiverNil. -/
import Derived.Test.YtfdmbomlkpkegaaGreatS22
import Derived.RangeFuncNested
import Derived.RangeFuncBound
import Derived.RangeFuncCalls
import Derived.RangeFuncLeaves
import Derived.RangeFuncKeeps
import Derived.RangeFuncFrom
import Derived.Shelf.Abstract
import Derived.Shelf.RegionOpen
import Derived.WalkKit
import Derived.OwnWalkIn
import Derived.TacticsInMore
import Derived.LoopNIn
import Derived.LoopIn
import Derived.Shelf.AbstractIn
import Derived.RegionIn
import Derived.Test.YtfdmbomlkpkegaaGreatS2
import Derived.Test.YtfdmbomlkpkegaaGreatS21
import Derived.Test.YtfdmbomlkpkegaaGreatS23
set_option maxRecDepth 100000
set_option maxHeartbeats 8000000
set_option linter.all false
namespace Go.Proofs.YtfdmbomlkpkegaaGreat
open Go Go.RowKit Go.Shelf
def SeqSays {α:Type} (F:Fence) (n:Nat) (P:Program) (g:Nat) (lb:Array Value) (encs:α->Array Value) (Good:List α->α->World->Prop) (Kp:World->World->Prop) (S:List α->Prop) (w:World):Prop :=
 ∀ (l:Nat) (J:List α->World->Prop) (W:World),Kp w W->AbidesFrom W.heap.size J ->
  (∀ pre x W1,J pre W1->Good pre x W1->YieldAt F (n - 1) P l (encs x) W1 fun e W'=>e=.returned (.bool true)/\J (pre++[x]) W'/\Kp W1 W') ->
  J [] W ->
  Go.CallsIn F n P g (#[.func (.yield l) #[] #[]]++lb) W fun e W'=>(∃ v,e=.returned v)/\∃ xs,S xs/\J xs W'
attribute [local go_sem] Oper.semAt_some
structure Xd (n1:Nat) (F:Nat->Prop) (w w':World):Prop where
 os:w'.os=w.os
 tape:w'.tape=w.tape
 output:w'.output=w.output
 size:w.heap.size<=w'.heap.size
 block:∀ b,b<n1->¬F b->w'.heap[b]?=w.heap[b]?
theorem Xd.trans {n1:Nat} {F:Nat->Prop} {a b c:World} (h:Xd n1 F a b) (k:Xd n1 F b c):Xd n1 F a c :=
 ⟨k.os.trans h.os,k.tape.trans h.tape,k.output.trans h.output,Nat.le_trans h.size k.size,fun x hx hn=>(k.block x hx hn).trans (h.block x hx hn)⟩
theorem Xd.keep {F:Nat->Prop} {w w':World} (h:Xd w.heap.size F w w'):Keep F w w':=⟨h.os,h.tape,h.output,h.size,h.block⟩
theorem Keep.to {F:Nat->Prop} {w w':World} (h:Keep F w w') {n1:Nat} (hn:n1<=w.heap.size):Xd n1 F w w':=⟨h.os,h.tape,h.output,h.size,fun b hb hf=>h.block b (by omega) hf⟩
theorem Xd.refl (n1:Nat) (F:Nat->Prop) (w:World):Xd n1 F w w:=⟨rfl,rfl,rfl,Nat.le_refl _,fun _ _ _=>rfl⟩
theorem Xd.grown {n1:Nat} {F:Nat->Prop} {w w':World} {row:Option Nat} (h:w.grownBy w' row) (hn:n1<=w.heap.size) (hr:∀ r,row=some r->n1<=r):Xd n1 F w w' :=
 ⟨h.os,h.tape,h.output,h.size,fun b hb _=>h.block b (by omega) (fun e=>by have:=hr b e.symm;omega)⟩
theorem Keep.grownBy {w w':World} (h:Keep No w w'):w.grownBy w' none:=⟨h.os,h.tape,h.output,h.size,fun b hb _=>h.block b hb (fun e=>e)⟩
abbrev Item:=Nat × Value
def itemArgs (x:Item):Array Value:=#[.int .u64 x.1,x.2]
def ItemOk [bn:Inhabited Ban] (base:Nat) (L:LogS) (pre:List Item) (x:Item) (W:World):Prop :=
 ∃ b,L.recs[pre.length]?=some b/\x.1=L.next-L.recs.length+pre.length/\Qv base W x.2 b
theorem lAll_says [bn:Inhabited Ban] (n:Nat) (hn:1<=n) {base:Nat} {w:World} {g p B:Nat} {sv lv:Value} {L:LogS} {F:Nat->Prop} (h:Zd base w g p sv lv L) (hb:base<=w.heap.size) (hT:ban.top<=w.heap.size) (hx:L.next<=9223372036854775807) (hr:L.recs.length<=L.next) (hl:∀ b∈L.recs,b.length<=35184372088832)
  (hbox:w.cell? ⟨B,0,none⟩=some (.pointer (some ⟨g,0,none⟩))) (hF:Foot base w F) (hFl:∀ b,Yg g sv lv b->¬F b) (hFB:¬F B) :
  SeqSays Fence.wide n Tryz.prog 103 #[.pointer (some ⟨B,0,none⟩)] itemArgs (ItemOk base L) (Xd w.heap.size F) (fun xs=>xs.length=L.recs.length) w:=by
 intro l J W hW hJ hY h0
 have hat:=fun (W':World) (k:Xd w.heap.size F w W')=>h.keep hF k.keep hFl
 have hbx:=fun (W':World) (k:Xd w.heap.size F w W')=>k.keep.cell hbox hFB
 have hfirst:=fun (W':World) (k:Xd w.heap.size F w W')=>lFirst_spec (hat W' k) hx hr
 have hnext:=fun (W':World) (k:Xd w.heap.size F w W')=>lNext_spec (hat W' k)
 have hget:=fun (W':World) (k:Xd w.heap.size F w W') (i:Nat) (b:Qs) (hi:L.recs[i]?=some b)=>lGet_in (hat W' k) hx hr hi (hl b (List.mem_of_getElem? hi))
 obtain ⟨f,hf⟩:∃ f,L.next-L.recs.length=f:=⟨_,rfl⟩
 rw [hf] at hfirst hget
 have hbW:=hbx W hW
 have hfx:L.next=f+L.recs.length:=by omega
 have HP:=Lib.hid (A11 hJ hY hfirst hnext hget hbx hW h0 hb hT hf)
 clear hJ hY hW h0 hat hbx hfirst hnext hget h hb hT hbox hF hFl hFB hf hl hr
 refine callsIn_of_wp Tryz.func103 rfl trivial ?_ rfl
 simp only [Tryz.ntmps103,List.size_toArray,List.length_cons,List.length_nil,Nat.reduceAdd,Nat.reduceSub,Array.replicate_succ,Array.replicate_zero,List.push_toArray,List.append_toArray,List.nil_append,List.cons_append]
 gi_wp2_with (refine ⟨trivial,?_⟩;gi_at_call 104;refine (callsIn_wide.2 (HP.out.2.2.1 _ HP.out.2.2.2.2.2.2.1)).mono ?_;rintro e W1 ⟨rfl,k1⟩)
 have hJ1:J [] W1:=HP.out.1 [] W W1 none HP.out.2.2.2.2.2.2.2.1 k1.grownBy (fun r e=>by cases e)
 have hk1:Xd w.heap.size F w W1:=HP.out.2.2.2.2.2.2.1.trans ((k1.no (F:=F)).to HP.out.2.2.2.2.2.2.1.size)
 have HW:=Lib.hid (A3 HP.out.2.2.2.2.2.2.1.size hJ1 hk1)
 clear hJ1 hk1 hbW
 gi_loopw [3] (fun nv wr=>∃ pre:List Item,J pre wr/\pre.length<=L.recs.length/\nv=.int .u64 (f+pre.length:Nat)/\Xd w.heap.size F w wr/\W.heap.size<=wr.heap.size) (fun nv _=>L.next - (intOf nv).toNat)
 case atStart=>exact ⟨[],HW.out.2.1,Nat.zero_le _,rfl,HW.out.2.2,k1.size⟩
 case round =>
  clear k1
  obtain ⟨pre,hJp,hpl,rfl,hkp,hsz⟩:=hrel
  have hbr:=HP.out.2.2.2.2.2.1 _ hkp
  obtain ⟨m,hm⟩:∃ m,m=f+pre.length:=⟨_,rfl⟩
  rw [<- hm]
  by_cases hlt:pre.length<L.recs.length
  ·have hri:L.recs[pre.length]?=some L.recs[pre.length]:=List.getElem?_eq_getElem hlt
   have hget:=HP.out.2.2.2.2.1 _ hkp pre.length _ hri
   rw [<- hm] at hget
   generalize L.recs[pre.length]=b at *
   have hmi:(m:Int)<(L.next:Int):=by omega
   have hnx:=HP.out.2.2.2.1 _ hkp
   have hmw:IntKind.u64.wrap ((m:Int)+1)=((m+1:Nat):Int):=by rw [wraps_u64 _ (by omega) (by omega)];omega
   have HR:=Lib.hid (A6 hJp hri hm hlt hkp hsz)
   clear hJp hri hm hlt hkp hsz hpl hfx hx
   gi_wp2_with (first
    | (refine ⟨trivial,?_⟩;gi_at_call 106;refine (callsIn_wide.2 hget).mono ?_;rintro e W2 ⟨v2,rfl,own2,k2⟩;have hbr2:=k2.cell hbr (fun e=>e);obtain ⟨fn,tmps,assign,body,hy,hRR⟩:=HP.out.2.1 pre (m,v2) W2 (HP.out.1 pre _ W2 none HR.out.1 k2.grownBy (fun r e=>by cases e)) ⟨b,HR.out.2.1,by rw [HP.out.2.2.2.2.2.2.2.2.2.2];exact HR.out.2.2.1,own2.bytes (base:=base) (fun _=>Nat.le_trans HP.out.2.2.2.2.2.2.2.2.2.1 HR.out.2.2.2.2.1.size)⟩;have hy:(Instr.yield l #[.int .u64 m,v2]).run Tryz.prog W2=_:=hy)
    | (refine ⟨trivial,?_⟩;gi_at_call 105;refine (callsIn_wide.2 hnx).mono ?_;rintro e W3 ⟨rfl,rfl⟩))
   refine hRR.mono ?_
   rintro e W4 ⟨rfl,hJ4,hk4⟩
   have hk24:=HR.out.2.2.2.2.1.trans (((k2.no (F:=F)).to HR.out.2.2.2.2.1.size).trans hk4)
   clear hget hnx hy hRR
   gi_wp2
   go_roundw
   case rel=>exact ⟨pre++[(m,v2)],hJ4,by have:=HR.out.2.2.2.1;simp;omega,by have:=HR.out.2.2.1;simp;omega,hk24,Nat.le_trans HR.out.2.2.2.2.2 (Nat.le_trans k2.size hk4.size)⟩
   case measure=>have:=HR.out.2.2.2.1;simp [intOf];omega
  ·have hmi:¬((m:Int)<(L.next:Int)):=by omega
   have hnx:=HP.out.2.2.2.1 _ hkp
   have hpe:pre.length=L.recs.length:=by omega
   have HR:=Lib.hid (A2 hJp hpe)
   clear hJp hpe hlt hpl hkp hsz hfx hx hm
   gi_wp2_with (refine ⟨trivial,?_⟩;gi_at_call 105;refine (callsIn_wide.2 hnx).mono ?_;rintro e W3 ⟨rfl,rfl⟩)
   go_end0
   exact ⟨⟨_,rfl⟩,pre,HR.out.2,HR.out.1⟩
end Go.Proofs.YtfdmbomlkpkegaaGreat
namespace Go.Proofs.YtfdmbomlkpkegaaGreat
open Go Go.RowKit Go.Shelf Go.Dr
attribute [local go_sem] Oper.semAt_some
theorem lAll_spec (w:World) (g:Nat) :
  Calls Tryz.prog 56 #[.pointer (some ⟨g,0,none⟩)] w fun e w'=>e=.returned (.func (.func 103) #[] #[.pointer (some ⟨w.heap.size,0,none⟩)])/\w'=w.alloc (.cells #[.pointer (some ⟨g,0,none⟩)] 41):=by
 go_enter Tryz.func56,Tryz.ntmps56
 go_wp2
 go_ret
 exact ⟨rfl,rfl⟩
theorem Qv.turned [bn:Inhabited Ban] {base:Nat} {W W':World} {row:Option Nat} {v:Value} {l:Qs} (h:Qv base W v l) (hg:W.grownBy W' row) (hr:∀ r,row=some r->∃ o:Obj,W.heap[r]?=some o/\o.isCells=false):Qv base W' v l:=by
 obtain ⟨ao,cap,h1,h2,h3,h4,h5⟩:=h
 refine ⟨ao,cap,h1,h2,h3,h4,fun i x hx=>?_⟩
 obtain ⟨ad,e,hb,hc⟩:=h5 i x hx
 refine ⟨ad,e,⟨Nat.lt_of_lt_of_le hb.1 hg.size,?_,hb.2.2.1,Nat.le_trans hb.2.2.2 hg.size⟩,cell_kept hc hg hr⟩
 rcases hb.2.1 with h2 | ⟨cs,fr,h2⟩
 ·exact .inl h2
 ·exact .inr ⟨cs,fr,(grownBy_keeps_cells hg hr h2 rfl).trans h2⟩
def Gc (Q:Exit->Act->World->Prop):Exit->Act->World->Prop
 | .panic _,_,_=>False
 | .normal,a,w=>Q .normal a w
 | .ret,a,w=>Q .ret a w
 | .exit i,a,w=>Q (.exit i) a w
 | .goto t,a,w=>Q (.goto t) a w
 | .outgrown,a,w=>Q .outgrown a w
theorem Ry {Q:Exit->Act->World->Prop} {e:Exit} {a:Act} {w:World} (h:Gc Q e a w):Q e a w:=by
 cases e <;> first | exact h | exact h.elim
end Go.Proofs.YtfdmbomlkpkegaaGreat
namespace Go.Proofs.YtfdmbomlkpkegaaGreat
open Go Go.RowKit Go.Dr
theorem recs_nil [bn:Inhabited Ban] (base:Nat) (w:World):Zp base w (.slice none 0 0) []:=⟨[],rfl,fun i u b h=>by simp at h,World.ownsRow_nil _ _ _ _⟩
theorem wp_append_recs [bn:Inhabited Ban] {base:Nat} {w:World} {o:Oper} {a:Act} {K:Act->World->Prop} {Q:Exit->Act->World->Prop} (s t:Operand)
  (hop:o.op=Op.call { callee:=Callee.builtin Builtin.append,args:=#[s,t],argTypes:=#[128,128] }) {v x:Value} {m m2:List Qs} (hs:a.eval s=v) (ht:a.eval t=x)
  (h:Zp base w v m) (hx:Zp base w x m2) (hlen:m.length+m2.length<=1000000) (hb:base<=w.heap.size)
  (hK:∀ v' w',Zp base w' v' (m++m2)->Keep (fun b=>v.ownBlock=some b) w w'->(∀ b,v'.ownBlock=some b->v.ownBlock=some b\/b=w.heap.size)->K (a.put o.dst v') w'):o.wp Tryz.prog a w K Q:=by
 have hfo:=h.foot
 obtain ⟨us,hus,hub,hown⟩:=h
 obtain ⟨us2,hus2,hub2,hown2⟩:=hx
 obtain ⟨i0,hi0,hz0,hz1,hz2⟩:=info_parts info_bytes
 have key:∃ v' w',(Builtin.append_ #[128,128] o.type #[v,x]).run Tryz.prog w=.ok v' w'/\Zp base w' v' (m++m2)/\Keep (fun b=>v.ownBlock=some b) w w'/\(∀ b,v'.ownBlock=some b->v.ownBlock=some b\/b=w.heap.size):=by
  rcases hown2.2 with ⟨rfl,h0⟩ | ⟨g,cap,cur,rfl,_,hz,h4,h5,h6,h7⟩
  ·obtain rfl:m2=[]:=List.eq_nil_of_length_eq_zero h0
   refine ⟨v,w,?_,⟨us,by simpa using hus,by simpa using hub,by simpa using hown⟩,Keep.refl _ _,fun b hb=>.inl hb⟩
   exact run_append_owned_none (P:=Tryz.prog) w base 128 o.type 59 i0 1 Tryz.underlying128 hi0 v m.length us hown
  ·have hone2:∀ u∈us2,u.oneCell'=true:=by
    intro u hu
    obtain ⟨i,hi,rfl⟩:=List.getElem_of_mem hu
    obtain ⟨_,_,e⟩:=(hub2 i us2[i] m2[i] (List.getElem?_eq_getElem hi) (List.getElem?_eq_getElem (by omega))).form
    rw [e];rfl
   have hcells:∀ (j:Nat) y,us2[j]?=some y->w.cell? ((⟨g,0,none⟩:Addr).add j)=some y:=by
    intro j y hy
    rw [Addr.add_lit,Qq hz,Nat.zero_add]
    rw [<- h7,List.getElem?_take] at hy
    split at hy
    ·simpa using hy
    ·cases hy
   obtain ⟨v',w',hrun,o1,g1,_,l1⟩:=run_append_own_at (P:=Tryz.prog) w base 128 o.type 59 i0 _ 1 24 Tryz.underlying128 hi0 hz0 hz1 hz2 rfl (by omega) v m.length us hown
    ⟨g,0,none⟩ m2.length cap us2 (by rw [hus2];omega) hcells hone2 (by unfold maxLen;omega) (by omega) hb
   have hk:Keep (fun b=>v.ownBlock=some b) w w':=(Keep.refl _ _).grown g1 (fun k hk=>.inl hk)
   refine ⟨v',w',hrun,⟨us++us2,by simp [hus,hus2],?_,?_⟩,hk,fun b hb=>?_⟩
   ·intro i u e h1 h2
    by_cases hi:i<us.length
    ·rw [List.getElem?_append_left hi] at h1
     rw [List.getElem?_append_left (by omega)] at h2
     exact (hub i u e h1 h2).keep hfo hk
    ·rw [List.getElem?_append_right (by omega)] at h1
     rw [List.getElem?_append_right (by omega)] at h2
     rw [hus] at h1
     exact (hub2 _ u e h1 h2).keep hfo hk
   ·rw [List.length_append]
    exact o1
   ·rcases l1 with l1 | l1
    ·exact .inl (by rw [<- l1];exact hb)
    ·right;rw [l1] at hb;simp at hb;exact hb.symm
 obtain ⟨v',w',hrun,h1,h2,h3⟩:=key
 unfold Oper.wp
 simp [execOp,hop,resolve,invoke,builtin,hs,ht,hrun,Result.andThen]
 exact hK v' w' h1 h2 h3
theorem wpList_append_recs [bn:Inhabited Ban] {base:Nat} {w:World} {ops:Array Oper} {rest:List Oper} {o:Oper} {a:Act} {Q:Exit->Act->World->Prop} (hg:o.guard=none) (s t:Operand)
  (hop:o.op=Op.call { callee:=Callee.builtin Builtin.append,args:=#[s,t],argTypes:=#[128,128] }) {v x:Value} {m m2:List Qs} (hs:a.eval s=v) (ht:a.eval t=x)
  (h:Zp base w v m) (hx:Zp base w x m2) (hlen:m.length+m2.length<=1000000) (hb:base<=w.heap.size)
  (hK:∀ v' w',Zp base w' v' (m++m2)->Keep (fun b=>v.ownBlock=some b) w w'->(∀ b,v'.ownBlock=some b->v.ownBlock=some b\/b=w.heap.size)->wpList Tryz.prog ops Q rest (a.put o.dst v') w'):wpList Tryz.prog ops Q (o :: rest) a w :=
 wpList_plain hg fun _ hK'=>wp_append_recs s t hop hs ht h hx hlen hb fun v' w' h1 h2 h3=>hK' _ _ (hK v' w' h1 h2 h3)
theorem rAll_spec [bn:Inhabited Ban] {base:Nat} {w:World} {v:Value} {ss:List SegL} (h:R7 base w v ss) (hb:base<=w.heap.size) (hfew:ss.length<=10000) (hrec:(Qw ss).length<=400000) :
  Calls Tryz.prog 126 #[v] w fun e w'=>∃ v',e=.returned v'/\Zp base w' v' (Qw ss)/\Keep No w w':=by
 obtain ⟨ps,hps,hR⟩:=h
 obtain ⟨ao,cap,rfl,_,_⟩:=hR.form
 have hpl:ps.length=ss.length:=by rw [<- hps,List.length_map]
 rw [hpl] at hR ⊢
 have hli:(ss.length:Int)<=1099511627776:=by omega
 have HR:=Lib.hid (A4 hps hR hb hrec)
 clear hps hR hb hpl hfew hrec
 go_enter Tryz.func126,Tryz.ntmps126
 go_wp2_with fail
 go_loopw [3,8] (fun ov iv wr=>∃ j:Nat,j<=ss.length/\iv=.int .i64 j/\Zp base wr ov (Qw (ss.take j))/\(∀ b,ov.ownBlock=some b->w.heap.size<=b)/\Keep No w wr) (fun _ iv _=>ss.length - (intOf iv).toNat)
 case atStart=>exact ⟨0,Nat.zero_le _,rfl,by rw [List.take_zero];exact recs_nil _ _,by simp [Value.ownBlock],Keep.refl _ _⟩
 case round =>
  obtain ⟨j,hj,rfl,hL,ho,hK⟩:=hrel
  obtain ⟨oo,oc,rfl,_,_⟩:=hL.form
  by_cases hlt:j<ss.length
  ·have hsj:ss[j]?=some ss[j]:=List.getElem?_eq_getElem hlt
   obtain ⟨u,hpj⟩:=R7At.at HR.out.1 hsj
   have hRr:=HR.out.2.1.no hK
   have hst:Qw (ss.take (j+1))=Qw (ss.take j)++(ss[j]).recs:=by
    rw [List.take_add_one,hsj,Option.toList_some,Xp];simp [Qw]
   have hle:(Qw (ss.take j)).length+(ss[j]).recs.length<=1000000:=by
    have h1:(Qw (ss.take (j+1))).length<=(Qw ss).length:=by
     have:Qw ss=Qw (ss.take (j+1))++Qw (ss.drop (j+1)):=by rw [<- Xp,List.take_append_drop]
     rw [this,List.length_append];omega
    rw [hst,List.length_append] at h1
    have:=HR.out.2.2.2
    omega
   generalize ss[j]=s at *
   have hlu:=hRr.recs _ (List.mem_of_getElem? hpj)
   dsimp only at hlu
   obtain ⟨lo,lc,rfl,_,_⟩:=hlu.form
   obtain ⟨g,rfl,c0,c1,c2,c3,c4,c5⟩:=hRr.cell hpj
   dsimp only at c0 c1 c2 c3 c4 c5
   have hji:(j:Int)<(ss.length:Int):=by omega
   generalize (if s.headed=true then (s.first:Int) else 0)=fi at *
   generalize (s.headed && !s.tail.isEmpty)=tb at *
   generalize s.bytes.length=bl at *
   have kA:Keep No wr (wr.alloc (.cells #[.int .u64 s.n,.bool s.headed,.int .u64 fi,.slice lo s.recs.length lc,.bool tb,.int .i64 bl] 282)):=(Keep.refl _ _).alloc _
   have hLA:=hL.keep (Foot.no _ _) kA (fun _ _ e=>e)
   have huA:=hlu.keep (Foot.no _ _) kA (fun _ _ e=>e)
   have hbA:=Nat.le_trans HR.out.2.2.1 (hK.then kA).size
   have HC:=Lib.hid (A4 hst hlt (hK.then kA) ho)
   clear hst hlt hK ho hL hpj hsj hRr hlu hj kA
   go_wp2_with (at_builtin;refine wpList_append_recs rfl _ _ rfl rfl rfl hLA huA hle hbA ?_;intro v9 w9 hR9 k9 o9)
   go_roundw
   case rel =>
    refine ⟨j+1,HC.out.2.1,by go_num,by rw [HC.out.1];exact hR9,fun b hb=>?_,HC.out.2.2.1.absorb k9 (fun b hb=>HC.out.2.2.2 b hb)⟩
    rcases o9 b hb with h | h
    ·exact HC.out.2.2.2 b h
    ·rw [h];exact HC.out.2.2.1.size
   case measure=>have:=HC.out.2.1;simp [intOf];omega
  ·obtain rfl:j=ss.length:=by omega
   have hji:¬((ss.length:Int)<(ss.length:Int)):=by omega
   rw [List.take_length] at hL
   rw [List.take_length]
   have HE:=Lib.hid (A2 hL hK)
   clear hlt hj hL hK ho
   go_wp2
   go_ret
   exact ⟨_,rfl,HE.out.1,HE.out.2⟩
end Go.Proofs.YtfdmbomlkpkegaaGreat
