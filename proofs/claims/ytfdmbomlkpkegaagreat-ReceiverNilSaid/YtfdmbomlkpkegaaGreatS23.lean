/- Lemmas for ReceiverNil. -/
import Derived.Test.YtfdmbomlkpkegaaGreatS22
import Derived.Test.YtfdmbomlkpkegaaGreatS21
import Derived.Test.YtfdmbomlkpkegaaGreatS10
import Derived.Test.YtfdmbomlkpkegaaGreatS14
set_option maxRecDepth 100000
set_option maxHeartbeats 8000000
set_option linter.all false
namespace Go.Proofs.YtfdmbomlkpkegaaGreat
open Go Go.RowKit Go.Dr
theorem rone_spec [bn:Inhabited Ban] {base:Nat} {w:World} {pv:Value} {s:SegL} (hp:Qv base w pv s.bytes) (ho:s.Ok) (hb:base<=w.heap.size) (hT:ban.top<=w.heap.size)
  (hrl:s.recs.length<=1000000) (hz:s.bytes.length<=1099511627776) :
  Calls Tryz.prog 175 #[.int .u64 s.n,pv] w (Sv base w s):=by
 cases hd:s.headed with
 | false=>exact rone_bare hp ho hd
 | true=>exact rone_head hp ho hd hb hT hrl hz
def Uq (ps:List (SegL × Value)):List Value:=ps.flatMap fun x=>Yo x.1 x.2
theorem r7Cells_append (ps:List (SegL × Value)) (x:SegL × Value):Uq (ps++[x])=Uq ps++Yo x.1 x.2:=by simp [Uq]
theorem r7Cells_at:∀ {l:List (SegL × Value)} {i:Nat} {s:SegL × Value},l[i]?=some s->∀ f,f<6->(Uq l)[i*6+f]?=(Yo s.1 s.2)[f]?:=by
 intro l
 induction l with
 | nil=>intro i s h;simp at h
 | cons x l ih =>
  intro i s h f hf
  cases i with
  | zero =>
   simp at h
   subst h
   simp only [Uq,List.flatMap_cons]
   rw [List.getElem?_append_left (by simp [Yo];omega)]
   simp
  | succ i =>
   have h2:=ih (i:=i) (by simpa using h) f hf
   rw [<- h2]
   simp only [Uq,List.flatMap_cons]
   rw [List.getElem?_append_right (by simp [Yo];omega)]
   congr 1
   simp [Yo]
   omega
theorem r7Cells_length (l:List (SegL × Value)):(Uq l).length=l.length*6:=by
 induction l with
 | nil=>rfl
 | cons x l ih=>simp only [Uq,List.flatMap_cons,List.length_append,List.length_cons] at ih ⊢;rw [ih];simp [Yo];omega
structure R7At [bn:Inhabited Ban] (base:Nat) (w:World) (v:Value) (ps:List (SegL × Value)):Prop where
 recs:∀ x∈ps,Zp base w x.2 x.1.recs
 row:w.ownsRow base 282 6 v ps.length (Uq ps)
def R7 [bn:Inhabited Ban] (base:Nat) (w:World) (v:Value) (ss:List SegL):Prop:=∃ ps,ps.map (·.1)=ss/\R7At base w v ps
section
variable [bn:Inhabited Ban] {base:Nat} {w w':World} {v:Value} {ps:List (SegL × Value)}
theorem R7At.nil:R7At base w (.slice none 0 0) []:=⟨by simp,World.ownsRow_nil _ _ _ _⟩
theorem R7At.form (h:R7At base w v ps):∃ ao cap,v=.slice ao ps.length cap/\ps.length<=cap/\cap<=maxLen:=Kj h.row
theorem R7At.no (h:R7At base w v ps) (k:Keep No w w'):R7At base w' v ps:=⟨fun x hx=>(h.recs x hx).keep (Foot.no _ _) k (fun _ _ e=>e),Yu h.row k (fun _ _ e=>e)⟩
theorem R7.no {ss:List SegL} (h:R7 base w v ss) (k:Keep No w w'):R7 base w' v ss:=by
 obtain ⟨ps,h1,h2⟩:=h
 exact ⟨ps,h1,h2.no k⟩
theorem R7At.cell {ao:Option Addr} {n cap:Nat} (h:R7At base w (.slice ao n cap) ps) {i:Nat} {x:SegL × Value} (hi:ps[i]?=some x) :
  ∃ g,ao=some ⟨g,0,none⟩/\w.cell? ⟨g,i*6,none⟩=some (.int .u64 x.1.n)/\w.cell? ⟨g,i*6+1,none⟩=some (.bool x.1.headed)/\w.cell? ⟨g,i*6+2,none⟩=some (.int .u64 (if x.1.headed then (x.1.first:Int) else 0)) /\
   w.cell? ⟨g,i*6+3,none⟩=some x.2/\w.cell? ⟨g,i*6+4,none⟩=some (.bool (x.1.headed && !x.1.tail.isEmpty))/\w.cell? ⟨g,i*6+5,none⟩=some (.int .i64 x.1.bytes.length):=by
 obtain ⟨ao',cap',hq,_⟩:=h.form
 simp only [Value.slice.injEq] at hq
 obtain ⟨rfl,rfl,rfl⟩:=hq
 have hl:=r7Cells_length ps
 have c:=fun (f:Nat) (hf:f<6) (y:Value) (hx:(Yo x.1 x.2)[f]?=some y)=>Gy h.row (j:=i*6+f) (x:=y) (by rw [r7Cells_at hi f hf];exact hx) hl
 obtain ⟨g,rfl,c0⟩:=c 0 (by decide) _ rfl
 refine ⟨g,rfl,c0,?_,?_,?_,?_,?_⟩
 ·obtain ⟨_,e,h⟩:=c 1 (by decide) _ rfl;simp at e;subst e;exact h
 ·obtain ⟨_,e,h⟩:=c 2 (by decide) _ rfl;simp at e;subst e;exact h
 ·obtain ⟨_,e,h⟩:=c 3 (by decide) _ rfl;simp at e;subst e;exact h
 ·obtain ⟨_,e,h⟩:=c 4 (by decide) _ rfl;simp at e;subst e;exact h
 ·obtain ⟨_,e,h⟩:=c 5 (by decide) _ rfl;simp at e;subst e;exact h
end
theorem info_r7:(Tryz.prog.info? 282).map (fun i=>(i.zero,i.size,i.bytes))=some (some (.agg #[.int .u64 0,.bool false,.int .u64 0,.slice none 0 0,.bool false,.int .i64 0]),6,64):=by kernel_rfl
theorem wp_append_r7 [bn:Inhabited Ban] {base:Nat} {w:World} {o:Oper} {a:Act} {K:Act->World->Prop} {Q:Exit->Act->World->Prop} (s x:Operand)
  (ho:o.op=.call { callee:=.builtin .append,args:=#[s,x],argTypes:=#[236,236] }) {v:Value} {ps:List (SegL × Value)} (h:R7At base w v ps) (hs:a.eval s=v) {B:Nat} {c:SegL} {u:Value}
  (hu:Zp base w u c.recs) (hB:w.heap[B]?=some (.cells (Yo c u).toArray 282 (0,0)))
  (hx:a.eval x=.slice (some ⟨B,0,none⟩) 1 1) (hl:ps.length<=1099511627776) (hb:base<=w.heap.size)
  (hK:∀ v' w',R7At base w' v' (ps++[(c,u)])->Keep (fun b=>v.ownBlock=some b) w w'->(∀ b,v'.ownBlock=some b->v.ownBlock=some b\/w.heap.size<=b)->K (a.put o.dst v') w'):o.wp Tryz.prog a w K Q:=by
 obtain ⟨i0,hi0,hz0,hz1,hz2⟩:=info_parts info_r7
 obtain ⟨lo,lc,rfl,_,_⟩:=hu.form
 refine wp_append_lies w s x 236 ho base 282 i0 _ 6 64 Tryz.underlying236 hi0 hz0 hz1 hz2 rfl (by omega) v ps.length (Uq ps) hs h.row
  ⟨B,0,none⟩ 1 1 (Yo c (.slice lo c.recs.length lc)) hx rfl (World.news_of_block (cs:=(Yo c (.slice lo c.recs.length lc)).toArray) (t:=282) (fr:=(0,0)) hB) (by simp [Yo,Value.oneCell']) (by omega) (by unfold maxLen;omega) (by omega) hb w.heap.size rfl ?_
 intro g cap w' hown hg hat hlt
 have k:=Jr hg
 have hF:Foot base w (fun b=>v.ownBlock=some b):=fun b hb=>by
  obtain ⟨h1,cur,hz⟩:=Qa h.row b hb
  exact ⟨h1,Qt hz,fun cs fr e=>by rw [hz] at e;simp at e⟩
 have hkeep:∀ {u:Value} {rs:List Qs},Zp base w u rs->Zp base w' u rs:=fun {u rs} hr=>hr.keep hF k (fun b e1 e2=>by
  obtain ⟨us,_,_,hrr⟩:=hr
  obtain ⟨_,cur,hz⟩:=Qa hrr b e1
  obtain ⟨_,cur',hz'⟩:=Qa h.row b e2
  rw [hz] at hz';simp at hz')
 refine hK _ _ ⟨fun y hy=>?_,?_⟩ k (fun b hc=>?_)
 ·rcases List.mem_append.1 hy with hy | hy
  ·exact hkeep (h.recs y hy)
  ·simp at hy;subst hy;exact hkeep hu
 ·rw [r7Cells_append]
  simpa using hown
 ·simp [Value.ownBlock] at hc
  subst hc
  rcases hat with hat | rfl
  ·exact .inl hat
  ·exact .inr (Nat.le_refl _)
theorem wpList_append_r7 [bn:Inhabited Ban] {base:Nat} {w:World} {ops:Array Oper} {rest:List Oper} {o:Oper} {a:Act} {Q:Exit->Act->World->Prop} (hg:o.guard=none) (s x:Operand)
  (ho:o.op=.call { callee:=.builtin .append,args:=#[s,x],argTypes:=#[236,236] }) {v:Value} {ps:List (SegL × Value)} (h:R7At base w v ps) (hs:a.eval s=v) {B:Nat} {c:SegL} {u:Value}
  (hu:Zp base w u c.recs) (hB:w.heap[B]?=some (.cells (Yo c u).toArray 282 (0,0)))
  (hx:a.eval x=.slice (some ⟨B,0,none⟩) 1 1) (hl:ps.length<=1099511627776) (hb:base<=w.heap.size)
  (hK:∀ v' w',R7At base w' v' (ps++[(c,u)])->Keep (fun b=>v.ownBlock=some b) w w'->(∀ b,v'.ownBlock=some b->v.ownBlock=some b\/w.heap.size<=b)->wpList Tryz.prog ops Q rest (a.put o.dst v') w'):wpList Tryz.prog ops Q (o :: rest) a w :=
 wpList_plain hg fun _ hK'=>wp_append_r7 s x ho h hs hu hB hx hl hb fun v' w' h1 h2 h3=>hK' _ _ (hK v' w' h1 h2 h3)
def ReadR [bn:Inhabited Ban] (base:Nat) (w:World) (ss:List SegL) (sv:Value) (ov nv iv:Value) (wr:World):Prop :=
 ∃ (j:Nat) (ps:List (SegL × Value)),j<=ss.length/\iv=.int .i64 j/\nv=.int .u64 (Zz 0 (ss.take j):Nat)/\ps.map (·.1)=ss.take j/\R7At base wr ov ps/\(∀ b,ov.ownBlock=some b->w.heap.size<=b)/\Keep No w wr/\Ze base wr sv (segMap ss)
structure Hs (ss:List SegL):Prop where
 ok:∀ s∈ss,s.Ok
 chain:∀ (i:Nat) s,ss[i]?=some s->s.headed=true->Zz 0 (ss.take i)=0\/s.first=Zz 0 (ss.take i)
 few:ss.length<=10000
 recs:(Qw ss).length<=1000000
 sum:msum (segMap ss)<=1099511627776
theorem rRead_spec [bn:Inhabited Ban] {base:Nat} {w:World} {q:Nat} {lv:Value} {x:Qn} {ss:List SegL} (h:Zs base w q lv x) (hb:base<=w.heap.size) (hT:ban.top<=w.heap.size) (hl:x.l.length<=1000) (hs:wsum x.l<=1099511627776)
  (hm:segs6 x.l=segMap ss) (ho:Hs ss) :
  Calls Tryz.prog 125 #[.pointer (some ⟨q,0,none⟩)] w fun e w'=>∃ v,e=.returned (.tuple #[v,.int .i64 0])/\R7 base w' v ss/\(∀ b,v.ownBlock=some b->w.heap.size<=b)/\Keep No w w':=by
 have hsg:=segs_spec h.calls hb hl hs
 rw [hm] at hsg
 have d2:=Qq h.blk 2
 simp at d2
 have HH:=Lib.hid (A3 hb hT ho)
 clear h hb hT hl hs hm ho
 go_enter Tryz.func125,Tryz.ntmps125
 go_upto_block 0 with (go_at_call 80;refine hsg.mono ?_;rintro e w1 ⟨sv,rfl,hS,k1,_⟩;obtain ⟨so,sc,rfl,hsc,hsm⟩:=hS.form)
 have hlen:(segMap ss).length=ss.length:=by unfold segMap;simp
 rw [hlen] at hS ⊢
 have hst:ReadR base w ss (.slice so ss.length sc) (.slice none 0 0) (.int .u64 0) (.int .i64 0) w1:=⟨0,[],Nat.zero_le _,rfl,rfl,rfl,R7At.nil,by simp [Value.ownBlock],k1,hS⟩
 have hsl:ss.length<=10000:=HH.out.2.2.few
 have hsi:(ss.length:Int)<=1099511627776:=by omega
 have HSL:=Lib.hid hsl
 clear hsg hS k1 hsc hsm hlen hsl
 go_wp2_with fail
 go_loopw [4,5,16] (fun ov nv iv wr=>ReadR base w ss (.slice so ss.length sc) ov nv iv wr) (fun _ _ iv _=>ss.length - (intOf iv).toNat)
 case atStart=>exact hst
 case round =>
  clear hst
  obtain ⟨j,ps,hj,rfl,rfl,hps,hR,hO,hK,hS⟩:=hrel
  by_cases hlt:j<ss.length
  ·have hsj:ss[j]?=some ss[j]:=List.getElem?_eq_getElem hlt
   have hchain:=HH.out.2.2.chain j _ hsj
   have hok:=HH.out.2.2.ok _ (List.getElem_mem hlt)
   have htk:ss.take (j+1)=ss.take j++[ss[j]]:=by rw [List.take_add_one,hsj];rfl
   have hnx:Zz 0 (ss.take (j+1))=if ss[j].headed then ss[j].first+ss[j].recs.length else Zz 0 (ss.take j):=by rw [htk,Ky];rfl
   have hmj:(segMap ss)[j]?=some (ss[j].n,ss[j].bytes):=by unfold segMap;rw [List.getElem?_map,hsj];rfl
   have hrl:ss[j].recs.length<=1000000:=by
    have h1:=HH.out.2.2.recs
    have h2:ss[j].recs∈ss.map (·.recs):=List.mem_map.2 ⟨_,List.getElem_mem hlt,rfl⟩
    obtain ⟨a,b,e⟩:=List.append_of_mem h2
    unfold Qw at h1
    rw [e] at h1
    simp at h1
    omega
   have hz:=msum_mem hmj
   have hz2:=HH.out.2.2.sum
   generalize ss[j]=s at *
   obtain ⟨g,rfl,_,hcs⟩:=hS.cells (by unfold segMap;simp;omega)
   obtain ⟨u,hu,s0,s1⟩:=hcs j _ hmj
   obtain ⟨uo,uc,rfl⟩:=hu.form
   dsimp only at s0 s1 hu
   have hone:=fun (w':World) (k:Keep No wr w')=>rone_spec (hu.no k) hok (Nat.le_trans HH.out.1 (hK.then k).size) (Nat.le_trans HH.out.2.1 (hK.then k).size) hrl (by dsimp only at hz;omega)
   obtain ⟨tb,htb⟩:∃ tb,(s.headed && !s.tail.isEmpty)=tb:=⟨_,rfl⟩
   have hpl:ps.length=j:=by have:=congrArg List.length hps;rw [List.length_map,List.length_take] at this;omega
   have hji:(j:Int)<(ss.length:Int):=by omega
   obtain ⟨nx,hnxe⟩:∃ nx,Zz 0 (ss.take j)=nx:=⟨_,rfl⟩
   rw [hnxe] at hnx hchain ⊢
   have HC:=Lib.hid (A6 hps htk hnx hpl hlt hnxe)
   have HR:=Lib.hid (A4 hR hO hK hS)
   clear hps htk hnx hpl hlt hnxe hsj hmj hz hz2 hcs hj
   cases hd:s.headed with
   | false =>
    clear hrl
    have hc:∀ lv,(Yo s lv).toArray=#[.int .u64 s.n,.bool false,.int .u64 0,lv,.bool tb,.int .i64 s.bytes.length]:=by intro lv;unfold Yo;rw [htb,hd];rfl
    have kA:Keep No wr (wr.alloc (.cells #[.int .u64 s.n,.slice uo s.bytes.length uc] 182)):=(Keep.refl _ _).alloc _
    have hone1:=hone _ kA
    obtain ⟨oo,oc,rfl,_,_⟩:=HR.out.1.form
    clear hone
    go_upto_region 7 with (go_at_call 175;refine hone1.mono ?_;rintro e w2 ⟨lv,he,hLr,hLo,k2⟩;obtain ⟨lo,lc,rfl,_,_⟩:=hLr.form;rw [hc] at he;subst he)
    have k3:Keep No wr ((w2.alloc (.cells #[.int .u64 s.n,.bool false,.int .u64 0,.slice lo s.recs.length lc,.bool tb,.int .i64 s.bytes.length] 282)).alloc (.cells #[.int .u64 s.n,.bool false,.int .u64 0,.slice lo s.recs.length lc,.bool tb,.int .i64 s.bytes.length] 282)):=((kA.then k2).alloc _).alloc _
    have hR3:=HR.out.1.no k3
    have hL3:=hLr.keep (Foot.no _ _) (((Keep.refl No w2).alloc (.cells #[.int .u64 s.n,.bool false,.int .u64 0,.slice lo s.recs.length lc,.bool tb,.int .i64 s.bytes.length] 282)).alloc (.cells #[.int .u64 s.n,.bool false,.int .u64 0,.slice lo s.recs.length lc,.bool tb,.int .i64 s.bytes.length] 282)) (fun _ _ e=>e)
    have hB3:((w2.alloc (.cells #[.int .u64 s.n,.bool false,.int .u64 0,.slice lo s.recs.length lc,.bool tb,.int .i64 s.bytes.length] 282)).alloc (.cells #[.int .u64 s.n,.bool false,.int .u64 0,.slice lo s.recs.length lc,.bool tb,.int .i64 s.bytes.length] 282)).heap[w2.heap.size+1]?=some (.cells (Yo s (.slice lo s.recs.length lc)).toArray 282 (0,0)):=by
     rw [hc]
     have hq:=Qy (w2.alloc (.cells #[.int .u64 s.n,.bool false,.int .u64 0,.slice lo s.recs.length lc,.bool tb,.int .i64 s.bytes.length] 282)) (.cells #[.int .u64 s.n,.bool false,.int .u64 0,.slice lo s.recs.length lc,.bool tb,.int .i64 s.bytes.length] 282)
     simp only [World.size_alloc] at hq
     exact hq
    have hpl3:ps.length<=1099511627776:=by have h1:=HC.out.2.2.2.1;have h2:=HC.out.2.2.2.2.1;have h3:=HSL.out;omega
    have hbs:=Nat.le_trans HH.out.1 (HR.out.2.2.1.then k3).size
    have H3:=Lib.hid (A6 k3 hR3 hL3 hB3 hpl3 hbs)
    clear k3 hR3 hL3 hB3 hpl3 hbs hLr hLo hone1 kA k2
    go_wp2_with (at_builtin;refine wpList_append_r7 rfl _ _ rfl H3.out.2.1 rfl H3.out.2.2.1 H3.out.2.2.2.1 rfl H3.out.2.2.2.2.1 H3.out.2.2.2.2.2 ?_;intro v9 w9 hR9 k9 o9)
    have hszk:=H3.out.1.size
    have hszw:=HR.out.2.2.1.size
    have hF3:Foot base _ (fun b=>(Value.slice oo ps.length oc).ownBlock=some b):=fun b hb=>by
     obtain ⟨h1,cur,hz⟩:=Qa H3.out.2.1.row b hb
     exact ⟨h1,Qt hz,fun cs fr e=>by rw [hz] at e;simp at e⟩
    go_roundw
    case rel =>
     refine ⟨j+1,ps++[(s,_)],HC.out.2.2.2.2.1,by go_num,by rw [HC.out.2.2.1,hd];rfl,by rw [List.map_append,HC.out.1,HC.out.2.1];rfl,hR9,fun b hb=>?_,?_,?_⟩
     ·rcases o9 b hb with h | h
      ·exact HR.out.2.1 b h
      ·exact Nat.le_trans hszw (Nat.le_trans hszk h)
     ·exact (HR.out.2.2.1.then H3.out.1).absorb k9 (fun b e=>HR.out.2.1 b e)
     ·refine (HR.out.2.2.2.no H3.out.1).keep hF3 k9 (fun b e1 e2=>?_)
      obtain ⟨_,cur,hz⟩:=(HR.out.2.2.2.no H3.out.1).kind b e1
      obtain ⟨_,cur',hz'⟩:=Qa H3.out.2.1.row b e2
      rw [hz] at hz';simp at hz'
    case measure =>
     have:=HC.out.2.2.2.2.1
     simp [intOf]
     omega
   | true =>
    have hc:∀ lv,(Yo s lv).toArray=#[.int .u64 s.n,.bool true,.int .u64 s.first,lv,.bool tb,.int .i64 s.bytes.length]:=by intro lv;unfold Yo;rw [htb,hd];rfl
    obtain ⟨hf1,hf2,_,_⟩:=hok.head hd
    have hi1:decide ((s.first:Int)<1)=false:=decide_eq_false (by omega)
    have hi2:decide ((4611686018427387904:Int)<=(s.first:Int))=false:=decide_eq_false (by omega)
    have hi3:decide ((0:Int)<(s.first:Int))=true:=decide_eq_true (by omega)
    have hi4:decide (0<s.first)=true:=decide_eq_true (by omega)
    have hw1:IntKind.u64.wrap (s.recs.length:Int)=(s.recs.length:Int):=by rw [IntKind.wrap_u64];omega
    have hw2:IntKind.u64.wrap ((s.first:Int)+(s.recs.length:Int))=((s.first+s.recs.length:Nat):Int):=by rw [IntKind.wrap_u64];omega
    have hch:=hchain hd
    clear hf1 hf2 hchain hrl hok
    rcases hch with rfl | rfl
    all_goals
     have kA:Keep No wr (wr.alloc (.cells #[.int .u64 s.n,.slice uo s.bytes.length uc] 182)):=(Keep.refl _ _).alloc _
     have hone1:=hone _ kA
     obtain ⟨oo,oc,rfl,_,_⟩:=HR.out.1.form
     clear hone
     go_upto_region 7 with (go_at_call 175;refine hone1.mono ?_;rintro e w2 ⟨lv,he,hLr,hLo,k2⟩;obtain ⟨lo,lc,rfl,_,_⟩:=hLr.form;rw [hc] at he;subst he)
     have k3:Keep No wr ((w2.alloc (.cells #[.int .u64 s.n,.bool true,.int .u64 s.first,.slice lo s.recs.length lc,.bool tb,.int .i64 s.bytes.length] 282)).alloc (.cells #[.int .u64 s.n,.bool true,.int .u64 s.first,.slice lo s.recs.length lc,.bool tb,.int .i64 s.bytes.length] 282)):=((kA.then k2).alloc _).alloc _
     have hR3:=HR.out.1.no k3
     have hL3:=hLr.keep (Foot.no _ _) (((Keep.refl No w2).alloc (.cells #[.int .u64 s.n,.bool true,.int .u64 s.first,.slice lo s.recs.length lc,.bool tb,.int .i64 s.bytes.length] 282)).alloc (.cells #[.int .u64 s.n,.bool true,.int .u64 s.first,.slice lo s.recs.length lc,.bool tb,.int .i64 s.bytes.length] 282)) (fun _ _ e=>e)
     have hB3:((w2.alloc (.cells #[.int .u64 s.n,.bool true,.int .u64 s.first,.slice lo s.recs.length lc,.bool tb,.int .i64 s.bytes.length] 282)).alloc (.cells #[.int .u64 s.n,.bool true,.int .u64 s.first,.slice lo s.recs.length lc,.bool tb,.int .i64 s.bytes.length] 282)).heap[w2.heap.size+1]?=some (.cells (Yo s (.slice lo s.recs.length lc)).toArray 282 (0,0)):=by
      rw [hc]
      have hq:=Qy (w2.alloc (.cells #[.int .u64 s.n,.bool true,.int .u64 s.first,.slice lo s.recs.length lc,.bool tb,.int .i64 s.bytes.length] 282)) (.cells #[.int .u64 s.n,.bool true,.int .u64 s.first,.slice lo s.recs.length lc,.bool tb,.int .i64 s.bytes.length] 282)
      simp only [World.size_alloc] at hq
      exact hq
     have hpl3:ps.length<=1099511627776:=by have h1:=HC.out.2.2.2.1;have h2:=HC.out.2.2.2.2.1;have h3:=HSL.out;omega
     have hbs:=Nat.le_trans HH.out.1 (HR.out.2.2.1.then k3).size
     have H3:=Lib.hid (A6 k3 hR3 hL3 hB3 hpl3 hbs)
     clear k3 hR3 hL3 hB3 hpl3 hbs hLr hLo hone1 kA k2
     go_wp2_with (at_builtin;refine wpList_append_r7 rfl _ _ rfl H3.out.2.1 rfl H3.out.2.2.1 H3.out.2.2.2.1 rfl H3.out.2.2.2.2.1 H3.out.2.2.2.2.2 ?_;intro v9 w9 hR9 k9 o9)
     have hszk:=H3.out.1.size
     have hszw:=HR.out.2.2.1.size
     have hF3:Foot base _ (fun b=>(Value.slice oo ps.length oc).ownBlock=some b):=fun b hb=>by
      obtain ⟨h1,cur,hz⟩:=Qa H3.out.2.1.row b hb
      exact ⟨h1,Qt hz,fun cs fr e=>by rw [hz] at e;simp at e⟩
     go_roundw
     case rel =>
      refine ⟨j+1,ps++[(s,_)],HC.out.2.2.2.2.1,by go_num,by rw [HC.out.2.2.1,hd];rfl,by rw [List.map_append,HC.out.1,HC.out.2.1];rfl,hR9,fun b hb=>?_,?_,?_⟩
      ·rcases o9 b hb with h | h
       ·exact HR.out.2.1 b h
       ·exact Nat.le_trans hszw (Nat.le_trans hszk h)
      ·exact (HR.out.2.2.1.then H3.out.1).absorb k9 (fun b e=>HR.out.2.1 b e)
      ·refine (HR.out.2.2.2.no H3.out.1).keep hF3 k9 (fun b e1 e2=>?_)
       obtain ⟨_,cur,hz⟩:=(HR.out.2.2.2.no H3.out.1).kind b e1
       obtain ⟨_,cur',hz'⟩:=Qa H3.out.2.1.row b e2
       rw [hz] at hz';simp at hz'
     case measure =>
      have:=HC.out.2.2.2.2.1
      simp [intOf]
      omega
  ·obtain rfl:j=ss.length:=by omega
   rw [List.take_length] at *
   have HR:=Lib.hid (A4 hps hR hO hK)
   have hji:¬((ss.length:Int)<(ss.length:Int)):=by omega
   clear hps hR hO hK hlt hj hS
   go_wp2
   go_ret2
   exact ⟨_,rfl,⟨ps,HR.out.1,HR.out.2.1⟩,HR.out.2.2.1,HR.out.2.2.2⟩
theorem rNext_spec [bn:Inhabited Ban] {base:Nat} {w:World} {v:Value} {ss:List SegL} (h:R7 base w v ss) (ho:Hs ss) :
  Calls Tryz.prog 150 #[v] w fun e w'=>e=.returned (.int .u64 (max (Zz 0 ss) 1:Nat))/\Keep No w w':=by
 obtain ⟨ps,hps,hR⟩:=h
 obtain ⟨ao,cap,rfl,_,_⟩:=hR.form
 have hpl:ps.length=ss.length:=by rw [<- hps,List.length_map]
 rw [hpl] at hR ⊢
 have hsl:=ho.few
 have hsi:(ss.length:Int)<=1099511627776:=by omega
 have HH:=Lib.hid (A4 hps ho hpl hR)
 clear hps ho hpl hR hsl
 go_enter Tryz.func150,Tryz.ntmps150
 go_wp2_with fail
 go_loopw [3,8] (fun nv iv wr=>∃ j:Nat,j<=ss.length/\iv=.int .i64 j/\nv=.int .u64 (max (Zz 0 (ss.take j)) 1:Nat)/\Keep No w wr) (fun _ iv _=>ss.length - (intOf iv).toNat)
 case atStart=>exact ⟨0,Nat.zero_le _,rfl,rfl,Keep.refl _ _⟩
 case round =>
  obtain ⟨j,hj,rfl,rfl,hK⟩:=hrel
  by_cases hlt:j<ss.length
  ·have hsj:ss[j]?=some ss[j]:=List.getElem?_eq_getElem hlt
   have hpj:∃ u,ps[j]?=some (ss[j],u):=by
    have h1:j<ps.length:=by rw [HH.out.2.2.1];exact hlt
    have h2:(ps.map (·.1))[j]?=some ss[j]:=by rw [HH.out.1];exact hsj
    rw [List.getElem?_map,List.getElem?_eq_getElem h1] at h2
    simp only [Option.map_some,Option.some.injEq] at h2
    refine ⟨ps[j].2,?_⟩
    rw [List.getElem?_eq_getElem h1]
    exact congrArg some (Prod.ext h2 rfl)
   obtain ⟨u,hpj⟩:=hpj
   have htk:ss.take (j+1)=ss.take j++[ss[j]]:=by rw [List.take_add_one,hsj];rfl
   have hnx:Zz 0 (ss.take (j+1))=if ss[j].headed then ss[j].first+ss[j].recs.length else Zz 0 (ss.take j):=by rw [htk,Ky];rfl
   have hrl:ss[j].recs.length<=1000000:=by
    have h1:=HH.out.2.1.recs
    have h2:ss[j].recs∈ss.map (·.recs):=List.mem_map.2 ⟨_,List.getElem_mem hlt,rfl⟩
    obtain ⟨a,b,e⟩:=List.append_of_mem h2
    unfold Qw at h1
    rw [e] at h1
    simp at h1
    omega
   have hok:=HH.out.2.1.ok _ (List.getElem_mem hlt)
   generalize ss[j]=s at *
   have hRr:=HH.out.2.2.2.no hK
   have hlu:=hRr.recs _ (List.mem_of_getElem? hpj)
   dsimp only at hlu
   obtain ⟨lo,lc,rfl,_,_⟩:=hlu.form
   obtain ⟨g,rfl,c0,c1,c2,c3,c4,c5⟩:=hRr.cell hpj
   dsimp only at c0 c1 c2 c3 c4 c5
   have hji:(j:Int)<(ss.length:Int):=by omega
   have HC:=Lib.hid (A3 hnx hlt hK)
   generalize (s.headed && !s.tail.isEmpty)=tb at *
   generalize s.bytes.length=bl at *
   clear hnx hlt hK htk hpj hsj hRr hlu hj
   cases hd:s.headed with
   | false =>
    rw [hd] at c1 c2
    simp only [Bool.false_eq_true,if_false] at c2
    clear hok hrl
    go_wp2
    go_roundw
    case rel=>exact ⟨j+1,HC.out.2.1,by go_num,by rw [HC.out.1,hd];rfl,HC.out.2.2.alloc _⟩
    case measure=>have:=HC.out.2.1;simp [intOf];omega
   | true =>
    rw [hd] at c1 c2
    simp only [if_true] at c2
    obtain ⟨hf1,hf2,_,_⟩:=hok.head hd
    have hw1:IntKind.u64.wrap (s.recs.length:Int)=(s.recs.length:Int):=by rw [IntKind.wrap_u64];omega
    have hw2:IntKind.u64.wrap ((s.first:Int)+(s.recs.length:Int))=((s.first+s.recs.length:Nat):Int):=by rw [IntKind.wrap_u64];omega
    have HM:=Lib.hid hf1
    clear hf1 hf2 hok hrl
    go_wp2
    go_roundw
    case rel=>exact ⟨j+1,HC.out.2.1,by go_num,by rw [HC.out.1,hd];have:=HM.out;simp only [if_true];rw [Nat.max_eq_left (by omega)];go_num,HC.out.2.2.alloc _⟩
    case measure=>have:=HC.out.2.1;simp [intOf];omega
  ·obtain rfl:j=ss.length:=by omega
   rw [List.take_length] at *
   have hji:¬((ss.length:Int)<(ss.length:Int)):=by omega
   clear hlt hj
   go_wp2
   go_ret
   exact ⟨rfl,hK⟩
theorem R7At.at {ps:List (SegL × Value)} {ss:List SegL} (hps:ps.map (·.1)=ss) {j:Nat} {s:SegL} (hs:ss[j]?=some s):∃ u,ps[j]?=some (s,u):=by
 subst hps
 rw [List.getElem?_map] at hs
 cases h:ps[j]? with
 | none=>rw [h] at hs;cases hs
 | some x=>rw [h] at hs;exact ⟨x.2,by simp at hs;rw [<- hs]⟩
def Hi (size:Int) (ss:List SegL):Bool:=Jk (logD size ss) (Ke (logD size ss))
theorem freshD_nil (size:Int):Hi size []=true:=rfl
theorem freshD_last (size:Int) (ini:List SegL) (s:SegL):Hi size (ini++[s])=(!s.headed || ((s.headed && !s.tail.isEmpty) || decide (size<=(s.bytes.length:Int)))):=by
 unfold Hi Jk Ke
 rw [Uc]
 show (!s.headed || (!(s.headed && s.tail.isEmpty) || decide (size<=(s.bytes.length:Int))))=_
 cases s.headed <;> simp
theorem rbegins_spec [bn:Inhabited Ban] {base:Nat} {w:World} {v:Value} {ss:List SegL} (h:R7 base w v ss) (hfew:ss.length<=10000) (size:Int) (hn:∀ s∈ss,0<=s.n/\s.n<=1000000) :
  Calls Tryz.prog 148 #[v,.int .i64 size] w fun e w'=>e=.returned (.tuple #[.bool (Hi size ss),.int .u64 (appS (logD size ss)).n])/\Keep No w w':=by
 obtain ⟨ps,hps,hR⟩:=h
 obtain ⟨ao,cap,rfl,_,_⟩:=hR.form
 have hpl:ps.length=ss.length:=by rw [<- hps,List.length_map]
 rw [hpl] at hR ⊢
 rcases List.eq_nil_or_concat ss with rfl | ⟨ini,s,rfl⟩
 ·rw [freshD_nil,show (appS (logD size [])).n=1 from rfl]
  clear hps hR hpl hn hfew
  go_enter Tryz.func148,Tryz.ntmps148
  go_wp2
  go_ret2
  exact ⟨rfl,Keep.refl _ _⟩
 ·rw [List.concat_eq_append] at *
  obtain ⟨u,hpj⟩:=R7At.at hps (j:=ini.length) (s:=s) (by simp)
  have hlu:=hR.recs _ (List.mem_of_getElem? hpj)
  dsimp only at hlu
  obtain ⟨lo,lc,rfl,_,_⟩:=hlu.form
  clear hlu
  obtain ⟨g,rfl,c0,c1,c2,c3,c4,c5⟩:=hR.cell hpj
  dsimp only at c0 c1 c2 c3 c4 c5
  have hfr:=freshD_last size ini s
  have hap:(appS (logD size (ini++[s]))).n=if Hi size (ini++[s]) then s.n+1 else s.n:=by
   unfold appS Hi Xh
   rw [Uc]
   cases Jk (logD size (ini++[s])) (Ke (logD size (ini++[s]))) <;> rfl
  rw [hap,hfr]
  have hlen:(ini++[s]).length=ini.length+1:=by simp
  have hsn:=hn s (by simp)
  rw [hlen] at hfew ⊢
  generalize ini.length=k at *
  have hk1:IntKind.i64.wrap ((k:Int)+1 - 1)=(k:Int):=by rw [show ((k:Int)+1 - 1)=(k:Int) by omega];exact IntWalk.i64_in _ (by omega)
  have hki:(k:Int)<=1099511627776:=by omega
  have hkn:¬((k:Int)+1=0):=by omega
  have hw1:IntKind.u64.wrap (s.n+1)=s.n+1:=by rw [IntKind.wrap_u64];omega
  clear hfr hap hlen hn hps hR hpl hpj hfew hsn
  generalize (if s.headed=true then (s.first:Int) else 0)=fi at *
  generalize s.headed=hd at *
  generalize s.tail.isEmpty=te at *
  generalize s.bytes.length=bl at *
  generalize s.n=sn at *
  generalize s.recs.length=rl at *
  have hx0:∀ v1 v2 v3 v4 v5,(w.alloc (.cells #[.int .u64 sn,v1,v2,v3,v4,v5] 282)).cell? ⟨w.heap.size,0,none⟩=some (.int .u64 sn):=fun v1 v2 v3 v4 v5=>by rw [Qq (Qy w _) 0];rfl
  by_cases hb:size<=(bl:Int)
  ·have hbd:decide (size<=(bl:Int))=true:=decide_eq_true hb
   rw [hbd]
   cases hd <;> cases te
   all_goals
    simp only [Bool.not_true,Bool.not_false,Bool.and_true,Bool.and_false,Bool.or_true,if_true] at c4 ⊢
    go_enter Tryz.func148,Tryz.ntmps148
    go_wp2_with fail
    refine Ql (fun w'=>Keep No w w'/\w'.cell? ⟨w.heap.size,0,none⟩=some (.int .u64 sn)) [0,1,2,3,4] [] [] (by kernel_rfl) (by kernel_rfl) (fun _ _ _ _ _ h=>h) ⟨((Keep.refl _ _).alloc _).drew,(Keep.refl No _).drew.cell (hx0 _ _ _ _ _) (fun e=>e)⟩ ?_
    iterate 5 (refine Qk (v:=?_) rfl rfl rfl ?_ ?_;rotate_left;focus (
     intro w' hq
     have c0':=hq.2
     go_simp
     try with_reducible rfl))
    refine Qj ?_
    refine Qh (Qm ?_)
    go_wp2
    go_ret2
    exact ⟨rfl,((Keep.refl _ _).alloc _).drew⟩
  ·have hbd:decide (size<=(bl:Int))=false:=decide_eq_false hb
   rw [hbd]
   cases hd <;> cases te
   case true.true =>
    simp only [Bool.not_true,Bool.and_false,Bool.or_false,Bool.false_eq_true,if_false] at c4 ⊢
    go_enter Tryz.func148,Tryz.ntmps148
    go_wp2_with fail
    refine Ql (fun w'=>Keep No w w'/\w'.cell? ⟨w.heap.size,0,none⟩=some (.int .u64 sn)) [0,1,2,3] [] [] (by kernel_rfl) (by kernel_rfl) (fun _ _ _ _ _ h=>h) ⟨((Keep.refl _ _).alloc _).drew,(Keep.refl No _).drew.cell (hx0 _ _ _ _ _) (fun e=>e)⟩ ?_
    iterate 4 (refine Qk (v:=?_) rfl rfl rfl ?_ ?_;rotate_left;focus (
     intro w' hq
     have c0':=hq.2
     go_simp
     try with_reducible rfl))
    refine Qj ?_
    refine Qh (Qm ?_)
    go_wp2
    go_ret2
    exact ⟨rfl,((Keep.refl _ _).alloc _).drew⟩
   all_goals
    simp only [Bool.not_true,Bool.not_false,Bool.and_true,Bool.and_false,Bool.or_true,Bool.or_false,if_true] at c4 ⊢
    go_enter Tryz.func148,Tryz.ntmps148
    go_wp2_with fail
    refine Ql (fun w'=>Keep No w w'/\w'.cell? ⟨w.heap.size,0,none⟩=some (.int .u64 sn)) [0,1,2,3,4] [] [] (by kernel_rfl) (by kernel_rfl) (fun _ _ _ _ _ h=>h) ⟨((Keep.refl _ _).alloc _).drew,(Keep.refl No _).drew.cell (hx0 _ _ _ _ _) (fun e=>e)⟩ ?_
    iterate 5 (refine Qk (v:=?_) rfl rfl rfl ?_ ?_;rotate_left;focus (
     intro w' hq
     have c0':=hq.2
     go_simp
     try with_reducible rfl))
    refine Qj ?_
    refine Qh (Qm ?_)
    go_wp2
    go_ret2
    exact ⟨rfl,((Keep.refl _ _).alloc _).drew⟩
theorem R7.byX [bn:Inhabited Ban] {base:Nat} {w w':World} {q:Nat} {v lv:Value} {ss:List SegL} {x:Qn} (h:R7 base w v ss) (hx:Zs base w q lv x) (k0:Keep (·=q) w w'):R7 base w' v ss:=by
 have k:Keep (fun b=>b=q\/lv.ownBlock=some b) w w':=k0.mono (fun _ _ e=>.inl e)
 obtain ⟨ps,h1,h2⟩:=h
 refine ⟨ps,h1,⟨fun y hy=>(h2.recs y hy).keep hx.foot k (fun b e1 e2=>?_),Yu h2.row k (fun b e1 e2=>?_)⟩⟩
 ·obtain ⟨us,_,_,hrr⟩:=h2.recs y hy
  obtain ⟨_,cur,hz⟩:=Qa hrr b e1
  obtain ⟨_,cs,t,hz',ht⟩:=hx.kind e2
  rw [hz] at hz';simp at hz';obtain ⟨_,rfl⟩:=hz';rcases ht with ht | ht <;> simp at ht
 ·obtain ⟨_,cur,hz⟩:=Qa h2.row b e1
  obtain ⟨_,cs,t,hz',ht⟩:=hx.kind e2
  rw [hz] at hz';simp at hz';obtain ⟨_,rfl⟩:=hz';rcases ht with ht | ht <;> simp at ht
def R7App [bn:Inhabited Ban] (base:Nat) (w:World) (q:Nat) (lv:Value) (next:Nat) (X:Qn × Int) (e:Ending) (w':World):Prop :=
 ∃ lv',e=.returned (.tuple #[.int .u64 (if X.2=0 then (next:Int) else 0),.int .i64 X.2])/\Zs base w' q lv' X.1/\Keep (·=q) w w'/\∀ b,lv'.ownBlock=some b->lv.ownBlock=some b\/w.heap.size<=b
theorem x_append_cases (x:Qn) (n:Int) (B:Qs):((x.append n B).1=x/\(x.append n B).2=5)\/(x.append n B).2=0:=by
 unfold Qn.append
 split
 ·exact .inl ⟨rfl,rfl⟩
 ·split
  ·exact .inl ⟨rfl,rfl⟩
  ·exact .inr rfl
theorem rAppend7_spec [bn:Inhabited Ban] {base:Nat} {w:World} {q:Nat} {lv pv:Value} {x:Qn} {ss:List SegL} {p:Qs} (h:Zs base w q lv x) (hb:base<=w.heap.size) (hT:ban.top<=w.heap.size) (hl:x.l.length<=1000) (hs:wsum x.l<=1099511627776)
  (hm:segs6 x.l=segMap ss) (ho:Hs ss) (hn:∀ s∈ss,0<=s.n/\s.n<=1000000) (size:Int) (hp:Qv base w pv p) (hpl:p.length<=1048576) (hnx:max (Zz 0 ss) 1<=4611686018427387904) :
  Calls Tryz.prog 96 #[.pointer (some ⟨q,0,none⟩),.int .i64 size,pv] w (R7App base w q lv (max (Zz 0 ss) 1) (x.append (appS (logD size ss)).n (appB (logD size ss) p))):=by
 obtain ⟨po,pc,rfl⟩:=hp.form
 have hpi:¬((1048576:Int)<(p.length:Int)):=by omega
 have hrd:=rRead_spec h hb hT hl hs hm ho
 have hrec:=fun (w':World) (k:Keep No w w')=>rRecord_spec (hp.no k) (Nat.le_trans hT k.size) (by omega)
 have hbeg:=fun (w':World) (v:Value) (h7:R7 base w' v ss)=>rbegins_spec h7 (by have:=ho.few;omega) size hn
 have hnext:=fun (w':World) (v:Value) (h7:R7 base w' v ss)=>rNext_spec h7 ho
 have happ:=fun (w':World) (u:Value) (B:Qs) (k:Keep No w w') (hu:Qv base w' u B) (hB:B.length<=1099511627776)=>rappend_spec (h.no k) (Nat.le_trans hb k.size) hl hs (appS (logD size ss)).n hu hB
 obtain ⟨fb,hfb⟩:∃ fb,Hi size ss=fb:=⟨_,rfl⟩
 rw [hfb] at hbeg
 have hB:appB (logD size ss) p=if fb then Xt (max (Zz 0 ss) 1)++recB p else recB p:=by
  unfold appB
  rw [show Jk (logD size ss) (Ke (logD size ss))=fb from hfb]
  rfl
 rw [hB]
 generalize (appS (logD size ss)).n=sn at *
 generalize max (Zz 0 ss) 1=nx at *
 have hhead:=fun (w':World) (k:Keep No w w')=>rHead_spec (w:=w') (Nat.le_trans hT k.size) nx (by omega)
 have HP:=Lib.hid (A5 h hp hpl hb hT)
 have HC:=Lib.hid (A6 hrd hrec hbeg hnext happ hhead)
 clear h hp hb hT hl hs hm ho hn hrd hrec hbeg hnext happ hhead hpl hfb hB hnx
 cases fb with
 | false =>
  simp only [Bool.false_eq_true,if_false]
  have hcase:=x_append_cases x sn (recB p)
  generalize hX:x.append sn (recB p)=X at hcase ⊢
  obtain ⟨x',c⟩:=X
  dsimp only at hcase
  have HX:=Lib.hid hX
  clear hX
  unfold R7App
  dsimp only
  rcases hcase with ⟨rfl,rfl⟩ | rfl
  all_goals
   go_enter Tryz.func96,Tryz.ntmps96
   go_upto_region 8 with (first
    | (go_at_call 148;refine (HC.out.2.2.1 _ _ h71).mono ?_;rintro e w3 ⟨rfl,k3⟩)
    | (go_at_call 147;refine (HC.out.2.1 _ k1).mono ?_;rintro e w2 ⟨v2,rfl,own2,k2⟩;have h71:=h7.no k2)
    | (go_at_call 125;refine HC.out.1.mono ?_;rintro e w1 ⟨v1,rfl,h7,_,k1⟩))
   have hb2:=own2.bytes (base:=base) (fun _=>Nat.le_trans HP.out.2.2.2.2 k1.size)
   have kk:=(k1.then k2).then k3
   have ha:=HC.out.2.2.2.2.1 _ _ _ kk (hb2.no k3) (by rw [Zl];have:=HP.out.2.2.1;omega)
   have h7k:=h71.no k3
   clear own2 hb2 h71 h7
   rw [HX.out] at ha
   dsimp only at ha
  ·go_wp2_with (go_at_call 151;refine ha.mono ?_;rintro e w7 ⟨rfl,lv',hx7,k7,o7⟩)
   go_ret2
   exact ⟨rfl,lv',hx7,kk.no.trans k7 (fun _ _ e=>e),fun b hb=>(o7 b hb).imp (fun h=>h) (fun h=>Nat.le_trans kk.size h)⟩
  ·go_upto_region 11 with (go_at_call 151;refine ha.mono ?_;rintro e w7 ⟨rfl,lv',hx7,k7,o7⟩)
   have h77:=h7k.byX (HP.out.1.no kk) k7
   go_wp2_with (go_at_call 150;refine (HC.out.2.2.2.1 _ _ h77).mono ?_;rintro e w8 ⟨rfl,k8⟩)
   go_ret2
   exact ⟨rfl,lv',hx7.no k8,(kk.no.trans k7 (fun _ _ e=>e)).then k8,fun b hb=>(o7 b hb).imp (fun h=>h) (fun h=>Nat.le_trans kk.size h)⟩
 | true =>
  simp only [if_true]
  have hcase:=x_append_cases x sn (Xt nx++recB p)
  generalize hX:x.append sn (Xt nx++recB p)=X at hcase ⊢
  obtain ⟨x',c⟩:=X
  dsimp only at hcase
  have HX:=Lib.hid hX
  clear hX
  unfold R7App
  dsimp only
  rcases hcase with ⟨rfl,rfl⟩ | rfl
  all_goals
   go_enter Tryz.func96,Tryz.ntmps96
   go_upto_region 8 with (first
    | (go_at_call 97;refine (Xv (Ko b5 b2k) (by rw [List.flatten_cons,List.flatten_cons,List.flatten_nil,List.append_nil,List.length_append,Zr,Zl];have:=HP.out.2.2.1;omega)).mono ?_;rintro e w6 ⟨v6,rfl,own6,k6⟩)
    | (go_at_call 149;refine (HC.out.2.2.2.2.2 _ (((k1.then k2).then k3).then k4)).mono ?_;rintro e w5 ⟨v5,rfl,own5,k5⟩;obtain ⟨o5,c5,rfl⟩:=own5.form;have b5:=own5.bytes (base:=base) (fun _=>Nat.le_trans HP.out.2.2.2.2 (((k1.then k2).then k3).then k4).size);have b2k:=b2.no ((k3.then k4).then k5))
    | (go_at_call 150;refine (HC.out.2.2.2.1 _ _ h72).mono ?_;rintro e w4 ⟨rfl,k4⟩)
    | (go_at_call 148;refine (HC.out.2.2.1 _ _ h71).mono ?_;rintro e w3 ⟨rfl,k3⟩;have h72:=h71.no k3)
    | (go_at_call 147;refine (HC.out.2.1 _ k1).mono ?_;rintro e w2 ⟨v2,rfl,own2,k2⟩;have h71:=h7.no k2;obtain ⟨o2,c2,rfl⟩:=own2.form;have b2:=own2.bytes (base:=base) (fun _=>Nat.le_trans HP.out.2.2.2.2 k1.size))
    | (go_at_call 125;refine HC.out.1.mono ?_;rintro e w1 ⟨v1,rfl,h7,_,k1⟩))
   have e6:[Xt nx,recB p].flatten=Xt nx++recB p:=by simp
   rw [e6] at own6
   have kA:=(Keep.refl No w5).alloc (.cells #[.slice o5 (Xt nx).length c5,.slice o2 (recB p).length c2] 59)
   have k05:=((((k1.then k2).then k3).then k4).then k5).then kA
   have kk:=k05.then k6
   have hb6:=own6.bytes (base:=base) (fun _=>Nat.le_trans HP.out.2.2.2.2 k05.size)
   have ha:=HC.out.2.2.2.2.1 _ _ _ kk hb6 (by rw [List.length_append,Zr,Zl];have:=HP.out.2.2.1;omega)
   have h7k:=h72.no (((k4.then k5).then kA).then k6)
   clear own6 own5 own2 b5 b2k b2 h71 h7 h72 hb6 e6 k05
   rw [HX.out] at ha
   dsimp only at ha
  ·go_wp2_with (go_at_call 151;refine ha.mono ?_;rintro e w7 ⟨rfl,lv',hx7,k7,o7⟩)
   go_ret2
   exact ⟨rfl,lv',hx7,kk.no.trans k7 (fun _ _ e=>e),fun b hb=>(o7 b hb).imp (fun h=>h) (fun h=>Nat.le_trans kk.size h)⟩
  ·go_upto_region 11 with (go_at_call 151;refine ha.mono ?_;rintro e w7 ⟨rfl,lv',hx7,k7,o7⟩)
   have h77:=h7k.byX (HP.out.1.no kk) k7
   go_wp2_with (go_at_call 150;refine (HC.out.2.2.2.1 _ _ h77).mono ?_;rintro e w8 ⟨rfl,k8⟩)
   go_ret2
   exact ⟨rfl,lv',hx7.no k8,(kk.no.trans k7 (fun _ _ e=>e)).then k8,fun b hb=>(o7 b hb).imp (fun h=>h) (fun h=>Nat.le_trans kk.size h)⟩
end Go.Proofs.YtfdmbomlkpkegaaGreat
