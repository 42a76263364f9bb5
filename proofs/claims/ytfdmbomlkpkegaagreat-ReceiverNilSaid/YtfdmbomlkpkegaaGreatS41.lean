/- Lemmas for ReceiverNil. -/
import Derived.Test.YtfdmbomlkpkegaaGreatS40
import Derived.ChangeKeysEq
import Derived.Test.YtfdmbomlkpkegaaGreatS33
set_option maxRecDepth 100000
set_option maxHeartbeats 8000000
set_option linter.all false
namespace Go.Proofs.YtfdmbomlkpkegaaGreat
open Go Go.RowKit Go.Dr Go.Shelf
def Sg (w:World) (B:Nat) (v:Value) (l:List FrmS):Prop :=
 ∃ xs:List (FrmS × Value),xs.map (·.1)=l/\(∀ x∈xs,Zy w x.2 x.1.runs)/\w.ownsRow B 69 9 v l.length (xs.flatMap fun x=>(x.1.cells x.2 (.slice none 0 0)).toList)
theorem Sg.nil (w:World) (B:Nat):Sg w B (.slice none 0 0) []:=⟨[],rfl,fun x hx=>by simp at hx,World.ownsRow_nil _ _ _ _⟩
theorem Sg.form {w:World} {B:Nat} {v:Value} {l:List FrmS} (h:Sg w B v l):∃ ao cap,v=.slice ao l.length cap/\l.length<=cap/\cap<=maxLen:=by
 obtain ⟨xs,_,_,h3⟩:=h
 exact Kj h3
theorem Sg.kind {w:World} {B:Nat} {v:Value} {l:List FrmS} (h:Sg w B v l):∀ b,v.ownBlock=some b->B<=b/\∃ cur,w.heap[b]?=some (.cells cur 69 (0,0)):=by
 obtain ⟨xs,_,_,h3⟩:=h
 exact Qa h3
theorem Sg.keep {w w':World} {B:Nat} {v:Value} {l:List FrmS} {F:Nat->Prop} (h:Sg w B v l) (hF:Zn w F) (k:Keep F w w') (hn:∀ b,v.ownBlock=some b->¬F b):Sg w' B v l:=by
 obtain ⟨xs,h1,h2,h3⟩:=h
 exact ⟨xs,h1,fun x hx=>(h2 x hx).keep hF k,Yu h3 k hn⟩
theorem Sg.no {w w':World} {B:Nat} {v:Value} {l:List FrmS} (h:Sg w B v l) (k:Keep No w w'):Sg w' B v l:=h.keep (Zn.no _) k (fun _ _ e=>e)
theorem info_frm:(Tryz.prog.info? 69).map (fun i=>(i.zero,i.size,i.bytes))=some (some (.agg #[.int .u8 0,.int .i64 0,.int .u64 0,.int .u64 0,.int .u64 0,.int .u64 0,.int .u64 0,.slice none 0 0,.slice none 0 0]),9,104):=by kernel_rfl
theorem wpList_append_frm {w:World} {B:Nat} {v:Value} {l:List FrmS} {ops:Array Oper} {rest:List Oper} {o:Oper} {a:Act} {Q:Exit->Act->World->Prop} (hg:o.guard=none) (s x:Operand) (ho:o.op=.call { callee:=.builtin .append,args:=#[s,x],argTypes:=#[75,75] }) (h:Sg w B v l) (hs:a.eval s=v) {D:Nat} {y:FrmS} {u:Value}
  (hD:w.heap[D]?=some (.cells (y.cells u (.slice none 0 0)) 69 (0,0))) (hx:a.eval x=.slice (some ⟨D,0,none⟩) 1 1) (hu:Zy w u y.runs) (hl:l.length<=1000) (hBw:B<=w.heap.size)
  (hK:∀ vo vc w',Sg w' B (.slice vo (l.length+1) vc) (l++[y])->Keep (fun b=>v.ownBlock=some b) w w'->wpList Tryz.prog ops Q rest (a.put o.dst (.slice vo (l.length+1) vc)) w'):wpList Tryz.prog ops Q (o :: rest) a w:=by
 have h0:=h
 obtain ⟨xs,h2,h3,h4⟩:=h
 obtain ⟨i0,hi0,hz0,hz1,hz2⟩:=info_parts info_frm
 obtain ⟨uo,uc,hue,_,_⟩:=hu.form
 refine wpList_plain hg fun K hK'=>?_
 refine wp_append_lies w s x 75 ho B 69 i0 _ 9 104 Tryz.underlying75 hi0 hz0 hz1 hz2 rfl (by decide) v l.length _ hs h4
  ⟨D,0,none⟩ 1 1 (y.cells u (.slice none 0 0)).toList hx (by simp [FrmS.cells]) (World.news_of_block hD) (fun q hq=>by
   rw [hue] at hq
   simp [FrmS.cells] at hq
   rcases hq with rfl | rfl | rfl | rfl | rfl | rfl | rfl | rfl | rfl <;> rfl) (by omega) (by unfold maxLen;omega) (by omega) hBw w.heap.size rfl ?_
 intro g cap w' hown hgr hat hlt
 have k:=Jr hgr
 have hF:Zn w (fun b=>v.ownBlock=some b):=fun b hb hr=>by
  obtain ⟨_,cur,hz⟩:=h0.kind b hb
  obtain ⟨cs,fr,e⟩:=hr
  rw [hz] at e
  simp at e
 refine hK' _ _ (hK _ _ _ ⟨xs++[(y,u)],by simp [h2],fun q hq=>?_,?_⟩ k)
 ·rcases List.mem_append.1 hq with hq | hq
  ·exact (h3 q hq).keep hF k
  ·rw [List.mem_singleton.1 hq];exact hu.keep hF k
 ·rw [List.flatMap_append,List.length_append]
  simpa using hown
def Tq (L:LedS) (o:List Nat) (a:Nat):FrmS:=⟨o.getD a 0,a,L.floor a,L.inc,0,(L.win a).low,(L.win a).low+(L.win a).width,(L.win a).set.take 32,[]⟩
def Sw (L:LedS) (o:List Nat) (k:Nat):List FrmS:=((List.range k).filter (fun a=>o.getD a 0 != 0)).map (Tq L o)
theorem ticks_succ (L:LedS) (o:List Nat) (k:Nat):Sw L o (k+1)=Sw L o k++(if o.getD k 0=0 then [] else [Tq L o k]):=by
 unfold Sw
 rw [List.range_succ,List.filter_append,List.map_append]
 congr 1
 by_cases h:o.getD k 0=0
 ·rw [if_pos h,List.filter_cons_of_neg (by simpa using h)]
  rfl
 ·rw [if_neg h,List.filter_cons_of_pos (by simpa using h)]
  rfl
theorem ticks_length (L:LedS) (o:List Nat) (k:Nat):(Sw L o k).length<=k:=by
 unfold Sw
 rw [List.length_map]
 exact Nat.le_trans (List.length_filter_le _ _) (by simp)
def Sc (w:World) (R:Nat):World:=((((((((((((((((w.setCell ⟨R,1,none⟩ (.int .u8 0)).setCell ⟨R,2,none⟩ (.int .u8 0)).setCell ⟨R,3,none⟩ (.int .u8 0)).setCell ⟨R,4,none⟩ (.int .u8 0)).setCell ⟨R,5,none⟩ (.int .u8 0)).setCell ⟨R,6,none⟩ (.int .u8 0)).setCell ⟨R,7,none⟩ (.int .u8 0)).setCell ⟨R,8,none⟩ (.int .u8 0)).setCell ⟨R,9,none⟩ (.int .u8 0)).setCell ⟨R,10,none⟩ (.int .u8 0)).setCell ⟨R,11,none⟩ (.int .u8 0)).setCell ⟨R,12,none⟩ (.int .u8 0)).setCell ⟨R,13,none⟩ (.int .u8 0)).setCell ⟨R,14,none⟩ (.int .u8 0)).setCell ⟨R,15,none⟩ (.int .u8 0)).setCell ⟨R,16,none⟩ (.int .u8 0))
theorem zeroOwes_blk {w:World} {R q:Nat} (h:w.heap[R]?=some (.cells (Sm q (2 :: List.replicate 15 0)) 193 (0,0))):(Sc w R).heap[R]?=some (.cells (Sm q (List.replicate 16 0)) 193 (0,0)):=by
 have h:w.heap[R]?=some (.cells #[.pointer (some ⟨q,0,none⟩),.int .u8 2,.int .u8 0,.int .u8 0,.int .u8 0,.int .u8 0,.int .u8 0,.int .u8 0,.int .u8 0,.int .u8 0,.int .u8 0,.int .u8 0,.int .u8 0,.int .u8 0,.int .u8 0,.int .u8 0,.int .u8 0] 193 (0,0)):=h
 have h1:=Qz (i:=1) (u:=.int .u8 0) h
 simp only [List.setIfInBounds_toArray,List.set_cons_zero,List.set_cons_succ] at h1
 have h2:=Qz (i:=2) (u:=.int .u8 0) h1
 simp only [List.setIfInBounds_toArray,List.set_cons_zero,List.set_cons_succ] at h2
 have h3:=Qz (i:=3) (u:=.int .u8 0) h2
 simp only [List.setIfInBounds_toArray,List.set_cons_zero,List.set_cons_succ] at h3
 have h4:=Qz (i:=4) (u:=.int .u8 0) h3
 simp only [List.setIfInBounds_toArray,List.set_cons_zero,List.set_cons_succ] at h4
 have h5:=Qz (i:=5) (u:=.int .u8 0) h4
 simp only [List.setIfInBounds_toArray,List.set_cons_zero,List.set_cons_succ] at h5
 have h6:=Qz (i:=6) (u:=.int .u8 0) h5
 simp only [List.setIfInBounds_toArray,List.set_cons_zero,List.set_cons_succ] at h6
 have h7:=Qz (i:=7) (u:=.int .u8 0) h6
 simp only [List.setIfInBounds_toArray,List.set_cons_zero,List.set_cons_succ] at h7
 have h8:=Qz (i:=8) (u:=.int .u8 0) h7
 simp only [List.setIfInBounds_toArray,List.set_cons_zero,List.set_cons_succ] at h8
 have h9:=Qz (i:=9) (u:=.int .u8 0) h8
 simp only [List.setIfInBounds_toArray,List.set_cons_zero,List.set_cons_succ] at h9
 have h10:=Qz (i:=10) (u:=.int .u8 0) h9
 simp only [List.setIfInBounds_toArray,List.set_cons_zero,List.set_cons_succ] at h10
 have h11:=Qz (i:=11) (u:=.int .u8 0) h10
 simp only [List.setIfInBounds_toArray,List.set_cons_zero,List.set_cons_succ] at h11
 have h12:=Qz (i:=12) (u:=.int .u8 0) h11
 simp only [List.setIfInBounds_toArray,List.set_cons_zero,List.set_cons_succ] at h12
 have h13:=Qz (i:=13) (u:=.int .u8 0) h12
 simp only [List.setIfInBounds_toArray,List.set_cons_zero,List.set_cons_succ] at h13
 have h14:=Qz (i:=14) (u:=.int .u8 0) h13
 simp only [List.setIfInBounds_toArray,List.set_cons_zero,List.set_cons_succ] at h14
 have h15:=Qz (i:=15) (u:=.int .u8 0) h14
 simp only [List.setIfInBounds_toArray,List.set_cons_zero,List.set_cons_succ] at h15
 have h16:=Qz (i:=16) (u:=.int .u8 0) h15
 simp only [List.setIfInBounds_toArray,List.set_cons_zero,List.set_cons_succ] at h16
 exact h16
theorem zeroOwes_keep (w:World) (R:Nat):Keep (·=R) w (Sc w R):=by
 unfold Sc
 exact (Keep.setCell (F:=(·=R)) (Keep.setCell (F:=(·=R)) (Keep.setCell (F:=(·=R)) (Keep.setCell (F:=(·=R)) (Keep.setCell (F:=(·=R)) (Keep.setCell (F:=(·=R)) (Keep.setCell (F:=(·=R)) (Keep.setCell (F:=(·=R)) (Keep.setCell (F:=(·=R)) (Keep.setCell (F:=(·=R)) (Keep.setCell (F:=(·=R)) (Keep.setCell (F:=(·=R)) (Keep.setCell (F:=(·=R)) (Keep.setCell (F:=(·=R)) (Keep.setCell (F:=(·=R)) (Keep.setCell (F:=(·=R)) (Keep.refl _ _) (p:=⟨R,1,none⟩) (.inl rfl) _) (p:=⟨R,2,none⟩) (.inl rfl) _) (p:=⟨R,3,none⟩) (.inl rfl) _) (p:=⟨R,4,none⟩) (.inl rfl) _) (p:=⟨R,5,none⟩) (.inl rfl) _) (p:=⟨R,6,none⟩) (.inl rfl) _) (p:=⟨R,7,none⟩) (.inl rfl) _) (p:=⟨R,8,none⟩) (.inl rfl) _) (p:=⟨R,9,none⟩) (.inl rfl) _) (p:=⟨R,10,none⟩) (.inl rfl) _) (p:=⟨R,11,none⟩) (.inl rfl) _) (p:=⟨R,12,none⟩) (.inl rfl) _) (p:=⟨R,13,none⟩) (.inl rfl) _) (p:=⟨R,14,none⟩) (.inl rfl) _) (p:=⟨R,15,none⟩) (.inl rfl) _) (p:=⟨R,16,none⟩) (.inl rfl) _)
theorem idx_owes (X:World) (cs:Array Value) (a n:Nat) (ha:a<16) (hc:cs[a]?=some (.int .u8 n)):(Instr.index 191 (.agg cs) (.int .i64 a)).run Tryz.prog X=.ok (.int .u8 n) X:=by
 have h0:(0:Int)<=(a:Int):=by omega
 have h1:(a:Int)<16:=by omega
 simp [Instr.index,run_underlying Tryz.underlying191,asIntOf,h0,h1,go_sem,ha,hc]
theorem owes_zero (w:World):(Op.equalIn 10000 191 (.agg #[.int .u8 0,.int .u8 0,.int .u8 0,.int .u8 0,.int .u8 0,.int .u8 0,.int .u8 0,.int .u8 0,.int .u8 0,.int .u8 0,.int .u8 0,.int .u8 0,.int .u8 0,.int .u8 0,.int .u8 0,.int .u8 0]) (.agg #[.int .u8 0,.int .u8 0,.int .u8 0,.int .u8 0,.int .u8 0,.int .u8 0,.int .u8 0,.int .u8 0,.int .u8 0,.int .u8 0,.int .u8 0,.int .u8 0,.int .u8 0,.int .u8 0,.int .u8 0,.int .u8 0])).run Tryz.prog w=.ok true w:=by kernel_rfl
theorem owes_one (w:World):(Op.equalIn 10000 191 (.agg #[.int .u8 2,.int .u8 0,.int .u8 0,.int .u8 0,.int .u8 0,.int .u8 0,.int .u8 0,.int .u8 0,.int .u8 0,.int .u8 0,.int .u8 0,.int .u8 0,.int .u8 0,.int .u8 0,.int .u8 0,.int .u8 0]) (.agg #[.int .u8 0,.int .u8 0,.int .u8 0,.int .u8 0,.int .u8 0,.int .u8 0,.int .u8 0,.int .u8 0,.int .u8 0,.int .u8 0,.int .u8 0,.int .u8 0,.int .u8 0,.int .u8 0,.int .u8 0,.int .u8 0])).run Tryz.prog w=.ok false w:=by kernel_rfl
section
variable [bn:Inhabited Ban] {base:Nat} {w w':World} {R q p width j:Nat} {size:Int} {o:List Nat} {S S':S16} {F:Nat->Prop}
theorem rcTick_none (hr:Su base w R q (List.replicate 16 0)):Calls Tryz.prog 32 #[.pointer (some ⟨R,0,none⟩)] w fun z w'=>z=.returned (.slice none 0 0)/\w'=w:=by
 have c:=fun i=>Qq hr.blk i
 have c1:=c 1
 have c2:=c 2
 have c3:=c 3
 have c4:=c 4
 have c5:=c 5
 have c6:=c 6
 have c7:=c 7
 have c8:=c 8
 have c9:=c 9
 have c10:=c 10
 have c11:=c 11
 have c12:=c 12
 have c13:=c 13
 have c14:=c 14
 have c15:=c 15
 have c16:=c 16
 simp [Sm] at c1 c2 c3 c4 c5 c6 c7 c8 c9 c10 c11 c12 c13 c14 c15 c16
 have hq:=owes_zero
 clear c hr
 go_enter Tryz.func32,Tryz.ntmps32
 go_wp2_with fail
 go_ret
 exact ⟨rfl,rfl⟩
def TickI (base:Nat) (w wr:World) (L:LedS) (o:List Nat) (k:Nat) (v:Value):Prop :=
 Sg wr w.heap.size v (Sw L o k)/\Keep No w wr
theorem floor_sync (L:LedS) (a:Nat):L.sync.floor a=L.floor a:=by
 unfold LedS.floor LedS.sync
 rw [List.getElem?_map]
 cases L.ag[a]? <;> rfl
theorem LedH.safeOf (h:LedH base w q p width size S.sync F) {a:Nat} (ha:a<16):(S.L.win a).Ok/\Calls Tryz.prog 77 #[.pointer (some ⟨q,0,none⟩),.int .i64 a] w fun e w'=>∃ u,e=.returned u/\WinV w' u (S.L.win a)/\Keep No w w':=by
 obtain ⟨g,m,lv,n,s,wv,sgv,rlv,h1,_⟩:=h
 obtain ⟨x,hx,hxo,_,_⟩:=h1.ok.at ha
 have e:(S.L.ag[a]?).map (fun g=>{ g with safe:=g.now })=some x:=by rw [<- List.getElem?_map];exact hx
 cases hy:S.L.ag[a]? with
 | none =>
  rw [hy] at e
  cases e
 | some y =>
  rw [hy] at e
  simp only [Option.map_some,Option.some.injEq] at e
  subst e
  have hwa:S.L.win a=y.now:=by
   unfold LedS.win
   rw [hy]
  rw [hwa]
  exact ⟨hxo.now,gSafe_in h1.led ha hx⟩
theorem rcTick_one (hl:LedH base w q p width size S F) (hr:Su base w R q (2 :: List.replicate 15 0)) (hb:base<=w.heap.size):Calls Tryz.prog 32 #[.pointer (some ⟨R,0,none⟩)] w fun z w'=>∃ v,z=.returned v/\Sg w' w.heap.size v (Sw S.L (2 :: List.replicate 15 0) 16)/\RcvN base w R q p width size S.sync (List.replicate 16 0) F w':=by
 have c:=fun i=>Qq hr.blk i
 have c0:=c 0
 have c1:=c 1
 have c2:=c 2
 have c3:=c 3
 have c4:=c 4
 have c5:=c 5
 have c6:=c 6
 have c7:=c 7
 have c8:=c 8
 have c9:=c 9
 have c10:=c 10
 have c11:=c 11
 have c12:=c 12
 have c13:=c 13
 have c14:=c 14
 have c15:=c 15
 have c16:=c 16
 simp [Sm] at c0 c1 c2 c3 c4 c5 c6 c7 c8 c9 c10 c11 c12 c13 c14 c15 c16
 have hq:=owes_one
 have hsy:=hl.sync hb
 have HH:=Lib.hid (A3 hl hr hb)
 clear c hl hr hb
 go_enter Tryz.func32,Tryz.ntmps32
 go_upto_region 3 with fail
 go_upto_region 4 with (go_at_call 23;refine hsy.mono ?_;rintro e w1 ⟨rfl,F1,hl1,k1,ho1⟩)
 have hFR:=HH.out.2.1.byLed HH.out.1
 have c0:=k1.cell c0 hFR
 have c1:=k1.cell c1 hFR
 have c2:=k1.cell c2 hFR
 have c3:=k1.cell c3 hFR
 have c4:=k1.cell c4 hFR
 have c5:=k1.cell c5 hFR
 have c6:=k1.cell c6 hFR
 have c7:=k1.cell c7 hFR
 have c8:=k1.cell c8 hFR
 have c9:=k1.cell c9 hFR
 have c10:=k1.cell c10 hFR
 have c11:=k1.cell c11 hFR
 have c12:=k1.cell c12 hFR
 have c13:=k1.cell c13 hFR
 have c14:=k1.cell c14 hFR
 have c15:=k1.cell c15 hFR
 have c16:=k1.cell c16 hFR
 have HA:=Lib.hid (A4 hl1 k1 ho1 hFR)
 clear hl1 k1 ho1 hFR hq hsy
 go_upto_region 5 with fail
 go_cut [25,26] (fun v25 v26 wx=>∃ cs:Array Value,v25=.agg cs/\v26=.int .i64 0/\(∀ a:Nat,a<16->cs[a]?=some (.int .u8 (((2 :: List.replicate 15 0).getD a 0:Nat):Int)))/\cs.size=16/\wx=w1)
 case first =>
  go_wp2_with fail
  go_meet
  refine ⟨_,rfl,rfl,fun a ha=>?_,rfl,rfl⟩
  rcases (by omega:a=0\/a=1\/a=2\/a=3\/a=4\/a=5\/a=6\/a=7\/a=8\/a=9\/a=10\/a=11\/a=12\/a=13\/a=14\/a=15) with rfl | rfl | rfl | rfl | rfl | rfl | rfl | rfl | rfl | rfl | rfl | rfl | rfl | rfl | rfl | rfl <;> rfl
 case rest =>
  obtain ⟨cs,rfl,rfl,hcs,hsz,rfl⟩:=hcut
  rename World=>w5
  obtain ⟨o,ho⟩:∃ o:List Nat,o=2 :: List.replicate 15 0:=⟨_,rfl⟩
  rw [<- ho] at hcs
  have HO:=Lib.hid ho
  have HC:=Lib.hid (A2 hcs hsz)
  clear ho hcs hsz c1 c2 c3 c4 c5 c6 c7 c8 c9 c10 c11 c12 c13 c14 c15 c16
  go_upto_block 0 with fail
  go_cut [3] (fun v3 wx=>TickI w.heap.size w5 wx S.L o 16 v3)
  case first =>
   go_wp2_with fail
   go_loopw [3,26] (fun v3 v26 wr=>∃ a:Nat,v26=.int .i64 a/\a<=16/\TickI w.heap.size w5 wr S.L o a v3) (fun v3 v26 _=>16 - (intOf v26).toNat)
   case atStart=>exact ⟨0,rfl,by decide,Sg.nil _ _,Keep.refl _ _⟩
   case round =>
    obtain ⟨a,rfl,ha,hI⟩:=hrel
    by_cases hlt:a<16
    ·have hai:(a:Int)<16:=by omega
     obtain ⟨n,hn⟩:∃ n,n=o.getD a 0:=⟨_,rfl⟩
     have hce:=HC.out.1 a hlt
     rw [<- hn] at hce
     have hix:=fun X=>idx_owes X cs a n hlt hce
     have hts:=ticks_succ S.L o a
     rw [<- hn] at hts
     have hin:IntKind.i64.wrap ((a:Int)+1)=((a+1:Nat):Int):=by rw [IntKind.wrap_i64];omega
     by_cases hz:n=0
     ·subst hz
      rw [if_pos rfl,List.append_nil] at hts
      have HR:=Lib.hid (A3 hI hlt hts)
      clear hI hlt hts hce hn
      go_wp2_with fail
      go_roundw
      case rel=>exact ⟨a+1,by go_num,HR.out.2.1,by unfold TickI;rw [HR.out.2.2];exact HR.out.1⟩
      case measure=>have:=HR.out.2.1;simp [intOf];omega
     ·have hnz:((n:Int)==0)=false:=by simp;omega
      have hnz2:¬(n:Int)=0:=by omega
      rw [if_neg hz] at hts
      obtain ⟨hfr,kr⟩:=hI
      obtain ⟨vo,vc,rfl,_,_⟩:=hfr.form
      have hl5:=HA.out.1.no kr
      obtain ⟨hwok,hsf⟩:=hl5.safeOf hlt
      have c0:=kr.cell c0 (fun e=>e)
      have HR:=Lib.hid (A7 hfr kr hlt hts hl5 hwok hn)
      clear hfr kr hlt hts hl5 hwok hn hz hce ha
      go_upto_region 10 with (go_at_call 77;refine hsf.mono ?_;rintro e w6 ⟨u,rfl,hu,k6⟩;obtain ⟨uo,uc,rfl,hur⟩:=hu.form)
      obtain ⟨y,hy⟩:∃ y,y=S.L.win a:=⟨_,rfl⟩
      rw [<- hy] at HR hu hur ⊢
      obtain ⟨W,hW⟩:∃ W,W=w6.alloc (.cells #[.int .u64 y.low,.int .u64 y.width,.slice uo y.set.length uc] 92):=⟨_,rfl⟩
      have hWz:W.heap[w6.heap.size]?=some (.cells #[.int .u64 y.low,.int .u64 y.width,.slice uo y.set.length uc] 92 (0,0)):=by rw [hW];exact Qy _ _
      have kW:Keep No wr W:=by rw [hW];exact k6.alloc _
      have d0:=Qq hWz 0
      have d1:=Qq hWz 1
      have d2:=Qq hWz 2
      simp at d0 d1 d2
      rw [<- hW]
      have c0:=kW.cell c0 (fun e=>e)
      have huW:WinV W (.agg #[.int .u64 y.low,.int .u64 y.width,.slice uo y.set.length uc]) y:=by rw [hW];exact hu.no ((Keep.refl _ _).alloc _)
      have kd:Keep No W W.drew:=(Keep.refl _ _).drew
      have hlW:=HR.out.2.2.2.2.1.no (kW.then kd)
      have hfl:=hlW.floorOf HR.out.2.2.1
      rw [show S.sync.L=S.L.sync from rfl,floor_sync] at hfl
      obtain ⟨fl,hfle⟩:∃ fl,fl=S.L.floor a:=⟨_,rfl⟩
      rw [<- hfle] at hfl
      have hinc:∀ X,Keep No W X->Calls Tryz.prog 15 #[.pointer (some ⟨q,0,none⟩)] X fun e w'=>e=.returned (.int .u64 S.L.inc)/\w'=X:=fun X k=>by
       obtain ⟨g,m,lv,n',s,wv,sgv,rlv,h1,_⟩:=HR.out.2.2.2.2.1.no (kW.then k)
       exact Sf (L:=S.sync.L) h1.led
      obtain ⟨inc,hince⟩:∃ inc,inc=S.L.inc:=⟨_,rfl⟩
      rw [<- hince] at hinc
      have hlim:=fun (X:World) (k:Keep No W X)=>wLimit_spec (huW.no k) HR.out.2.2.2.2.2.1.pre
      have hrun:=fun (X:World) (k:Keep No W X)=>wRuns_spec (huW.no k) (by have:=HR.out.2.2.2.2.2.1.pre.few;omega)
      have HW:=Lib.hid (A4 kW hy hfle hince)
      clear hW hWz kW huW hlW hy hfle hince hu hur k6
      refine Ql (fun w'=>Keep No W w') [0,1,2,3,4,5,6,7,9,10,11,12,14,15,16,18] [8,13,17,19,20,21] [22,23] (by kernel_rfl) (by kernel_rfl) (fun _ _ _ _ _ h=>h) kd ?_
      iterate 16 (refine Qk (v:=?_) rfl rfl rfl ?_ ?_;rotate_left;focus (
       intro w' hS
       have f0:=hS.cell c0 (fun e=>e)
       have f1:=hS.cell d0 (fun e=>e)
       have f2:=hS.cell d1 (fun e=>e)
       have f3:=hS.cell d2 (fun e=>e)
       go_simp
       try with_reducible rfl))
      refine Qj (Qx rfl rfl (fun K hK=>?_))
      go_simp
      refine hfl.mono ?_
      rintro e w7 ⟨rfl,e7⟩
      subst e7
      refine hK _ _ kd ?_
      clear hK K
      refine Qx rfl rfl (fun K hK=>?_)
      go_simp
      refine (hinc _ kd).mono ?_
      rintro e w7 ⟨rfl,e7⟩
      subst e7
      refine hK _ _ kd ?_
      clear hK K
      refine Qx rfl rfl (fun K hK=>?_)
      go_simp
      refine (hlim _ kd).mono ?_
      rintro e w8 ⟨rfl,k8⟩
      have k08:=kd.then k8
      refine hK _ _ k08 ?_
      clear hK K
      refine Qx rfl rfl (fun K hK=>?_)
      go_simp
      refine (hrun _ k08).mono ?_
      rintro e w9 ⟨rv,rfl,hrv,_,k9⟩
      have k09:=k08.then k9
      refine hK _ _ k09 ?_
      clear hK K
      obtain ⟨ro,rc,rfl,_,_⟩:=hrv.form
      obtain ⟨rn,hrn⟩:∃ rn,rn=(y.set.take 32).length:=⟨_,rfl⟩
      rw [<- hrn] at hrv ⊢
      have k59:=(HR.out.2.1.then HW.out.1).then k09
      have hfr9:=(HR.out.1.no (HW.out.1.then k09))
      have hcell:(Tq S.L o a).cells (.slice ro rn rc) (.slice none 0 0)=#[.int .u8 n,.int .i64 a,.int .u64 fl,.int .u64 inc,.int .u64 0,.int .u64 y.low,.int .u64 ((y.low:Int)+(y.width:Int)),.slice ro rn rc,.slice none 0 0]:=by
       unfold FrmS.cells Tq
       dsimp only
       rw [<- HR.out.2.2.2.2.2.2,<- HW.out.2.2.1,<- HW.out.2.2.2,<- HW.out.2.1]
       rfl
      have hyr:(Tq S.L o a).runs=y.set.take 32:=by
       unfold Tq
       dsimp only
       rw [<- HW.out.2.1]
      have htl:=ticks_length S.L o a
      have hB9:∀ o',w5.heap.size<=(w9.alloc o').heap.size:=fun o'=>by have:=k59.size;rw [World.size_alloc];omega
      have HZ:=Lib.hid (A7 k59 hfr9 hrv hcell hyr htl hB9)
      clear k59 hfr9 hrv hrn hcell hyr htl hB9
      have kAf:=k09.alloc (.cells #[.int .u8 n,.int .i64 a,.int .u64 fl,.int .u64 inc,.int .u64 0,.int .u64 y.low,.int .u64 ((y.low:Int)+(y.width:Int)),.slice ro rn rc,.slice none 0 0] 69)
      refine Qx rfl rfl (fun K hK=>?_)
      go_simp
      refine hK _ _ k09 ?_
      clear hK K
      refine Qx rfl rfl (fun K hK=>?_)
      go_simp
      refine hK _ _ kAf ?_
      clear hK K
      clear k8 k9 k08 k09 hrun hlim hinc hfl kd d0 d1 d2 kAf
      refine Qh (Qu rfl (Qu rfl (Qm ?_)))
      have hap:=fun (o':Obj)=>HZ.out.2.1.no ((Keep.refl No w9).alloc o')
      have hrv':=fun (o':Obj)=>HZ.out.2.2.1.no ((Keep.refl No w9).alloc o')
      have HY:=Lib.hid (A2 hap hrv')
      clear hap hrv'
      show wpList _ _ _ [_,_] _ _
      go_wp2_with (at_builtin;refine wpList_append_frm rfl _ _ rfl (HY.out.1 _) rfl (D:=w9.heap.size) (y:=Tq S.L o a) (u:=.slice ro rn rc) (by rw [HZ.out.2.2.2.1];exact Qy _ _) rfl (by rw [HZ.out.2.2.2.2.1];exact HY.out.2 _) (by have:=HZ.out.2.2.2.2.2.1;have:=HR.out.2.2.1;omega) (HZ.out.2.2.2.2.2.2 _) ?_;intro vo' vc' w' hown' hk';have HE:=Lib.hid (A2 hown' hk');clear hown' hk')
      go_roundw
      case rel =>
       refine ⟨a+1,by go_num,HR.out.2.2.1,?_,?_⟩
       ·rw [HR.out.2.2.2.1]
        exact HE.out.1
       ·have hk9:=HZ.out.1.alloc (.cells #[.int .u8 n,.int .i64 a,.int .u64 fl,.int .u64 inc,.int .u64 0,.int .u64 y.low,.int .u64 ((y.low:Int)+(y.width:Int)),.slice ro rn rc,.slice none 0 0] 69)
        exact hk9.absorb HE.out.2 (fun b hb=>(HR.out.1.kind b hb).1)
      case measure=>have:=HR.out.2.2.1;simp [intOf];omega
    ·have hai:¬(a:Int)<16:=by omega
     have hae:a=16:=by omega
     subst hae
     have HR:=Lib.hid hI
     clear hI hlt ha
     go_wp2_with fail
     go_meet
     exact HR.out
  case rest =>
   obtain ⟨hfr,kr⟩:=hcut
   rename World=>w8
   obtain ⟨vo,vc,rfl,_,_⟩:=hfr.form
   have hr5:=HH.out.2.1.keep HA.out.2.1 HA.out.2.2.2
   have hr8:=hr5.no kr
   have hfz:=fun i=>Qg hr8.blk i
   have c:=fun i=>Qq hr8.blk i
   have e1:=c 1
   have e2:=c 2
   have e3:=c 3
   have e4:=c 4
   have e5:=c 5
   have e6:=c 6
   have e7:=c 7
   have e8:=c 8
   have e9:=c 9
   have e10:=c 10
   have e11:=c 11
   have e12:=c 12
   have e13:=c 13
   have e14:=c 14
   have e15:=c 15
   have e16:=c 16
   simp [Sm] at e1 e2 e3 e4 e5 e6 e7 e8 e9 e10 e11 e12 e13 e14 e15 e16
   have kz:=zeroOwes_keep w8 R
   have hz:=zeroOwes_blk hr8.blk
   have hl8:=((HA.out.1.no kr).cellsAt hr8.blk (by simp) (by simp) (by simp) hr8.pb kz).1
   have hfrz:Sg (Sc w8 R) w.heap.size (.slice vo (Sw S.L o 16).length vc) (Sw S.L o 16):=by
    have h1:=hfr.keep (F:=(·=R)) (fun b hb hrb=>by
     have e:b=R:=hb
     subst e
     obtain ⟨cs',fr,e2⟩:=hrb
     rw [hr8.blk] at e2
     simp at e2) kz (fun b hb e=>by
     have e:b=R:=e
     subst e
     obtain ⟨_,cur,e2⟩:=hfr.kind b hb
     rw [hr8.blk] at e2
     simp at e2)
    obtain ⟨xs,x1,x2,x3⟩:=h1
    exact ⟨xs,x1,x2,x3.1,x3.2.imp id (fun ⟨g,cap,cur,y1,y2,y3⟩=>⟨g,cap,cur,y1,Nat.le_trans HA.out.2.1.size y2,y3⟩)⟩
   have hkz:Keep (fun b=>F b\/b=R) w (Sc w8 R):=((HA.out.2.1.mono (fun b _ e=>(Or.inl e:F b\/b=R))).then kr).trans kz (fun b _ e=>.inr e)
   have HF:=Lib.hid (A5 hfrz hl8 hz hkz hr8.pb)
   unfold Sc at HF
   clear hfr kr hr5 hr8 c kz hz hl8 hfrz hkz
   go_wp2_with fail
   go_ret
   exact ⟨_,rfl,by rw [<- HO.out];exact HF.out.1,F1,HF.out.2.1,⟨HF.out.2.2.1,rfl,HF.out.2.2.2.2⟩,HF.out.2.2.2.1,HA.out.2.2.1⟩
end
theorem fEqItems_nil (w:World) (fv:Value):Calls Tryz.prog 132 #[.slice none 0 0,.slice none 0 0,fv] w fun z w'=>z=.returned (.bool true)/\w'=w:=by
 go_enter Tryz.func132,Tryz.ntmps132
 go_wp2_with fail
 go_loopw [17] (fun v17 wr=>v17=.int .i64 0/\wr=w) (fun _ _=>0)
 case atStart=>exact ⟨rfl,rfl⟩
 case round =>
  obtain ⟨rfl,rfl⟩:=hrel
  go_wp2_with fail
  go_ret
  exact ⟨rfl,rfl⟩
def ansCells (k:Nat) (a:Int) (e i c l:Nat) (rv:Value):Array Value:=#[.int .u8 k,.int .i64 a,.int .u64 e,.int .u64 i,.int .u64 0,.int .u64 c,.int .u64 l,rv,.slice none 0 0]
theorem fSame_ans {w:World} (k:Nat) (a:Int) (e i c l:Nat) {u v:Value} {r:List RunN} (hu:Zy w u r) (hv:Zy w v r) (hr:r.length<=268435456) :
  Calls Tryz.prog 84 #[.agg (ansCells k a e i c l u),.agg (ansCells k a e i c l v)] w fun z w'=>z=.returned (.bool true)/\Keep No w w':=by
 obtain ⟨uo,uc,rfl,_,_⟩:=hu.form
 obtain ⟨vo,vc,rfl,_,_⟩:=hv.form
 unfold ansCells
 obtain ⟨n,hn⟩:∃ n,n=r.length:=⟨_,rfl⟩
 rw [<- hn]
 obtain ⟨W1,hW1⟩:∃ W1,W1=w.alloc (.cells #[.int .u8 k,.int .i64 a,.int .u64 e,.int .u64 i,.int .u64 0,.int .u64 c,.int .u64 l,.slice uo n uc,.slice none 0 0] 69):=⟨_,rfl⟩
 have hA:W1.heap[w.heap.size]?=some (.cells #[.int .u8 k,.int .i64 a,.int .u64 e,.int .u64 i,.int .u64 0,.int .u64 c,.int .u64 l,.slice uo n uc,.slice none 0 0] 69 (0,0)):=by rw [hW1];exact Qy _ _
 have k1:Keep No w W1:=by rw [hW1];exact (Keep.refl _ _).alloc _
 have hsz:W1.heap.size=w.heap.size+1:=by rw [hW1];simp
 obtain ⟨W2,hW2⟩:∃ W2,W2=W1.alloc (.cells #[.int .u8 k,.int .i64 a,.int .u64 e,.int .u64 i,.int .u64 0,.int .u64 c,.int .u64 l,.slice vo n vc,.slice none 0 0] 69):=⟨_,rfl⟩
 have hB:W2.heap[w.heap.size+1]?=some (.cells #[.int .u8 k,.int .i64 a,.int .u64 e,.int .u64 i,.int .u64 0,.int .u64 c,.int .u64 l,.slice vo n vc,.slice none 0 0] 69 (0,0)):=by rw [hW2,<- hsz];exact Qy _ _
 have k12:Keep No W1 W2:=by rw [hW2];exact (Keep.refl _ _).alloc _
 have hA:=k12.heap hA (fun e=>e)
 have ca:=fun j=>Qq hA j
 have cb:=fun j=>Qq hB j
 have a0:=ca 0
 have b0:=cb 0
 have a1:=ca 1
 have b1:=cb 1
 have a2:=ca 2
 have b2:=cb 2
 have a3:=ca 3
 have b3:=cb 3
 have a4:=ca 4
 have b4:=cb 4
 have a5:=ca 5
 have b5:=cb 5
 have a6:=ca 6
 have b6:=cb 6
 have a7:=ca 7
 have b7:=cb 7
 have a8:=ca 8
 have b8:=cb 8
 simp at a0 a1 a2 a3 a4 a5 a6 a7 a8 b0 b1 b2 b3 b4 b5 b6 b7 b8
 have he:=rEqual_spec (hu.no (k1.then k12)) (hv.no (k1.then k12)) hr hr
 rw [decide_eq_true rfl,<- hn] at he
 have HK:=Lib.hid (k1.then k12)
 clear hu hv hr k1 k12 hn hA hB ca cb hsz
 go_enter Tryz.func84,Tryz.ntmps84
 go_upto_region 1 with fail
 rw [<- hW1,<- hW2]
 clear hW1 hW2
 go_wp2_with (first
  | (go_at_call 132;refine (fEqItems_nil _ _).mono ?_;rintro z w4 ⟨rfl,e4⟩;subst e4)
  | (go_at_call 131;refine he.mono ?_;rintro z w3 ⟨rfl,k3⟩;have a8:=k3.cell a8 (fun e=>e);have b8:=k3.cell b8 (fun e=>e);have HK3:=Lib.hid k3;clear k3))
 go_ret
 exact ⟨rfl,HK.out.then HK3.out⟩
theorem Sg.at' {w:World} {B n cap i:Nat} {ao:Option Addr} {l:List FrmS} {x:FrmS} (h:Sg w B (.slice ao n cap) l) (hi:l[i]?=some x) :
  ∃ g u,ao=some ⟨g,0,none⟩/\Zy w u x.runs/\B<=g/\∀ (j:Nat) z,(x.cells u (.slice none 0 0))[j]?=some z->w.cell? ⟨g,i*9+j,none⟩=some z:=by
 obtain ⟨xs,rfl,h2,h3,h4⟩:=h
 rw [List.getElem?_map] at hi
 cases hx:xs[i]? with
 | none =>
  rw [hx] at hi
  simp at hi
 | some y =>
  rw [hx] at hi
  simp at hi
  subst hi
  have hil:=(List.getElem?_eq_some_iff.1 hx).1
  have hn:0<(xs.map (·.1)).length:=by rw [List.length_map];omega
  rcases h4 with ⟨_,e⟩ | ⟨g,cap',cur,e,hg,hz,h5,h6,h7,h8⟩
  ·omega
  ·simp only [Value.slice.injEq] at e
   obtain ⟨rfl,_,_⟩:=e
   refine ⟨g,y.2,rfl,h2 y (List.mem_of_getElem? hx),hg,fun j z hj=>?_⟩
   have hj':(y.1.cells y.2 (.slice none 0 0)).toList[j]?=some z:=by rw [Array.getElem?_toList];exact hj
   have hjc:j<9:=(List.getElem?_eq_some_iff.1 hj').1
   have h9:=flat_at (fun x:FrmS × Value=>(x.1.cells x.2 (.slice none 0 0)).toList) 9 (fun x=>rfl) hx hjc
   rw [hj',<- h8,List.getElem?_take] at h9
   split at h9
   ·rw [Qq hz]
    simpa using h9
   ·simp at h9
def aw17:LedS:=((LedS.start 9).step (.inc 1)).sync
def aw17b:LedS:=aw17.step (.floor 0 1)
theorem aw17_floor:aw17.floor 0=0:=by kernel_rfl
theorem aw17_put:aw17b.putR 0 1 []=none:=by
 unfold LedS.putR
 exact if_pos ⟨by kernel_rfl,by kernel_rfl⟩
theorem aw17_tick:Sw aw17b (2 :: List.replicate 15 0) 16=[⟨2,0,1,1,0,0,9,[],[]⟩]:=by kernel_rfl
theorem aw17_hello [bn:Inhabited Ban] {size:Int} {S:S16} (ok:Ok16 9 1 S) (hf:S.d.full=false) (hr:S.d.room=60000) (hm:msum S.d.now<=60) (hL:S.L=aw17):∃ S2,Hello17 9 1 size S 0 1 1 true S2/\S2.L=aw17b/\Ok16 9 3 S2:=by
 obtain ⟨c,S1,hrs,ok1,hc⟩:=ok.raise (by decide) size 0 1
 have hfl:S.L.floor 0=0:=by rw [hL];exact aw17_floor
 have hc0:c=0/\S1.L=S.L.step (.floor 0 1):=by
  rcases hc with ⟨h0,a',ha,_,_,_,h1,_⟩ | ⟨h0,h1⟩
  ·obtain rfl:a'=0:=by omega
   exact ⟨h0,h1⟩
  ·rcases hrs with ⟨hb,_,_⟩ | ⟨a',ha,_,_,⟨hle,_,_⟩ | ⟨_,hw⟩⟩
   ·omega
   ·obtain rfl:a'=0:=by omega
    omega
   ·obtain rfl:a'=0:=by omega
    have hlen:=Gz 0 1 (by decide) (by decide)
    rcases hw.1.code with h | h
    ·exact absurd h h0
    ·rcases wrote_five hw.1 h with h | h
     ·rw [hf] at h;cases h
     ·omega
 obtain ⟨rfl,hL1⟩:=hc0
 have hL1:S1.L=aw17b:=by rw [hL1,hL];rfl
 obtain ⟨c2,nl,S2,hp,ok2,_,hcs⟩:=ok1.put (by decide) size 0 1 (l:=[]) (Nat.zero_le _) (fun x hx=>by simp at hx)
 have hS2:S2=S1:=by
  rcases hcs with ⟨_,a',rc,ha,_,h1,_⟩ | h
  ·obtain rfl:a'=0:=by omega
   rw [hL1,aw17_put] at h1
   cases h1
  ·exact h
 exact ⟨S2,.inr (.inr ⟨rfl,S1,c2,nl,.inr ⟨by omega,hrs⟩,ok1,hp⟩),by rw [hS2,hL1],ok2⟩
theorem awake17_spec [bn:Inhabited Ban] {w:World} (hT:ban.top<=w.heap.size):Calls Tryz.prog 28 #[] w fun e w'=>e=.returned (.bool true)/\Keep No w w':=by
 have hop:=open17_spec (base:=w.heap.size) (w:=w) 8 50 (Nat.le_refl _) hT
 have hop:Calls Tryz.prog 29 #[.int .u16 8,.int .u16 50] w fun e w'=>∃ P R X q p r xq S F G,e=.returned (.pointer (some ⟨P,0,none⟩))/\P17 w.heap.size w' P R X q p r xq 9 51 S (List.replicate 16 0) F G/\Ok16 9 1 S/\(S.d.full=false/\S.d.room=60000/\msum S.d.now<=60)/\S.L=aw17/\S.ts=[.inc 1]/\(∀ b,foot17 P R X F G b->w.heap.size<=b)/\Keep No w w':=hop
 have HT:=Lib.hid hT
 clear hT
 go_enter Tryz.func28,Tryz.ntmps28
 go_upto_region 2 with (go_at_call 29;refine hop.mono ?_;rintro e w1 ⟨P,R,X,q,p,r,xq,S,F,G,rfl,hP,ok,⟨hf,hr,hm⟩,hL,_,hft,k1⟩)
 clear hop
 obtain ⟨S2,hh,hL2,ok2⟩:=aw17_hello (size:=51) ok hf hr hm hL
 have hb1:=k1.size
 have hrc:=rcReceive_hello hP.led hP.rcv ok (by decide) ⟨1,0,1,0,1,0,0,[],[]⟩ 0 rfl (by decide) rfl (by decide) (by decide) rfl rfl rfl hh hb1 (Nat.le_trans HT.out hb1)
 have hrc:Calls Tryz.prog 31 #[.pointer (some ⟨R,0,none⟩),.agg #[.int .u8 1,.int .i64 0,.int .u64 1,.int .u64 0,.int .u64 1,.int .u64 0,.int .u64 0,.slice none 0 0,.slice none 0 0]] w1 fun z w'=>z=.returned (.bool true)/\RcvN w.heap.size w1 R q p 9 51 S2 (2 :: List.replicate 15 0) F w':=hrc
 have p0:=Qq hP.blk 0
 simp at p0
 have hnP:¬F P:=(hP.led.cellsAt hP.blk (by simp) (by simp) (by simp) hP.pb (Keep.refl _ _)).2
 have hnR:¬P=R:=fun e=>by
  have h1:=hP.blk
  rw [e,hP.rcv.blk] at h1
  simp at h1
 have HP:=Lib.hid (A4 hP hL2 hft k1)
 clear hP ok hf hr hm hL hft k1 hh hL2 ok2
 go_upto_region 4 with (go_at_call 31;refine hrc.mono ?_;rintro z w2 ⟨rfl,F2,hl2,hr2,k2,ho2⟩)
 clear hrc
 have p0:=k2.cell p0 (fun e=>e.elim hnP hnR)
 have hb2:=Nat.le_trans hb1 k2.size
 have htk:=rcTick_one hl2 hr2 hb2
 rw [HP.out.2.1,aw17_tick] at htk
 have hk2:Keep No w w2:=HP.out.2.2.2.absorb k2 (fun b hb=>by
  rcases hb with hb | rfl
  ·exact HP.out.2.2.1 b (.inr (.inr (.inr (.inl hb))))
  ·exact HP.out.2.2.1 b (.inr (.inl rfl)))
 have hF2:∀ b,F2 b\/b=R->w.heap.size<=b:=fun b hb=>by
  rcases hb with hb | rfl
  ·rcases ho2 b hb with h | h
   ·exact HP.out.2.2.1 b (.inr (.inr (.inr (.inl h))))
   ·exact Nat.le_trans hb1 h
  ·exact HP.out.2.2.1 b (.inr (.inl rfl))
 have HK:=Lib.hid (A2 hk2 hF2)
 clear hl2 hr2 k2 ho2 hk2 hF2 hnP hnR hb1 hb2
 go_upto_region 5 with (go_at_call 32;refine htk.mono ?_;rintro z w3 ⟨v,rfl,hfr,F3,_,_,k3,_⟩)
 clear htk
 obtain ⟨vo,vc,rfl,_,_⟩:=hfr.form
 obtain ⟨g,u,rfl,hu,_,hcs⟩:=hfr.at' (i:=0) rfl
 obtain ⟨uo,uc,rfl,_,_⟩:=hu.form
 have c0:=hcs 0 _ rfl
 have c1:=hcs 1 _ rfl
 have c2:=hcs 2 _ rfl
 have c3:=hcs 3 _ rfl
 have c4:=hcs 4 _ rfl
 have c5:=hcs 5 _ rfl
 have c6:=hcs 6 _ rfl
 have c7:=hcs 7 _ rfl
 have c8:=hcs 8 _ rfl
 have hsm:=fSame_ans (w:=w3) 2 0 1 1 0 9 hu (Zy.nil _) (by decide)
 unfold ansCells at hsm
 have HZ:=Lib.hid (HK.out.1.absorb k3 HK.out.2)
 clear hfr hu hcs k3
 simp at c0 c1 c2 c3 c4 c5 c6 c7 c8
 simp at hsm
 go_wp2_with (go_at_call 84;refine hsm.mono ?_;rintro z w4 ⟨rfl,k4⟩;have HZ4:=Lib.hid k4;clear k4)
 go_ret
 exact ⟨rfl,HZ.out.then HZ4.out⟩
section
variable {H:Type} {enc:TypeId × Value->H} {W:World}
theorem nine_cells {cs:List Value} (h:cs.length=9):∃ a b c d e f g i j,cs=[a,b,c,d,e,f,g,i,j]:=by
 match cs,h with
 | [a,b,c,d,e,f,g,i,j],_=>exact ⟨a,b,c,d,e,f,g,i,j,rfl⟩
theorem frm_of_trod {fuel:Nat} {cs:List Value} {x:DataW H × List MemPlace} (h:DataW.trod enc Tryz.prog W 0 (fun _=>true) true fuel 69 cs=some x) :
  ∃ (f:FrmS) (ro io:Option Addr) (rn rc inn ic:Nat),cs=(f.cells (.slice ro rn rc) (.slice io inn ic)).toList:=by
 obtain ⟨xs,n,_,_,hl,hlen,hf⟩:=DataW.trod_struct Tryz.underlying69 h
 have hl9:cs.length=9:=hl.trans (by kernel_rfl)
 obtain ⟨c0,c1,c2,c3,c4,c5,c6,c7,c8,rfl⟩:=nine_cells hl9
 have hx:∀ i,i<9->∃ y,xs[i]?=some y:=fun i hi=>⟨_,List.getElem?_eq_getElem (by rw [hlen];exact hi)⟩
 have g0:=hf 0 _ rfl
 have g1:=hf 1 _ rfl
 have g2:=hf 2 _ rfl
 have g3:=hf 3 _ rfl
 have g4:=hf 4 _ rfl
 have g5:=hf 5 _ rfl
 have g6:=hf 6 _ rfl
 have g7:=hf 7 _ rfl
 have g8:=hf 8 _ rfl
 dsimp at g0 g1 g2 g3 g4 g5 g6 g7 g8
 rw [show Tryz.prog.cellsOf 5=1 from by kernel_rfl] at g0
 rw [show Tryz.prog.cellsOf 3=1 from by kernel_rfl] at g1
 rw [show Tryz.prog.cellsOf 27=1 from by kernel_rfl] at g2 g3 g4 g5 g6
 rw [show Tryz.prog.cellsOf 67=1 from by kernel_rfl] at g7
 rw [show Tryz.prog.cellsOf 28=1 from by kernel_rfl] at g8
 obtain ⟨y0,e0⟩:=hx 0 (by omega)
 obtain ⟨y1,e1⟩:=hx 1 (by omega)
 obtain ⟨y2,e2⟩:=hx 2 (by omega)
 obtain ⟨y3,e3⟩:=hx 3 (by omega)
 obtain ⟨y4,e4⟩:=hx 4 (by omega)
 obtain ⟨y5,e5⟩:=hx 5 (by omega)
 obtain ⟨y6,e6⟩:=hx 6 (by omega)
 obtain ⟨y7,e7⟩:=hx 7 (by omega)
 obtain ⟨y8,e8⟩:=hx 8 (by omega)
 rw [e0] at g0;rw [e1] at g1;rw [e2] at g2;rw [e3] at g3;rw [e4] at g4;rw [e5] at g5;rw [e6] at g6;rw [e7] at g7;rw [e8] at g8
 obtain ⟨n0,h0,_,w0⟩:=DataW.trod_int Tryz.underlying5 g0
 obtain ⟨n1,h1,_,w1⟩:=DataW.trod_int Tryz.underlying3 g1
 obtain ⟨n2,h2,_,w2⟩:=DataW.trod_int Tryz.underlying27 g2
 obtain ⟨n3,h3,_,w3⟩:=DataW.trod_int Tryz.underlying27 g3
 obtain ⟨n4,h4,_,w4⟩:=DataW.trod_int Tryz.underlying27 g4
 obtain ⟨n5,h5,_,w5⟩:=DataW.trod_int Tryz.underlying27 g5
 obtain ⟨n6,h6,_,w6⟩:=DataW.trod_int Tryz.underlying27 g6
 obtain ⟨ro,rn,rc,h7⟩:=slice_len1 Tryz.underlying67 g7
 obtain ⟨io,inn,ic,h8⟩:=slice_len1 Tryz.underlying28 g8
 simp at h0 h1 h2 h3 h4 h5 h6 h7 h8
 subst h0 h1 h2 h3 h4 h5 h6 h7 h8
 obtain ⟨m0,rfl⟩:=Jw rfl w0
 obtain ⟨m2,rfl⟩:=Jw rfl w2
 obtain ⟨m3,rfl⟩:=Jw rfl w3
 obtain ⟨m4,rfl⟩:=Jw rfl w4
 obtain ⟨m5,rfl⟩:=Jw rfl w5
 obtain ⟨m6,rfl⟩:=Jw rfl w6
 exact ⟨⟨m0,n1,m2,m3,m4,m5,m6,[],[]⟩,ro,io,rn,rc,inn,ic,rfl⟩
end
theorem rnil_walk [bn:Inhabited Ban] {w:World} (hT:ban.top<=w.heap.size) (f:FrmS) (ro io:Option Addr) (rn rc inn ic:Nat) (ag:Int) :
  Calls Tryz.prog 5 #[.agg (f.cells (.slice ro rn rc) (.slice io inn ic)),.int .i64 ag] w fun e w'=>e=.returned (.bool true)/\Keep No w w':=by
 obtain ⟨W,hW⟩:∃ W,W=w.alloc (.cells (f.cells (.slice ro rn rc) (.slice io inn ic)) 69):=⟨_,rfl⟩
 have kW:Keep No w W:=by rw [hW];exact (Keep.refl _ _).alloc _
 have hA:W.heap[w.heap.size]?=some (.cells (f.cells (.slice ro rn rc) (.slice io inn ic)) 69 (0,0)):=by rw [hW];exact Qy _ _
 have ca:=fun j=>Qq hA j
 have a0:=ca 0
 have a1:=ca 1
 have a2:=ca 2
 have a3:=ca 3
 have a4:=ca 4
 have a5:=ca 5
 have a6:=ca 6
 have a7:=ca 7
 have a8:=ca 8
 unfold FrmS.cells at a0 a1 a2 a3 a4 a5 a6 a7 a8 hW ⊢
 simp at a0 a1 a2 a3 a4 a5 a6 a7 a8
 have haw:=awake17_spec (w:=W) (Nat.le_trans hT kW.size)
 have HT:=Lib.hid (A2 hT kW)
 clear hT kW hA ca
 go_enter Tryz.func5,Tryz.ntmps5
 go_upto_region 1 with fail
 rw [<- hW]
 clear hW
 go_upto_region 3 with (go_at_call 28;refine haw.mono ?_;rintro e w1 ⟨rfl,k1⟩)
 clear haw
 have a0:=k1.cell a0 (fun e=>e)
 have a1:=k1.cell a1 (fun e=>e)
 have a2:=k1.cell a2 (fun e=>e)
 have a3:=k1.cell a3 (fun e=>e)
 have a4:=k1.cell a4 (fun e=>e)
 have a5:=k1.cell a5 (fun e=>e)
 have a6:=k1.cell a6 (fun e=>e)
 have a7:=k1.cell a7 (fun e=>e)
 have a8:=k1.cell a8 (fun e=>e)
 have k01:=HT.out.2.then k1
 have hop:=open17_spec (base:=w.heap.size) (w:=w1) 3 3 k01.size (Nat.le_trans HT.out.1 k01.size)
 have hop:Calls Tryz.prog 29 #[.int .u16 3,.int .u16 3] w1 fun e w'=>∃ P R q,e=.returned (.pointer (some ⟨P,0,none⟩))/\w'.cell? ⟨P,0,none⟩=some (.pointer (some ⟨R,0,none⟩))/\Su w.heap.size w' R q (List.replicate 16 0)/\Keep No w1 w':=by
  refine hop.mono ?_
  rintro e w' ⟨P,R,X,q,p,r,xq,S,F,G,rfl,hP,_,_,_,_,_,k⟩
  have p0:=Qq hP.blk 0
  simp at p0
  exact ⟨P,R,q,rfl,p0,hP.rcv,k⟩
 have HK:=Lib.hid k01
 clear k01 k1
 go_upto_region 5 with (go_at_call 29;refine hop.mono ?_;rintro e w2 ⟨P,R,q,rfl,p0,hr,k2⟩)
 have a0:=k2.cell a0 (fun e=>e)
 have a1:=k2.cell a1 (fun e=>e)
 have a2:=k2.cell a2 (fun e=>e)
 have a3:=k2.cell a3 (fun e=>e)
 have a4:=k2.cell a4 (fun e=>e)
 have a5:=k2.cell a5 (fun e=>e)
 have a6:=k2.cell a6 (fun e=>e)
 have a7:=k2.cell a7 (fun e=>e)
 have a8:=k2.cell a8 (fun e=>e)
 have hrn:=rcReceive_nil w2 (.agg (f.cells (.slice ro rn rc) (.slice io inn ic))) _ rfl
 unfold FrmS.cells at hrn
 have how:∀ X,Keep No w2 X->Calls Tryz.prog 33 #[.pointer (some ⟨R,0,none⟩),.int .i64 ag] X fun e w'=>e=.returned (.int .u8 0)/\w'=X:=fun X k=>by
  by_cases h:ag<0\/16<=ag
  ·exact rcOwes_out X R ag h
  ·obtain ⟨a',rfl⟩:∃ a':Nat,ag=(a':Int):=⟨ag.toNat,by omega⟩
   exact rcOwes_spec (n:=0) (hr.no k) (by omega) (by rw [List.getElem?_replicate,if_pos (by omega)])
 have htk:∀ X,Keep No w2 X->Calls Tryz.prog 32 #[.pointer (some ⟨R,0,none⟩)] X fun z w'=>z=.returned (.slice none 0 0)/\w'=X:=fun X k=>rcTick_none (hr.no k)
 have HZ:=Lib.hid (HK.out.then k2)
 clear hop k2 hr
 go_wp2_with (first
  | (go_at_call 32;have z9:=S5;refine (htk _ k3).mono ?_;rintro z w5 ⟨rfl,e5⟩;subst e5)
  | (go_at_call 33;have z9:=S5;refine (how _ k3).mono ?_;rintro z w5 ⟨rfl,e5⟩;subst e5)
  | (go_at_call 34;refine (rcLedger_nil _).mono ?_;rintro z w5 ⟨rfl,e5⟩;subst e5;have S5:True:=trivial)
  | (go_at_call 33;refine (rcOwes_nil _ _).mono ?_;rintro z w5 ⟨rfl,e5⟩;subst e5)
  | (go_at_call 32;refine (rcTick_nil _).mono ?_;rintro z w5 ⟨rfl,e5⟩;subst e5)
  | (go_at_call 31;refine hrn.mono ?_;rintro z w4 ⟨rfl,k3⟩;have p0:=k3.cell p0 (fun e=>e))
  | (go_at_call 30;refine (rcNew_nil _).mono ?_;rintro z w3 ⟨rfl,e3⟩;subst e3))
 go_ret
 exact ⟨rfl,HZ.out.then k3⟩
end Go.Proofs.YtfdmbomlkpkegaaGreat
