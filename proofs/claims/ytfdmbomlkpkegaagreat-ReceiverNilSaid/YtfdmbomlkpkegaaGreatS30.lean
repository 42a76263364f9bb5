/- Lemmas for ReceiverNil. -/
import Derived.Test.YtfdmbomlkpkegaaGreatS27
import Derived.Test.YtfdmbomlkpkegaaGreatS29
import Derived.Test.YtfdmbomlkpkegaaGreatS19
import Derived.Test.YtfdmbomlkpkegaaGreatS5
import Derived.Test.YtfdmbomlkpkegaaGreatS28
set_option maxRecDepth 100000
set_option maxHeartbeats 8000000
set_option linter.all false
namespace Go.Proofs.YtfdmbomlkpkegaaGreat
open Go Go.RowKit Go.Dr Go.Shelf
attribute [local go_sem] Oper.semAt_some
def zeroAg:AgS:=⟨0,⟨0,0,[]⟩,⟨0,0,[]⟩⟩
def LedS.initK (width k:Nat):LedS:=⟨0,List.replicate k ⟨0,WinS.new width,⟨0,0,[]⟩⟩++List.replicate (16-k) zeroAg,[],0⟩
theorem initK_16 (width:Nat):LedS.initK width 16=LedS.start width:=by unfold LedS.initK LedS.start;simp
theorem initK_succ {width k:Nat} (hk:k<16):(LedS.initK width k).ag[k]?=some zeroAg/\{ LedS.initK width k with ag:=(LedS.initK width k).ag.modify k (fun g=>{ g with now:=WinS.new width }) }=LedS.initK width (k+1):=by
 have e:(LedS.initK width k).ag=List.replicate k ⟨0,WinS.new width,⟨0,0,[]⟩⟩++(zeroAg :: List.replicate (15-k) zeroAg):=by
  show _++List.replicate (16-k) zeroAg=_
  rw [show 16-k=(15-k)+1 by omega,List.replicate_succ]
 have h1:(LedS.initK width k).ag[k]?=some zeroAg:=by
  rw [e,List.getElem?_append_right (by simp)]
  simp
 refine ⟨h1,?_⟩
 rw [Gk _ h1,e,List.set_append_right _ _ (by simp)]
 unfold LedS.initK
 rw [show 16 - (k+1)=15-k by omega,List.replicate_succ',List.append_assoc]
 simp [zeroAg]
theorem ledger_zero (g m:Nat):(Tryz.zeroCells126.setIfInBounds 0 (.pointer (some ⟨g,0,none⟩))).setIfInBounds 116 (.map (some m))=(Xq g 0 (List.replicate 16 (Ki zeroAg (.slice none 0 0) (.slice none 0 0))) (.slice none 0 0) 0 m).toArray:=by kernel_rfl
theorem led_init [bn:Inhabited Ban] {base:Nat} {w:World} {q g m width:Nat} (hq:w.heap[q]?=some (.cells (Xq g 0 (List.replicate 16 (Ki zeroAg (.slice none 0 0) (.slice none 0 0))) (.slice none 0 0) 0 m).toArray 126 (0,0)))
  (hm:∃ clock,w.heap[m]?=some (.map #[] clock)) (hb:base<=q) (hb2:base<=m):Zv base w q g m (.slice none 0 0) (LedS.initK width 0):=by
 obtain ⟨clock,hm⟩:=hm
 refine ⟨⟨_,hq,by simp,by simp [LedS.initK],fun i a hi=>?_⟩,⟨[],rfl,fun x hx=>by simp at hx,World.ownsRow_nil _ _ _ _⟩,⟨_,_,hm,rfl,fun i r hi=>by simp [LedS.initK] at hi⟩,hb,hb2⟩
 have hi2:i<16/\a=zeroAg:=by
  have hi:(List.replicate 16 zeroAg)[i]?=some a:=hi
  have h1:=(List.getElem?_eq_some_iff.1 hi).1
  rw [List.length_replicate] at h1
  exact ⟨h1,List.eq_of_mem_replicate (List.mem_of_getElem? hi)⟩
 obtain ⟨h1,rfl⟩:=hi2
 exact ⟨.slice none 0 0,.slice none 0 0,by rw [List.getElem?_replicate,if_pos h1],Zy.nil _,Zy.nil _⟩
def UsAt (w:World) (v:Value) (l:List Nat):Prop:=∃ ao cap,v=.slice ao l.length cap/\(l≠[]->∃ g o,ao=some ⟨g,o,none⟩/\∀ (k x:Nat),l[k]?=some x->w.cell? ⟨g,o+k,none⟩=some (.int .u64 x))
theorem UsAt.no {w w':World} {v:Value} {l:List Nat} (h:UsAt w v l) (k:Keep No w w'):UsAt w' v l:=by
 obtain ⟨ao,cap,rfl,h⟩:=h
 refine ⟨ao,cap,rfl,fun hl=>?_⟩
 obtain ⟨g,o,e,hh⟩:=h hl
 exact ⟨g,o,e,fun i x hx=>k.cell (hh i x hx) (fun e=>e)⟩
theorem OwnN.nums {w:World} {B:Nat} {v:Value} {l:List Nat} (h:OwnN w B v l):UsAt w v l:=by
 obtain ⟨ao,cap,rfl,_,_⟩:=h.form
 refine ⟨ao,cap,rfl,fun hl=>?_⟩
 cases ao with
 | none =>
  rcases h.2 with ⟨_,h0⟩ | ⟨g,cap',cur,e,_⟩
  ·exact absurd (List.length_eq_zero_iff.1 h0) hl
  ·cases e
 | some a =>
  rcases h.2 with ⟨e,_⟩ | ⟨g,cap',cur,e,_⟩
  ·cases e
  ·cases e
   refine ⟨g,0,rfl,fun i x hx=>?_⟩
   obtain ⟨g',e,hc⟩:=Gy h (j:=i) (x:=u64v x) (by rw [List.getElem?_map,hx];rfl) (by simp)
   cases e
   rw [Nat.zero_add]
   exact hc
theorem gRaise_out (w:World) (q:Nat) (a:Int) (n:Nat) (ha:a<0\/16<=a):Calls Tryz.prog 22 #[.pointer (some ⟨q,0,none⟩),.int .i64 a,.int .u64 n] w fun e w'=>e=.returned (.int .i64 1)/\w'=w:=by
 have hg:=gAgent_out (w:=w) q a ha
 clear ha
 go_enter Tryz.func22,Tryz.ntmps22
 go_wp2_with (go_at_call 61;refine hg.mono ?_;rintro e w1 ⟨rfl,e1⟩;have e1:=e1.symm;subst e1)
 go_ret
 exact ⟨rfl,rfl⟩
theorem gPut_out (w:World) (q:Nat) (a:Int) (n:Nat) (v:Value) (ha:a<0\/16<=a):Calls Tryz.prog 24 #[.pointer (some ⟨q,0,none⟩),.int .i64 a,.int .u64 n,v] w fun e w'=>e=.returned (.tuple #[.slice none 0 0,.int .i64 1])/\w'=w:=by
 have hg:=gAgent_out (w:=w) q a ha
 clear ha
 go_enter Tryz.func24,Tryz.ntmps24
 go_wp2_with (go_at_call 61;refine hg.mono ?_;rintro e w1 ⟨rfl,e1⟩;have e1:=e1.symm;subst e1)
 go_ret2
 exact ⟨rfl,rfl⟩
theorem gPut_wrong [bn:Inhabited Ban] {base B:Nat} {w:World} {v:Value} {l:List Qc} (q a b:Nat) (ha:a<16) (h:Xr base w B v l) (hl:l.length<=1048576) (hbl:∀ x∈l,x.s.body.length<=1073741824) (hr:Yv b l=false):Calls Tryz.prog 24 #[.pointer (some ⟨q,0,none⟩),.int .i64 a,.int .u64 b,v] w fun e w'=>e=.returned (.tuple #[.slice none 0 0,.int .i64 1])/\Keep No w w':=by
 have hg:=Vj (w:=w) q a ha
 have hrg:=gRight_spec b h hl hbl
 rw [hr] at hrg
 obtain ⟨vo,vc,rfl,_,_⟩:=h.form
 clear ha h hbl hl
 go_enter Tryz.func24,Tryz.ntmps24
 go_wp2_with (first
  | (go_at_call 63;refine hrg.mono ?_;rintro e w2 ⟨rfl,k2⟩)
  | (go_at_call 61;refine hg.mono ?_;rintro e w1 ⟨rfl,e1⟩;have e1:=e1.symm;subst e1))
 go_ret2
 exact ⟨rfl,k2⟩
section
variable [bn:Inhabited Ban] {base:Nat} {w w':World} {q p width k0:Nat} {size:Int} {ts:List LRec} {d:Qr} {L:LedS}
end
section
variable [bn:Inhabited Ban] {base:Nat} {w w':World} {q p width k0:Nat} {size:Int} {ts:List LRec} {d:Qr} {L:LedS} {F:Nat->Prop}
end
end Go.Proofs.YtfdmbomlkpkegaaGreat
namespace Go.Proofs.YtfdmbomlkpkegaaGreat
open Go Go.RowKit Go.Shelf
def goesOnL {α:Type} (n:Nat) (Kp:World->World->Prop) (I:List α->World->Prop) (xs:List α) (W:World):Exit->Act->World->Prop
 | .normal,_,W'=>(∀ (b:Nat) (o:Obj),n<=b->W.heap[b]?=some o->o.isCells=false->W'.heap[b]?=some o)/\Kp W W'/\I xs W'
 | _,_,_=>False
theorem wpIn_rangeFree {F:Fence} {n:Nat} {P:Program} {α:Type} {g:Operand} {ps:Array Tmp} {assign body:Code} {Q:Exit->Act->World->Prop} {a:Act} {w:World}
  (hro:F.round=none) (h1:1<=n) {gf:Nat} {lb:Array Value} (hg:a.eval g=.func (.func gf) #[] lb) (hFg:F.fn gf) (eg:∀ args w,(callFunc gf args).run P w=.ok (.enter gf args) w)
  {encs:α->Array Value} {Good:List α->α->World->Prop} {Kp:World->World->Prop} {S:List α->Prop} (hseq:SeqSays F (n - 1) P gf lb encs Good Kp S w)
  (hKt:∀ {A B C:World},Kp A B->Kp B C->Kp A C) (hKg:∀ (A B:World) (row:Option Nat),w.heap.size<=A.heap.size->A.grownBy B row->(∀ r,row=some r->w.heap.size<=r/\∃ o:Obj,A.heap[r]?=some o/\o.isCells=false)->Kp A B) (hps:∀ x,(encs x).size=ps.size)
  (I:List α->World->Prop) (hI:OwnFrom w.heap.size I) (hG:∀ pre x,Own (fun (_:Unit)=>Good pre x)) (h0:I [] w) (a₁:α->Act)
  (hassign:∀ (l:Nat) (x:α) (W:World) (K:Act->World->Prop),K (a₁ x) W ->
   assign.wpIn (F.inRound l) (n - 1 - 1) P (Exit.then K (fun _ _ _=>False)) { tmps:=(ps.zip (encs x)).foldl (fun t (p,v)=>t.setIfInBounds p v) a.tmps,defers:=[] } W)
  (hbody:∀ (l:Nat) (pre:List α) (x:α) (W:World),I pre W->Good pre x W->body.wpIn (F.inRound l) (n - 1 - 1) P (goesOnL w.heap.size Kp I (pre++[x]) W) (a₁ x) W)
  (hdone:∀ (D:Nat) (xs:List α) (W:World),w.heap.size<=D->S xs->I xs W->W.heap[D]?=some (.deferred (some []))->Q .normal { a with defers:={ target:=.collected D,args:=#[] } :: a.defers } W) :
  (Code.rangeFunc g ps assign body).wpIn F n P Q a w:=by
 refine wpIn_rangeFunc (fun fn hfn=>?_)
 rw [hro]
 let D:=w.heap.size
 let l:=w.heap.size+1
 let rec0:LoopState->Loop:=fun st=>{ state:=st,pending:=none,fn,tmps:=a.tmps,params:=ps,assign,body,defers:=D }
 let Wd:=w.alloc (.deferred (some []))
 let Wl:=Wd.alloc (.loop (rec0 .ready))
 have sd:Wd.heap.size=l:=World.size_alloc _ _
 have gd:w.grownBy Wd none:=World.grownBy_alloc _ _ _
 have gl:Wd.grownBy Wl none:=World.grownBy_alloc _ _ _
 have atL:Wl.heap[l]?=some (.loop (rec0 .ready)):=by
  have h:=World.alloc_heap_new Wd (.loop (rec0 .ready))
  rw [sd] at h
  exact h
 have atD:Wl.heap[D]?=some (.deferred (some [])):=(Below.heap_alloc Wd _ D (by rw [sd];exact Nat.lt_succ_self _)).trans (World.alloc_heap_new w _)
 have k1:Kp w Wl:=hKt (hKg _ _ none (Nat.le_refl _) gd (fun r e=>by cases e)) (hKg _ _ none gd.size gl (fun r e=>by cases e))
 have i1:I [] Wl:=hI [] Wd Wl none (hI [] w Wd none h0 gd (fun r e=>by cases e)) gl (fun r e=>by cases e)
 have ent:=run_enterLoop_outer (P:=P) (w:=w) fn a.tmps ps assign body
 refine ⟨l,[{ target:=.collected D,args:=#[] }],Wl,{ target:=.fn (.func gf) lb,args:=#[.func (.yield l) #[] #[]] },Wl,gf,#[.func (.yield l) #[] #[]]++lb,Wl,ent,?_,?_,?_,fun _=>h1,?_⟩
 ·simp only [resolve,hg]
  simp [go_sem]
 ·intro f' hf'
  simp [Target.leads] at hf'
  subst hf'
  exact hFg
 ·simp [invoke,go_sem,eg]
 ·refine (hseq l (fun pre W=>I pre W/\W.heap[l]?=some (.loop (rec0 .ready))/\W.heap[D]?=some (.deferred (some []))) Wl k1 ?_ ?_ ⟨i1,atL,atD⟩).mono ?_
  ·intro s A B row hs hg' hr
   have hw:=fun r e=>(hr r e).2
   refine ⟨hI s A B row hs.1 hg' (fun r e=>?_),(grownBy_keeps hg' hw hs.2.1 rfl).trans hs.2.1,(grownBy_keeps hg' hw hs.2.2 rfl).trans hs.2.2⟩
   obtain ⟨h1,o,ho,hw⟩:=hr r e
   have h2:w.heap.size<=Wl.heap.size:=by simp [Wl,Wd];omega
   exact ⟨Nat.le_trans h2 h1,o,ho,Obj.not_cells_of_walk hw⟩
  ·rintro pre x W ⟨hi,hl,hd⟩ hgood
   have hlt:l<W.heap.size:=Qt hl
   have hy:=run_yield (P:=P) (args:=encs x) hl (hps x)
   refine ⟨fn,_,assign,body,hy,roundIn_of_wpIn hfn (hassign _ x W _ ⟨_,run_beginRound hl rfl,?_⟩)⟩
   let Wb:=W.putObj l (.loop (rec0 .busy))
   have hlb:Wb.heap[l]?=some (.loop (rec0 .busy)):=World.putObj_heap_same hlt
   have hdb:Wb.heap[D]?=some (.deferred (some [])):=(World.putObj_heap_other (Nat.ne_of_lt (Nat.lt_succ_self _))).trans hd
   have kb:Kp W Wb:=hKg _ _ (some l) (Nat.le_trans (Nat.le_succ _) (Nat.le_of_lt hlt)) (grownBy_putObj' W l _) (fun r e=>by cases e;exact ⟨Nat.le_succ _,_,hl,rfl⟩)
   have ib:I pre Wb:=hI.putObj _ hi (Nat.le_succ _) hl rfl
   have gb:Good pre x Wb:=(hG pre x).putObj (s:=()) _ hgood hl rfl
   refine wpIn_mono (hbody l pre x Wb ib gb) (fun e a3 W3 hp=>?_)
   cases e with
   | normal =>
    obtain ⟨ho,hk,hi3⟩:=hp
    have hl3:=ho _ _ (Nat.le_succ _) hlb rfl
    refine ⟨_,_,run_endRound (P:=P) none hl3,rfl,⟨hI.putObj _ hi3 (Nat.le_succ _) hl3 rfl,World.putObj_heap_same (Qt hl3),(World.putObj_heap_other (Nat.ne_of_lt (Nat.lt_succ_self _))).trans (ho _ _ (Nat.le_refl _) hdb rfl)⟩,?_⟩
    exact hKt (hKt kb hk) (hKg _ _ (some l) (Nat.le_trans (Nat.le_succ _) (Nat.le_of_lt (Qt hl3))) (grownBy_putObj' W3 l _) (fun r e=>by cases e;exact ⟨Nat.le_succ _,_,hl3,rfl⟩))
   | _=>exact hp.elim
  ·rintro e W2 ⟨⟨v,rfl⟩,xs,hS,hi,hl,hd⟩
   exact ⟨none,_,run_endLoop (P:=P) hl (by simp [rec0]),hdone D xs _ (Nat.le_refl _) hS (hI.putObj _ hi (Nat.le_succ _) hl rfl) ((World.putObj_heap_other (Nat.ne_of_lt (Nat.lt_succ_self _))).trans hd)⟩
attribute [local go_sem] Oper.semAt_some
theorem keep_ofGrown {w w':World} {row:Option Nat} (h:w.grownBy w' row):Keep (fun b=>row=some b) w w':=⟨h.os,h.tape,h.output,h.size,fun b hb hn=>h.block b hb (fun e=>hn e.symm)⟩
end Go.Proofs.YtfdmbomlkpkegaaGreat
namespace Go.Proofs.YtfdmbomlkpkegaaGreat
open Go Go.RowKit Go.Dr Go.Shelf
theorem Gz (a n:Nat) (ha:a<16) (hn:n<2305843009213693952):(LRec.floor a n).bytes.length<=11:=by
 have h1:(numB a).length=1:=by rw [Yb (by omega)];rfl
 have h2:=numB_len 8 n (by omega)
 simp [LRec.bytes]
 omega
theorem gRaise_big {w:World} {q:Nat} (a e:Nat) (ha:a<16) (he:2305843009213693952<=e):Calls Tryz.prog 22 #[.pointer (some ⟨q,0,none⟩),.int .i64 a,.int .u64 e] w fun r w'=>r=.returned (.int .i64 1)/\w'=w:=by
 have hg:=Vj (w:=w) q a ha
 have hei:(2305843009213693952:Int)<=(e:Int):=by omega
 clear he ha
 go_enter Tryz.func22,Tryz.ntmps22
 go_wp2_with (go_at_call 61;refine hg.mono ?_;rintro r w' ⟨rfl,rfl⟩)
 go_ret
 exact ⟨rfl,rfl⟩
section
variable [bn:Inhabited Ban] {base:Nat} {w:World} {q g m p n s width:Nat} {lv wv sgv rlv:Value} {size:Int} {ss:List SegL} {ts:List LRec} {d:Qr} {L:LedS}
theorem gRaise_old (h:Zv base w q g m lv L) (hok:L.Ok width) (a e:Nat) (ha:a<16) (he:e<2305843009213693952) (hf:e<=L.floor a):Calls Tryz.prog 22 #[.pointer (some ⟨q,0,none⟩),.int .i64 a,.int .u64 e] w fun r w'=>r=.returned (.int .i64 9)/\w'=w:=by
 obtain ⟨x,hx,_,_,hfl⟩:=hok.at ha
 obtain ⟨_,_,_,_,c0,_⟩:=h.agCell hx
 have hg:=Vj (w:=w) q a ha
 have hei:((2305843009213693952:Int)<=(e:Int))=False:=eq_false (by omega)
 have hle:(e<=x.floor)=True:=eq_true (by rw [hfl] at hf;omega)
 clear he hf h hok hx hfl ha
 go_enter Tryz.func22,Tryz.ntmps22
 go_wp2_with (go_at_call 61;refine hg.mono ?_;rintro r w' ⟨rfl,rfl⟩)
 go_ret
 exact ⟨rfl,rfl⟩
end
section
variable [bn:Inhabited Ban] {base B0:Nat} {w:World} {q p width k0:Nat} {size:Int} {ts:List LRec} {d:Qr} {L:LedS} {F:Nat->Prop}
end
attribute [local go_sem] Oper.semAt_some
def Rp [bn:Inhabited Ban] (base width:Nat) (ts:List LRec) (W0:World) (q g m:Nat) (pre:List Item) (W:World):Prop :=
 ∃ lv,Zv base W q g m lv (told width (ts.take pre.length))/\Xd W0.heap.size (fun b=>b=q\/b=m) W0 W/\∀ c,lv.ownBlock=some c->W0.heap.size<=c
theorem Rp.own [bn:Inhabited Ban] {base width:Nat} {ts:List LRec} {W0:World} {q g m:Nat} (hb:base<=W0.heap.size) (hm:m<W0.heap.size):OwnFrom W0.heap.size (Rp base width ts W0 q g m):=by
 rintro pre A B row ⟨lv,h1,h2,h3⟩ hg hr
 have k:=keep_ofGrown hg
 refine ⟨lv,h1.keep (fun b e=>?_) (fun b e he=>?_) k (fun b hb e=>?_),h2.trans (Xd.grown hg h2.size (fun r e=>(hr r e).1)),h3⟩
 ·obtain ⟨h4,o,ho,hc⟩:=hr b e
  exact ⟨by omega,Qt ho,fun cs fr e2=>by rw [ho] at e2;cases e2;cases hc⟩
 ·obtain ⟨h4,o,ho,hc⟩:=hr b e
  obtain ⟨cs,fr,e2⟩:=he
  rw [ho] at e2;cases e2;cases hc
 ·obtain ⟨h4,o,ho,hc⟩:=hr b e
  obtain ⟨_,hk⟩:=h1.kind hb
  rcases hk with ⟨cs',t',e2,_⟩ | ⟨es,clock,e2⟩
  ·rw [ho] at e2;cases e2;cases hc
  ·rcases hb with rfl | rfl | hb
   ·obtain ⟨ags,hz,_⟩:=h1.blk
    rw [hz] at e2;cases e2
   ·omega
   ·obtain ⟨_,cur,hz⟩:=h1.recs.kind b hb
    rw [hz] at e2;cases e2
section
variable [bn:Inhabited Ban] {base:Nat} {w:World} {q g m p n s width:Nat} {lv wv sgv rlv:Value} {size:Int} {ss ss':List SegL} {ts ts':List LRec} {d d':Qr} {L L':LedS} {c:Int} {j:Nat} {lc:List Qf}
theorem gRaise_g (h:Zc base w q g m lv p n s wv sgv rlv width size ss ts d L) (a e:Nat) (ha:a<16) (hf:L.floor a<e) (he:e<2305843009213693952) (hgd:Good j lc ss) (hj:j<=1000) (hsm:Ur d) (hrec:L.recs.length<=1073741824) (hb:base<=w.heap.size) (hT:ban.top<=w.heap.size)
  (hwr:Ha c size ss ts d L (.floor a e) ss' ts' d' L') :
  Calls Tryz.prog 22 #[.pointer (some ⟨q,0,none⟩),.int .i64 a,.int .u64 e] w fun r w'=>r=.returned (.int .i64 c)/\Ga base w q g m p width size ss' ts' d' L' (Qi q g m lv p n s wv sgv rlv) w':=by
 obtain ⟨x,hx,_,_,hfl⟩:=h.ok.at ha
 obtain ⟨_,_,_,_,c0,_⟩:=h.led.agCell hx
 have hg:=Vj (w:=w) q a ha
 have hei:((2305843009213693952:Int)<=(e:Int))=False:=eq_false (by omega)
 have hle:(e<=x.floor)=False:=eq_false (by rw [hfl] at hf;omega)
 have haw:IntKind.u64.wrap (a:Int)=(a:Int):=by rw [IntKind.wrap_u64];omega
 have hlen:=Gz a e ha he
 have hcan:L.can (.floor a e):=⟨ha,hf,he⟩
 have HH:=Lib.hid (A10 h (A3 hgd hj hsm) hrec hb hT hwr hlen hcan ha he)
 clear h hx hfl hf he hgd hj hsm hrec hb hT hwr hlen hcan ha
 go_enter Tryz.func22,Tryz.ntmps22
 go_upto_region 8 with (go_at_call 61;refine hg.mono ?_;rintro r w' ⟨rfl,rfl⟩)
 obtain ⟨W0,hW0⟩:∃ W0,W0=w'.alloc (.cells #[.int .u8 2] 5):=⟨_,rfl⟩
 have hn1:Calls Tryz.prog 59 #[.slice (some ⟨w'.heap.size,0,none⟩) 1 1,.int .u64 a] W0 fun e w''=>∃ v',e=.returned v'/\OwnB w'' W0.heap.size v' ([UInt8.ofNat 2]++numB a)/\Keep No W0 w'':=by
  rw [hW0]
  exact Xk (bn:=Xl) (Vq w' 2 (by decide)) a (by have:=HH.out.2.2.2.2.2.2.2.2.1;omega) (by simp)
 have kA:Keep No w' W0:=by rw [hW0];exact (Keep.refl _ _).alloc _
 have HA:=Lib.hid (A2 hW0 kA)
 have hn2:=fun (W1:World) (v1:Value) (own1:OwnB W1 W0.heap.size v1 ([UInt8.ofNat 2]++numB a))=>Xk (bn:=Xl) (own1.bytes (bn:=Xl) (base:=0) (fun _=>Nat.zero_le _)) e (by have:=HH.out.2.2.2.2.2.2.2.2.2;omega) (by rw [List.length_append,Yb (by have:=HH.out.2.2.2.2.2.2.2.2.1;omega)];simp)
 clear hW0 kA c0 hei hle hg
 go_wp2_with (first
  | (rw [<- HA.out.1];go_at_call 59;refine hn1.mono ?_;rintro r W1 ⟨v1,rfl,own1,k1⟩)
  | (go_at_call 59;refine (hn2 _ _ own1).mono ?_;rintro r W2 ⟨v2,rfl,own2,k2⟩))
 have hrb:([UInt8.ofNat 2]++numB a)++numB e=(LRec.floor a e).bytes:=rfl
 have kW:Keep No w' W2:=(HA.out.2.then k1).then k2
 have hb2:=Nat.le_trans HH.out.2.2.2.1 kW.size
 have hT2:=Nat.le_trans HH.out.2.2.2.2.1 kW.size
 have own2:=own2.bytes (base:=base) (fun _=>Nat.le_trans HH.out.2.2.2.2.1 (HA.out.2.then k1).size)
 rw [hrb] at own2
 refine (gWrite_g (r:=.floor a e) (HH.out.1.no kW) own2 HH.out.2.2.2.2.2.2.2.1 (by have:=HH.out.2.2.2.2.2.2.1;omega) HH.out.2.1.1 HH.out.2.1.2.1 HH.out.2.1.2.2 HH.out.2.2.1 hb2 hT2 HH.out.2.2.2.2.2.1).mono ?_
 rintro r W3 ⟨rfl,lv',n',s',wv',sgv',rlv',hR',kF,hoF⟩
 have HX:=Lib.hid (A3 hR' (kW.no.trans kF (fun _ _ e=>e)) (fun b hb=>(hoF b hb).imp id (fun h=>Nat.le_trans kW.size h)))
 have hc05:=HH.out.2.2.2.2.2.1.code
 clear hR' kF hoF own2 own1 k1 k2 kW hb2 hT2 hrb hn1 hn2
 rcases hc05 with rfl | rfl
 ·go_wp2_with fail
  go_ret
  exact ⟨rfl,lv',n',s',wv',sgv',rlv',HX.out⟩
 ·go_wp2_with fail
  go_ret
  exact ⟨rfl,lv',n',s',wv',sgv',rlv',HX.out⟩
end
theorem gSync_g [bn:Inhabited Ban] {base:Nat} {w:World} {q g m p n s width:Nat} {lv wv sgv rlv:Value} {size:Int} {ss:List SegL} {ts:List LRec} {d:Qr} {L:LedS}
  (h:Zc base w q g m lv p n s wv sgv rlv width size ss ts d L) (hb:base<=w.heap.size) :
  Calls Tryz.prog 23 #[.pointer (some ⟨q,0,none⟩)] w fun e w'=>e=.returned (.int .i64 0)/\Ga base w q g m p width size ss ts d.sync L.sync (Qi q g m lv p n s wv sgv rlv) w':=by
 have HH:=Lib.hid (A2 h hb)
 clear h hb
 go_enter Tryz.func23,Tryz.ntmps23
 go_wp2_with fail
 go_loopw [6] (fun v6 wr=>∃ k,v6=.int .i64 (k:Nat)/\k<=16/\Zv base wr q g m lv (L.syncK k)/\Keep (·=q) w wr) (fun v6 _=>16 - (intOf v6).toNat)
 case atStart=>exact ⟨0,rfl,Nat.zero_le _,by unfold LedS.syncK;simpa using HH.out.1.led,Keep.refl _ _⟩
 case round =>
  obtain ⟨k,rfl,hk,hled,kr⟩:=hrel
  by_cases hlt:k<16
  ·have hx:L.ag[k]?=some (L.ag[k]'(by rw [HH.out.1.ok.ag];exact hlt)):=List.getElem?_eq_getElem _
   generalize (L.ag[k]'(by rw [HH.out.1.ok.ag];exact hlt))=x at hx
   obtain ⟨hx2,hse⟩:=syncK_succ hx
   obtain ⟨ns,ss',hns,_,_,a1,a2,a3,a4,a5,a6⟩:=hled.agCell hx2
   obtain ⟨no,nc,rfl,_,_⟩:=hns.form
   have hki:(k:Int)<16:=by omega
   have kd:Keep No wr wr.drew:=(Keep.refl _ _).drew
   obtain ⟨hset,kset⟩:=(hled.no kd).setSafe hx2 x.now (hns.no kd)
   rw [hse] at hset
   have fq:=(hled.no kd).incCell.2.2
   have b4:=kd.cell a4 (fun e=>e)
   have b5:=kd.cell a5 (fun e=>e)
   have b6:=kd.cell a6 (fun e=>e)
   have HR:=Lib.hid (A4 hset (kr.then kd) kset hlt)
   clear hset kset hse hx2 hx hled kr hk hns hlt a4 a5 a6
   go_wp2_with fail
   refine Ql (fun w'=>Keep No wr w') [0,1,2,3,4,5,6,7,8,9,10] [] [11,12,13] (by kernel_rfl) (by kernel_rfl) (fun _ _ _ _ _ h=>h) kd ?_
   iterate 11 (refine Qk (v:=?_) rfl rfl rfl ?_ ?_;rotate_left;focus (
    intro w' hS
    have f1:=hS.cell a1 (fun e=>e)
    have f2:=hS.cell a2 (fun e=>e)
    have f3:=hS.cell a3 (fun e=>e)
    go_simp
    try with_reducible rfl))
   refine Qj (Qh (Qu rfl (Qu rfl (Qu rfl (Qm ?_)))))
   clear a1 a2 a3
   generalize wr.drew=X at *
   go_wp2_with fail
   go_roundw
   case rel=>exact ⟨k+1,by congr 1,by have:=HR.out.2.2.2;omega,HR.out.1,HR.out.2.1.trans HR.out.2.2.1 (fun _ _ e=>e)⟩
   case measure=>have:=HR.out.2.2.2;simp [intOf];omega
  ·have hke:k=16:=by omega
   subst hke
   have hsy:L.syncK 16={ L with ag:=L.ag.map Sz }:=by
    unfold LedS.syncK
    rw [List.take_of_length_le (by rw [HH.out.1.ok.ag];exact Nat.le_refl _),List.drop_of_length_le (by rw [HH.out.1.ok.ag];exact Nat.le_refl _),List.append_nil]
   rw [hsy] at hled
   obtain ⟨c114,c115,_⟩:=hled.endCells
   obtain ⟨lo,lc,hlv,_,_⟩:=hled.recs.form
   obtain ⟨_,c0,fq⟩:=hled.incCell
   have hcount:=hled.setCount L.recs.length
   have kc:Keep (·=q) wr (wr.setCell ⟨q,115,none⟩ (.int .i64 (L.recs.length:Nat))):=Qd _ _
   obtain ⟨Z,hZ⟩:∃ Z,wr.setCell ⟨q,115,none⟩ (.int .i64 (L.recs.length:Nat))=Z:=⟨_,rfl⟩
   rw [hZ] at hcount kc
   have hap:=HH.out.1.apart
   obtain ⟨hFq,hRq,_⟩:=HH.out.1.led.set 0 (.bool true)
   have kq:=kr.trans kc (fun _ _ e=>e)
   have hlg:=HH.out.1.lg.keep hFq kq (fun b hb e=>hap q (.inl rfl) (by rw [show q=b from e.symm];exact .inr hb))
   have hdk:=HH.out.1.dk.keep hFq kq (fun b hb e=>hap q (.inl rfl) (by rw [show q=b from e.symm];exact .inl hb))
   have hls:=lSync_spec hlg hdk (Nat.le_trans HH.out.2 kq.size)
   obtain ⟨_,d0,_⟩:=hcount.incCell
   subst hlv
   have HR:=Lib.hid (A5 hcount kq hlg hdk hap)
   clear hcount kq kc hlg hdk hap hFq hRq hled hsy kr hk hlt
   go_wp2_with fail
   refine hls.mono ?_
   rintro e w2 ⟨rfl,n',s',wv',hD,k2,ho2⟩
   clear hls
   go_wp2_with fail
   go_ret
   obtain ⟨hcount,kq,hlg,hdk,hap⟩:=HR.out
   have hmlt:=hcount.lt m (.inr (.inl rfl))
   have hmn:m≠n':=fun e=>by
    rcases ho2 n' (.inr (.inl rfl)) with e2 | e2
    ·exact hap m (.inr (.inl rfl)) (.inl (by rw [e];exact e2))
    ·omega
   have hms:m≠s':=fun e=>by
    rcases ho2 s' (.inr (.inr (.inl rfl))) with e2 | e2
    ·exact hap m (.inr (.inl rfl)) (.inl (by rw [e];exact e2))
    ·omega
   have hdf:Foot base Z (foot p n s wv):=hdk.foot_ok
   have hdr:Zn Z (foot p n s wv):=fun b hb=>footR_log hlg hdk b (.inl hb)
   have hled2:=hcount.keep hdf hdr k2 (fun b hb e=>apartG hcount hlg hdk HH.out.1.mn HH.out.1.ms b hb (.inl e))
   refine ⟨rfl,_,n',s',wv',sgv,rlv,⟨hled2,hlg.byD hdk k2,hD,HH.out.1.ok.sync,HH.out.1.tl.sync,hmn,hms⟩,(kq.mono (fun b _ e=>.inl (.inl e))).trans k2 (fun b _ e=>.inr (.inl e)),fun b hb=>?_⟩
   rcases hb with hb | hb | hb
   ·exact .inl (.inl hb)
   ·rcases ho2 b hb with e | e
    ·exact .inl (.inr (.inl e))
    ·exact .inr (Nat.le_trans kq.size e)
   ·exact .inl (.inr (.inr hb))
end Go.Proofs.YtfdmbomlkpkegaaGreat
