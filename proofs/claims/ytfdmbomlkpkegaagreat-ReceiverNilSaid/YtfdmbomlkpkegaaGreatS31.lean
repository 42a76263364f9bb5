/- Lemmas for ReceiverNil. -/
import Derived.Test.YtfdmbomlkpkegaaGreatS30
set_option maxRecDepth 100000
set_option maxHeartbeats 8000000
set_option linter.all false
namespace Go.Proofs.YtfdmbomlkpkegaaGreat
open Go Go.RowKit Go.Dr Go.Shelf
attribute [local go_sem] Oper.semAt_some
theorem Zc.notCells [bn:Inhabited Ban] {base:Nat} {w:World} {q g m p n s width:Nat} {lv wv sgv rlv:Value} {size:Int} {ss:List SegL} {ts:List LRec} {d:Qr} {L:LedS} (h:Zc base w q g m lv p n s wv sgv rlv width size ss ts d L)
  {b:Nat} {cs:Array Value} {t:TypeId} (hz:w.heap[b]?=some (.cells cs t (0,0))) (ht:t≠126/\t≠63/\t≠135/\t≠137/\t≠130/\t≠265/\t≠59):¬Qi q g m lv p n s wv sgv rlv b:=by
 obtain ⟨t1,t2,t3,t4,t5,t6,t7⟩:=ht
 rintro (hb | hb)
 ·obtain ⟨_,h3⟩:=h.led.kind hb
  rcases h3 with ⟨cs',t',e,ht'⟩ | ⟨es,clock,e⟩
  ·rw [hz] at e;simp at e;obtain ⟨_,rfl⟩:=e
   rcases ht' with e | e
   ·exact t1 e
   ·exact t2 e
  ·rw [hz] at e;cases e
 ·rcases hb with hb | hb
  ·rcases hb with rfl | rfl | rfl | hb
   ·have e:=h.dk.blk;rw [hz] at e;simp at e;exact t3 e.2
   ·obtain ⟨_,_,e,_⟩:=h.dk.now;rw [hz] at e;cases e
   ·obtain ⟨_,_,e,_⟩:=h.dk.safe;rw [hz] at e;cases e
   ·obtain ⟨_,cur,e⟩:=h.dk.wait.kind b hb
    rw [hz] at e;simp at e;exact t4 e.2
  ·obtain ⟨_,cs',t',e,ht'⟩:=h.lg.kind hb
   rw [hz] at e;simp at e;obtain ⟨_,rfl⟩:=e
   rcases ht' with e | e | e
   ·exact t5 e
   ·exact t6 e
   ·exact t7 e
theorem Zc.notDef [bn:Inhabited Ban] {base:Nat} {w:World} {q g m p n s width:Nat} {lv wv sgv rlv:Value} {size:Int} {ss:List SegL} {ts:List LRec} {d:Qr} {L:LedS} (h:Zc base w q g m lv p n s wv sgv rlv width size ss ts d L)
  {b:Nat} {ds:Option (List Deferred)} (hz:w.heap[b]?=some (.deferred ds)):¬Qi q g m lv p n s wv sgv rlv b:=by
 rintro (hb | hb)
 ·obtain ⟨_,h3⟩:=h.led.kind hb
  rcases h3 with ⟨cs',t',e,ht'⟩ | ⟨es,clock,e⟩ <;> (rw [hz] at e;cases e)
 ·rcases hb with hb | hb
  ·rcases hb with rfl | rfl | rfl | hb
   ·have e:=h.dk.blk;rw [hz] at e;cases e
   ·obtain ⟨_,_,e,_⟩:=h.dk.now;rw [hz] at e;cases e
   ·obtain ⟨_,_,e,_⟩:=h.dk.safe;rw [hz] at e;cases e
   ·obtain ⟨_,cur,e⟩:=h.dk.wait.kind b hb
    rw [hz] at e;cases e
  ·obtain ⟨_,cs',t',e,ht'⟩:=h.lg.kind hb
   rw [hz] at e;cases e
theorem Zc.cellsAt [bn:Inhabited Ban] {base:Nat} {w w':World} {q g m p n s width:Nat} {lv wv sgv rlv:Value} {size:Int} {ss:List SegL} {ts:List LRec} {d:Qr} {L:LedS} (h:Zc base w q g m lv p n s wv sgv rlv width size ss ts d L)
  {b:Nat} {cs:Array Value} {t:TypeId} (hz:w.heap[b]?=some (.cells cs t (0,0))) (ht:t≠126/\t≠63/\t≠135/\t≠137/\t≠130/\t≠265/\t≠59) (h8:t≠5) (hr:t≠96) (hb:base<=b) (k:Keep (·=b) w w'):Zc base w' q g m lv p n s wv sgv rlv width size ss ts d L :=
 h.keep (fun c hc=>by subst hc;exact ⟨hb,Qt hz,fun cs fr e=>by rw [hz] at e;simp at e;exact h8 e.2.1⟩) (Zn.block hz hr) k (fun c hc e=>by subst e;exact h.notCells hz ht hc)
theorem Zc.defAt [bn:Inhabited Ban] {base:Nat} {w w':World} {q g m p n s width:Nat} {lv wv sgv rlv:Value} {size:Int} {ss:List SegL} {ts:List LRec} {d:Qr} {L:LedS} (h:Zc base w q g m lv p n s wv sgv rlv width size ss ts d L)
  {b:Nat} {ds:Option (List Deferred)} (hz:w.heap[b]?=some (.deferred ds)) (hb:base<=b) (k:Keep (·=b) w w'):Zc base w' q g m lv p n s wv sgv rlv width size ss ts d L :=
 h.keep (fun c hc=>by subst hc;exact ⟨hb,Qt hz,fun cs fr e=>by rw [hz] at e;cases e⟩) (fun c hc hr=>by obtain ⟨cs,fr,e⟩:=hr;rw [show c=b from hc,hz] at e;cases e) k (fun c hc e=>by subst e;exact h.notDef hz hc)
def OpenG [bn:Inhabited Ban] (base:Nat) (w:World) (p n s:Nat) (wv:Value) (width:Nat) (size c:Int) (ss:List SegL) (ts:List LRec) (d:Qr) (L:LedS) (e:Ending) (w':World):Prop :=
 ∃ v,e=.returned (.tuple #[v,.int .i64 c])/\((c=0/\∃ q g m:Nat,v=.pointer (some ⟨q,0,none⟩)/\w.heap.size<=q/\Ga base w q g m p width size ss ts d.sync L.sync (foot p n s wv) w')\/(c=5/\v=.pointer none/\Keep (foot p n s wv) w w'))
theorem gOpen_g [bn:Inhabited Ban] {base:Nat} {w:World} {p n s width j cnt:Nat} {wv:Value} {d d':Qr} {x:Qn} {size c:Int} {ss ss':List SegL} {ts ts':List LRec} {L':LedS} (hd:Qo base w p n s wv d) (h7:Log7 j cnt (Zk ts) ss d x) (hj:j<=900)
  (hcan:∀ (k:Nat) r,ts[k]?=some r->(told width (ts.take k)).can r) (hrl:∀ r∈ts,r.bytes.length<=1000) (hrec:(told width ts).recs.length<=1073741824) (hinc:(told width ts).inc<=1000000)
  (hw:1<=width/\width<=1024) (hz:1<=size) (hb:base<=w.heap.size) (hT:ban.top<=w.heap.size) (hwr:Ha c size ss ts d (told width ts) (.inc ((told width ts).inc+1)) ss' ts' d' L') :
  Calls Tryz.prog 20 #[.pointer (some ⟨p,0,none⟩),.agg #[.int .u64 width,.int .i64 size]] w (OpenG base w p n s wv width size c ss' ts' d' L'):=by
 have hts:ts.length<=900:=by
  have h1:=h7.good.next
  have h2:=h7.next
  have e:(Zk ts).length=ts.length:=by simp [Zk]
  omega
 have hw1:¬(width:Int)<1:=by omega
 have hw2:¬(1024:Int)<(width:Int):=by omega
 have hwi:(width:Int)<=1024:=by omega
 have HH:=Lib.hid (A10 hd h7 hwr hj trivial trivial hw hz hb hT)
 have HG:=Lib.hid (A6 trivial hts hcan hrl hrec hinc)
 clear hts hcan hrl hrec hinc
 clear hd h7 hwr hj hw hz hb hT
 refine (callsIn_wide (n:=6)).1 ?_
 refine callsIn_of_wp_marks Tryz.func20 rfl trivial ?_ rfl
 simp only [Tryz.ntmps20,List.size_toArray,List.length_cons,List.length_nil,Nat.reduceAdd,Nat.reduceSub,Array.replicate_succ,Array.replicate_zero,List.push_toArray,List.append_toArray,List.nil_append,List.cons_append]
 refine wpIn_wide.2 ?_
 refine wp_mono (Q:=Gc _) ?_ (fun e a w h=>Ry h)
 have kA:Keep No w (((w.alloc (.cells #[.int .u64 width,.int .i64 size] 35)).alloc (.cells #[.pointer none] 32)).alloc (.cells #[.int .i64 0] 46)):=(((Keep.refl _ _).alloc _).alloc _).alloc _
 have hrsl:(Zk ts).length=ts.length:=by simp [Zk]
 have hopn:=lOpen_spec (size:=size) (HH.out.1.no kA) (Nat.le_trans HH.out.2.2.2.2.2.2.2.2.1 kA.size) (Nat.le_trans HH.out.2.2.2.2.2.2.2.2.2 kA.size) (HH.out.2.1.good.diskL (by have:=HH.out.2.2.2.1;omega) HH.out.2.1.rel.now HH.out.2.1.rel.kn) HH.out.2.2.2.2.2.2.2.1
 have HK:=Lib.hid kA
 have hmm:=@run_makeMap Tryz.prog
 clear kA
 go_upto_region 7 with (go_at_call 54;refine hopn.mono ?_;rintro e w1 ⟨g,sv,lv,rfl,hlg1,hdk1,k1,ho1⟩)
 have hrd:Zd base w1 g p sv lv (logD size ss)/\Qo base w1 p n s wv d:=⟨hlg1,hdk1⟩
 clear hlg1 hdk1
 rw [ledger_zero]
 obtain ⟨cs,hcs⟩:∃ cs,cs=(Xq g 0 (List.replicate 16 (Ki zeroAg (.slice none 0 0) (.slice none 0 0))) (.slice none 0 0) 0 w1.heap.size).toArray:=⟨_,rfl⟩
 rw [<- hcs]
 obtain ⟨W2,hW2⟩:∃ W2,W2=(((w1.alloc (.map #[] 0)).alloc (.cells cs 126)).alloc (.cells #[.pointer (some ⟨w1.heap.size+1,0,none⟩)] 32)):=⟨_,rfl⟩
 have k12:Keep No w1 W2:=by rw [hW2];exact (((Keep.refl _ _).alloc _).alloc _).alloc _
 have hm2:W2.heap[w1.heap.size]?=some (.map #[] 0):=by
  rw [hW2]
  exact (((Keep.refl No _).alloc _).alloc _).heap (Qy _ _) (fun e=>e)
 have hq2:W2.heap[w1.heap.size+1]?=some (.cells cs 126 (0,0)):=by
  rw [hW2]
  have:=Qy (w1.alloc (.map #[] 0)) (.cells cs 126)
  rw [World.size_alloc] at this
  exact ((Keep.refl No _).alloc _).heap this (fun e=>e)
 have h82:W2.heap[w1.heap.size+1+1]?=some (.cells #[.pointer (some ⟨w1.heap.size+1,0,none⟩)] 32 (0,0)):=by
  rw [hW2]
  have:=Qy ((w1.alloc (.map #[] 0)).alloc (.cells cs 126)) (.cells #[.pointer (some ⟨w1.heap.size+1,0,none⟩)] 32)
  rw [World.size_alloc,World.size_alloc] at this
  exact this
 rw [<- hW2]
 clear hW2
 rw [hcs] at hq2
 clear hcs
 have hws:=Nat.le_trans HK.out.size k1.size
 have hsA:w.heap.size+1+1<w1.heap.size:=by have:=k1.size;simp at this;omega
 have hld0:=led_init (base:=base) (width:=width) hq2 ⟨_,hm2⟩ (Nat.le_trans HH.out.2.2.2.2.2.2.2.2.1 (by omega)) (Nat.le_trans HH.out.2.2.2.2.2.2.2.2.1 hws)
 have k01:=HK.out.then (k1.then k12)
 have cConf:W2.heap[w.heap.size]?=some (.cells #[.int .u64 width,.int .i64 size] 35 (0,0)):=(k1.then k12).heap ((((Keep.refl No _).alloc _).alloc _).heap (Qy w _) (fun e=>e)) (fun e=>e)
 have hp4:W2.heap[w.heap.size+1]?=some (.cells #[.pointer none] 32 (0,0)):=(k1.then k12).heap (((Keep.refl No _).alloc _).heap (by have:=Qy (w.alloc (.cells #[.int .u64 width,.int .i64 size] 35)) (.cells #[.pointer none] 32);rw [World.size_alloc] at this;exact this) (fun e=>e)) (fun e=>e)
 have hp5:W2.heap[w.heap.size+1+1]?=some (.cells #[.int .i64 0] 46 (0,0)):=(k1.then k12).heap (by have:=Qy ((w.alloc (.cells #[.int .u64 width,.int .i64 size] 35)).alloc (.cells #[.pointer none] 32)) (.cells #[.int .i64 0] 46);rw [World.size_alloc,World.size_alloc] at this;exact this) (fun e=>e)
 obtain ⟨q,hqe⟩:∃ q,q=w1.heap.size+1:=⟨_,rfl⟩
 obtain ⟨b8,h8e⟩:∃ b8,b8=w1.heap.size+1+1:=⟨_,rfl⟩
 obtain ⟨m,hme⟩:∃ m,m=w1.heap.size:=⟨_,rfl⟩
 rw [<- h8e] at h82 ⊢
 rw [<- hqe] at h82 hld0
 rw [<- hme] at hld0
 have cc:=Qq cConf 0
 have c8:=Qq h82 0
 simp at cc c8
 have HA:=Lib.hid (A14 (A2 (hrd.1.no k12) (hrd.2.no k12)) ho1 hld0 k01 hp4 hp5 h82 hqe h8e hme hsA k1 cConf k12)
 clear hrd ho1 hld0 k01 hp4 hp5 h82 hqe h8e hme hsA hm2 hq2 k12 k1 hws hopn cConf hmm
 go_wp2_with fail
 go_loopw [35] (fun v35 wr=>∃ k,v35=.int .i64 (k:Nat)/\k<=16/\Zv base wr q g m (.slice none 0 0) (LedS.initK width k)/\Keep (·=q) W2 wr) (fun v35 _=>16 - (intOf v35).toNat)
 case atStart=>exact ⟨0,rfl,Nat.zero_le _,HA.out.2.2.1,Keep.refl _ _⟩
 case round =>
  obtain ⟨k,rfl,hk,hled,kr⟩:=hrel
  have hqb8:¬b8=q:=fun e=>by have h1:=HA.out.2.2.2.2.2.2.2.1;have h2:=HA.out.2.2.2.2.2.2.2.2.1;omega
  have hqc:¬w.heap.size=q:=fun e=>by have h1:=HA.out.2.2.2.2.2.2.2.1;have h2:=HA.out.2.2.2.2.2.2.2.2.2.2.1;omega
  have cc:=kr.cell cc hqc
  have c8:=kr.cell c8 hqb8
  by_cases hlt:k<16
  ·obtain ⟨hx,hst⟩:=initK_succ (width:=width) hlt
   have hki:(k:Int)<16:=by omega
   have kd:Keep No wr wr.drew:=(Keep.refl _ _).drew
   have HR:=Lib.hid (A5 hled kr hx hst hlt)
   clear hled kr hx hst hlt hk
   go_wp2_with fail
   refine Ql (fun w'=>Keep No wr w') [0,1,2,3,5,6] [4] [7,8,9] (by kernel_rfl) (by kernel_rfl) (fun _ _ _ _ _ h=>h) kd ?_
   iterate 6 (refine Qk (v:=?_) rfl rfl rfl ?_ ?_;rotate_left;focus (
    intro w' hS
    have f1:=hS.cell cc (fun e=>e)
    have f2:=hS.cell c8 (fun e=>e)
    go_simp
    try with_reducible rfl))
   refine Qj (Qx rfl rfl (fun K hK=>?_))
   go_simp
   refine (wNew_spec _ width).mono ?_
   rintro e w3 ⟨u3,rfl,hv3,k3⟩
   have k03:=kd.then k3
   obtain ⟨o3,c3,rfl,hr3⟩:=hv3.form
   refine hK _ _ k03 ?_
   clear hK K
   have hl3:=HR.out.1.no k03
   obtain ⟨hset,kset⟩:=hl3.setNow HR.out.2.2.1 (WinS.new width) hr3
   rw [HR.out.2.2.2.1] at hset
   obtain ⟨_,_,_,_,_,a1,a2,a3,_⟩:=hl3.agCell HR.out.2.2.1
   have fq:=hl3.incCell.2.2
   have HS:=Lib.hid (A3 hset kset k03)
   clear hset kset k03 hl3 hv3 hr3 k3 kd
   refine Qh (Qu rfl (Qu rfl (Qu rfl (Qm ?_))))
   go_wp2_with fail
   go_roundw
   case rel=>exact ⟨k+1,by congr 1,by have:=HR.out.2.2.2.2;omega,HS.out.1,(HR.out.2.1.then HS.out.2.2).trans HS.out.2.1 (fun _ _ e=>e)⟩
   case measure=>have:=HR.out.2.2.2.2;simp [intOf];omega
  ·have hke:k=16:=by omega
   subst hke
   rw [initK_16] at hled
   have HR:=Lib.hid (A4 hled kr hqb8 hqc)
   clear hled kr hk hlt hqb8 hqc
   go_wp2_with (go_at_call 56;refine (lAll_spec _ g).mono ?_;rintro e w4 ⟨rfl,hw4⟩)
   have k4:Keep No wr w4:=by rw [hw4];exact (Keep.refl _ _).alloc _
   have hB4:w4.heap[wr.heap.size]?=some (.cells #[.pointer (some ⟨g,0,none⟩)] 41 (0,0)):=by rw [hw4];exact Qy _ _
   rw [<- hw4]
   clear hw4
   have hqg:∀ b,Kx g p n s wv sv lv b->¬b=q:=fun b hb e=>by
    have h1:=HA.out.2.2.2.2.2.2.2.1
    have h2:=HA.out.2.2.2.2.2.2.2.2.2.2.1
    rcases hb with hb | hb
    ·have:=(HH.out.1.foot_ok b hb).2.1;omega
    ·have:=HA.out.1.1.lt b hb
     have h3:=HA.out.2.1 b hb
     have h4:=foot_log HA.out.1.1 HA.out.1.2 b (.inr hb)
     obtain ⟨_,cs',t',e',ht'⟩:=HA.out.1.1.kind hb
     obtain ⟨ags,hz,_⟩:=HA.out.2.2.1.blk
     rw [e,hz] at e'
     simp at e'
     obtain ⟨_,rfl⟩:=e'
     rcases ht' with ht' | ht' | ht' <;> simp at ht'
   obtain ⟨hFq,hRq,_⟩:=HA.out.2.2.1.set 0 (.bool true)
   have hrd4:=A2 ((HA.out.1.1.keep hFq HR.out.2.1 (fun b hb=>hqg b (.inr hb))).no k4) ((HA.out.1.2.keep hFq HR.out.2.1 (fun b hb=>hqg b (.inl hb))).no k4)
   have hcB:=Qq hB4 0
   simp at hcB
   have hw4:w.heap.size<=w4.heap.size:=Nat.le_trans HA.out.2.2.2.1.size (Nat.le_trans HR.out.2.1.size k4.size)
   have hled4:=HR.out.1.no k4
   have hbw4:=Nat.le_trans HH.out.2.2.2.2.2.2.2.2.1 hw4
   have hTw4:=Nat.le_trans HH.out.2.2.2.2.2.2.2.2.2 hw4
   have hm4:m<w4.heap.size:=hled4.lt m (.inr (.inl rfl))
   have hq4':q<w4.heap.size:=hled4.lt q (.inl rfl)
   have hFqm:Foot base w4 (fun b=>b=q\/b=m):=fun b e=>hled4.foot b (e.elim .inl (fun e=>.inr (.inl e)))
   have hBq:¬(wr.heap.size=q\/wr.heap.size=m):=fun e=>by
    rcases e with e | e
    ·have:=HR.out.1.lt q (.inl rfl);omega
    ·have:=HR.out.1.lt m (.inr (.inl rfl));omega
   have hlm:∀ b,Yg g sv lv b->¬(b=q\/b=m):=fun b hb e=>by
    rcases e with e | e
    ·exact hqg b (.inr hb) e
    ·obtain ⟨_,cs',t',e',_⟩:=HA.out.1.1.kind hb
     obtain ⟨es,clock,hz,_⟩:=HA.out.2.2.1.by'
     rw [e,hz] at e'
     cases e'
   have hseq:=lAll_says (n:=5) (F:=fun b=>b=q\/b=m) (by decide) hrd4.1 hbw4 hTw4 (by have h1:=HH.out.2.1.next;have h2:=HG.out.2.1;show max (Zz 0 ss) 1<=_;omega) (by have h1:=HH.out.2.1.next;show (Qw ss).length<=max (Zz 0 ss) 1;rw [HH.out.2.1.recs];omega)
    (fun b hb=>by
     have hb:b∈Zk ts:=by rw [<- HH.out.2.1.recs];exact hb
     obtain ⟨r,hr,rfl⟩:=List.mem_map.1 hb
     have:=HG.out.2.2.2.1 r hr
     omega) hcB hFqm hlm hBq
   have hI0:Rp base width ts w4 q g m [] w4:=⟨_,hled4,Xd.refl _ _ _,fun c hc=>by cases hc⟩
   have H4:=Lib.hid (A8 hrd4 k4 hw4 hqg hm4 hbw4 hTw4 hFqm)
   clear hrd4 k4 hw4 hqg hcB hB4 hFq hRq hled4 hFqm hBq hq4' hlm
   refine (wpIn_wide (n:=6)).1 ?_
   refine' wpIn_rangeFree rfl (by decide) (gf:=103) (lb:=#[.pointer (some ⟨wr.heap.size,0,none⟩)]) rfl trivial (enters_of Tryz.func103 (by kernel_rfl) rfl) hseq
    (fun h k=>h.trans k) (fun A B row hs hg hr=>Xd.grown hg hs (fun r e=>(hr r e).1)) (fun _=>rfl) (Rp base width ts w4 q g m) (Rp.own hbw4 hm4) (fun pre x s A B row h hg hr=>by obtain ⟨b,h1,h2,h3⟩:=h;exact ⟨b,h1,h2,h3.turned hg hr⟩) hI0 _ ?assign ?body ?done
   case assign =>
    intro l x W K hK
    unfold itemArgs
    gi_wp2
    exact hK
   case body =>
    rintro l pre x W ⟨lvp,hledp,hkp,hop⟩ ⟨b,hb,_,hbx⟩
    have hb:(Zk ts)[pre.length]?=some b:=by rw [<- HH.out.2.1.recs];exact hb
    obtain ⟨r,hr,hbr⟩:∃ r,ts[pre.length]?=some r/\r.bytes=b:=by
     unfold Zk at hb
     rw [List.getElem?_map] at hb
     cases hx:ts[pre.length]? with
     | none=>rw [hx] at hb;simp at hb
     | some r=>rw [hx] at hb;exact ⟨r,rfl,by simpa using hb⟩
    rw [<- hbr] at hbx
    have hcan:=HG.out.2.2.1 _ _ hr
    have hpre:(told width (ts.take pre.length)).recs.length<=1073741824:=by
     have h1:=(Gp width ts (k:=pre.length) (k':=ts.length) (by have:=(List.getElem?_eq_some_iff.1 hr).1;omega)).length_le
     rw [List.take_length] at h1
     have:=HG.out.2.2.2.2.1
     omega
    have hokp:=Gb HH.out.2.2.2.2.2.2.1 (fun k r' hk=>((Jc.mk rfl rfl rfl HG.out.2.2.1:Jc width ts (told width ts)).take pre.length).can k r' hk)
    have hdn:=gDone_spec hledp hokp hbx hcan (by have:=HG.out.2.2.2.1 r (List.mem_of_getElem? hr);omega) hpre (Nat.le_trans hbw4 hkp.size) (Nat.le_trans hTw4 hkp.size)
    have c8W:=hkp.keep.cell (H4.out.2.1.cell c8 (fun e=>e)) (fun e=>by
     have h1:=HA.out.2.2.2.2.2.2.2.1
     have h2:=HA.out.2.2.2.2.2.2.2.2.1
     have h3:=HA.out.2.2.2.2.2.2.2.2.2.1
     have e:b8=q\/b8=m:=e
     rcases e with e | e <;> omega)
    have hsn:ts.take (pre.length+1)=ts.take pre.length++[r]:=by rw [List.take_add_one,hr];rfl
    have HB:=Lib.hid (A4 hledp hkp hop hsn)
    clear hledp hkp hop hsn hb hbx hcan hpre hokp hr hbr hseq hI0 cc c8
    gi_wp2_with (refine ⟨trivial,?_⟩;gi_at_call 57;refine (callsIn_wide.2 hdn).mono ?_;rintro e W2 ⟨rfl,lv2,hled2,k2,ho2⟩)
    have hkk:Xd w4.heap.size (fun b=>b=q\/b=m) W W2:=⟨k2.os,k2.tape,k2.output,k2.size,fun c hc hn=>k2.block c (Nat.lt_of_lt_of_le hc HB.out.2.1.size) (fun e=>by
     rcases e with e | e | e
     ·exact hn (.inl e)
     ·exact hn (.inr e)
     ·have:=HB.out.2.2.1 c e;omega)⟩
    refine ⟨fun c o hc ho hn=>k2.heap ho (fun e=>?_),hkk,lv2,?_,HB.out.2.1.trans hkk,fun c hc=>?_⟩
    ·rcases e with e | e | e
     ·obtain ⟨ags,hz,_⟩:=HB.out.1.blk
      rw [e,hz] at ho;cases ho;cases hn
     ·have:=H4.out.2.2.2.2.1;omega
     ·obtain ⟨_,cur,hz⟩:=HB.out.1.recs.kind c e
      rw [hz] at ho;cases ho;cases hn
    ·rw [List.length_append,List.length_singleton,HB.out.2.2.2,Vv]
     exact hled2
    ·rcases ho2 c hc with h | h
     ·exact HB.out.2.2.1 c h
     ·have:=HB.out.2.1.size;omega
   case done =>
    rintro D xs W hD hS hI hK
    obtain ⟨lvW,hledW,hkW,hoW⟩:=hI
    have hxs:xs.length=ts.length:=by rw [hS];show (Qw ss).length=_;rw [HH.out.2.1.recs,hrsl]
    rw [hxs,List.take_length] at hledW
    clear hseq hS hxs hI0
    have k4W:=hkW.keep
    have kwW:Keep (fun b=>b=q\/b=m) wr W:=H4.out.2.1.no.trans k4W (fun _ _ e=>e)
    have hrdN:∀ b,Kx g p n s wv sv lv b->¬(b=q\/b=m):=(fun b hb e=>by
     rcases e with e | e
     ·exact H4.out.2.2.2.1 b hb e
     ·have h1:=HA.out.2.2.2.2.2.2.2.2.2.1
      have h2:=HA.out.2.2.2.2.2.2.2.2.2.2.1
      rcases hb with hb | hb
      ·have:=(HH.out.1.foot_ok b hb).2.1;omega
      ·obtain ⟨_,cs',t',e',_⟩:=HA.out.1.1.kind hb
       obtain ⟨es,clock,hz,_⟩:=HA.out.2.2.1.by'
       have:=HA.out.1.1.lt b hb
       obtain ⟨_,_,_,e'',_⟩:=H4.out.1.1.kind hb
       obtain ⟨es',clock',hz',_⟩:=(HR.out.1.no H4.out.2.1).by'
       rw [e,hz'] at e''
       cases e'')
    have hrdW:=A2 (H4.out.1.1.keep H4.out.2.2.2.2.2.2.2 k4W (fun b hb=>hrdN b (.inr hb))) (H4.out.1.2.keep H4.out.2.2.2.2.2.2.2 k4W (fun b hb=>hrdN b (.inl hb)))
    clear hrdN
    have hmn:m≠n/\m≠s:=by
     have h1:=HA.out.2.2.2.2.2.2.2.2.2.1
     have h2:=HA.out.2.2.2.2.2.2.2.2.2.2.1
     have h3:=(HH.out.1.foot_ok n (.inr (.inl rfl))).2.1
     have h4:=(HH.out.1.foot_ok s (.inr (.inr (.inl rfl)))).2.1
     exact ⟨by omega,by omega⟩
    have hLR:Zc base W q g m lvW p n s wv sv lv width size ss ts d (told width ts):=⟨hledW,hrdW.1,hrdW.2,Gb HH.out.2.2.2.2.2.2.1 HG.out.2.2.1,⟨rfl,rfl,rfl,HG.out.2.2.1⟩,hmn.1,hmn.2⟩
    have hb8:¬(b8=q\/b8=m):=fun e=>by
     have h1:=HA.out.2.2.2.2.2.2.2.1
     have h2:=HA.out.2.2.2.2.2.2.2.2.1
     have h3:=HA.out.2.2.2.2.2.2.2.2.2.1
     rcases e with e | e <;> omega
    have c8W:=kwW.cell c8 hb8
    have h8W:=kwW.heap (HR.out.2.1.heap HA.out.2.2.2.2.2.2.1 HR.out.2.2.1) hb8
    have hq4:¬w.heap.size+1=q:=fun e=>by have h1:=HA.out.2.2.2.2.2.2.2.1;have h2:=HA.out.2.2.2.2.2.2.2.2.2.2.1;omega
    have hq5:¬w.heap.size+1+1=q:=fun e=>by have h1:=HA.out.2.2.2.2.2.2.2.1;have h2:=HA.out.2.2.2.2.2.2.2.2.2.2.1;omega
    have hm4':¬w.heap.size+1=m:=fun e=>by have h1:=HA.out.2.2.2.2.2.2.2.2.2.1;have h2:=HA.out.2.2.2.2.2.2.2.2.2.2.1;omega
    have hm5':¬w.heap.size+1+1=m:=fun e=>by have h1:=HA.out.2.2.2.2.2.2.2.2.2.1;have h2:=HA.out.2.2.2.2.2.2.2.2.2.2.1;omega
    have hp4W:=kwW.heap (HR.out.2.1.heap HA.out.2.2.2.2.1 hq4) (fun e=>e.elim hq4 hm4')
    have hp5W:=kwW.heap (HR.out.2.1.heap HA.out.2.2.2.2.2.1 hq5) (fun e=>e.elim hq5 hm5')
    obtain ⟨i1,_,_⟩:=hledW.incCell
    have hwW:w.heap.size<=W.heap.size:=Nat.le_trans H4.out.2.2.1 k4W.size
    have HL:=Lib.hid (A10 hLR h8W hp4W hp5W hK hD hwW kwW k4W hoW)
    obtain ⟨inc,hince⟩:∃ inc,inc=(told width ts).inc:=⟨_,rfl⟩
    rw [<- hince] at i1
    have hinc6:inc<=1000000:=by rw [hince];exact HG.out.2.2.2.2.2
    have hincw:IntKind.u64.wrap ((inc:Int)+1)=((inc+1:Nat):Int):=by rw [IntKind.wrap_u64];omega
    have HIN:=Lib.hid (A2 hince hinc6)
    clear hLR h8W hp4W hp5W hK hD hwW hledW hrdW hmn kwW k4W hq4 hq5 hm4' hm5' hb8 cc c8 hkW hoW hince hinc6
    go_upto_region 16 with fail
    have kd:Keep No W W.drew:=(Keep.refl _ _).drew
    refine Ql (fun w'=>Keep No W w') [0,2,3,4,5,6] [1,7] [8,9] (by kernel_rfl) (by kernel_rfl) (fun _ _ _ _ _ h=>h) kd ?_
    iterate 6 (refine Qk (v:=?_) rfl rfl rfl ?_ ?_;rotate_left;focus (
     intro w' hS
     have f1:=hS.cell c8W (fun e=>e)
     have f2:=hS.cell i1 (fun e=>e)
     go_simp
     try with_reducible rfl))
    refine Qj (Qx rfl rfl (fun K hK=>?_))
    go_simp
    have kL:=kd.alloc (.cells #[.int .u8 1] 5)
    refine hK _ _ kL ?_
    clear hK K
    refine Qx rfl rfl (fun K hK=>?_)
    go_simp
    refine (Xk (bn:=Xl) (Vq W.drew 1 (by decide)) (inc+1) (by have:=HIN.out.2;omega) (by simp)).mono ?_
    rintro e w5 ⟨v5,rfl,own5,k5⟩
    have k05:=kL.then k5
    refine hK _ _ k05 ?_
    clear hK K
    have hLR5:=HL.out.1.no k05
    have hsz5:w.heap.size<=w5.heap.size:=Nat.le_trans HL.out.2.2.2.2.2.2.1 k05.size
    have hB5:w.heap.size<=(W.drew.alloc (.cells #[.int .u8 1] 5)).heap.size:=Nat.le_trans HL.out.2.2.2.2.2.2.1 kL.size
    obtain ⟨r,hre⟩:∃ r,r=LRec.inc (inc+1):=⟨_,rfl⟩
    have hrb:[UInt8.ofNat 1]++numB (inc+1)=r.bytes:=by rw [hre];rfl
    have hl2:r.bytes.length<=11:=by rw [hre];have:=Qp (n:=inc+1) (by have:=HIN.out.2;omega);simp [LRec.bytes];omega
    rw [hrb] at own5
    obtain ⟨rl,hrl⟩:∃ rl,rl=r.bytes.length:=⟨_,rfl⟩
    obtain ⟨o5,c5,rfl⟩:=own5.form
    rw [<- hrl] at own5 hl2 ⊢
    have hbb:=own5.bytes (base:=base) (fun _=>Nat.le_trans HH.out.2.2.2.2.2.2.2.2.2 hB5)
    have hwr:=gWrite_g (r:=r) hLR5 hbb (by rw [hre];exact ⟨by rw [<- HIN.out.1];omega,by have:=HIN.out.2;omega⟩) (by omega) HH.out.2.1.good (by have:=HH.out.2.2.2.1;omega) (HH.out.2.1.small (by have:=HH.out.2.2.2.1;omega)) HG.out.2.2.2.2.1 (Nat.le_trans HH.out.2.2.2.2.2.2.2.2.1 hsz5) (Nat.le_trans HH.out.2.2.2.2.2.2.2.2.2 hsz5) (by rw [hre,HIN.out.1];exact HH.out.2.2.1)
    have H5:=Lib.hid (A3 hLR5 k05 hsz5)
    have HE:=Lib.hid hre
    have HRL:=Lib.hid hrl
    clear hre hl2 hrb hrl hLR5 hsz5 hB5 hbb own5 kL k5 k05 kd i1 c8W
    refine Qh (Qu rfl (Qu rfl (Qm ?_)))
    have hc05:=HH.out.2.2.1.code
    rcases hc05 with rfl | rfl
    ·go_upto_region 19 with (go_at_call 58;refine hwr.mono ?_;rintro e w6 ⟨rfl,hpost⟩)
     clear hwr
     obtain ⟨lv6,n6,s6,wv6,sgv6,rlv6,hR6,k6,ho6⟩:=hpost
     have h85:=H5.out.2.1.heap HL.out.2.1 (fun e=>e)
     have hp45:=H5.out.2.1.heap HL.out.2.2.1 (fun e=>e)
     have hp55:=H5.out.2.1.heap HL.out.2.2.2.1 (fun e=>e)
     have h86:=k6.heap h85 (H5.out.1.notCells h85 (by decide))
     have hp46:=k6.heap hp45 (H5.out.1.notCells hp45 (by decide))
     have hp56:=k6.heap hp55 (H5.out.1.notCells hp55 (by decide))
     have kd6:=(Keep.refl No w6).drew
     have hsy:=gSync_g (hR6.no kd6) (Nat.le_trans HH.out.2.2.2.2.2.2.2.2.1 (Nat.le_trans H5.out.2.2 k6.size))
     have c86:=Qq h86 0
     simp at c86
     have H6:=Lib.hid (A8 hR6 trivial k6 ho6 h86 hp46 hp56 kd6)
     clear hR6 k6 ho6 h85 hp45 hp55 h86 hp46 hp56
     refine Ql (fun w'=>w'.cell? ⟨b8,0,none⟩=some (.pointer (some ⟨q,0,none⟩))) [0,1] [2] [3,4] (by kernel_rfl) (by kernel_rfl) (fun _ _ _ _ _ h=>h) (kd6.cell c86 (fun e=>e)) ?_
     iterate 2 (refine Qk (v:=?_) rfl rfl rfl ?_ ?_;rotate_left;focus (
      intro w' hS
      go_simp
      try with_reducible rfl))
     refine Qj (Qx rfl rfl (fun K hK=>?_))
     go_simp
     refine hsy.mono ?_
     rintro e w7 ⟨rfl,lv7,n7,s7,wv7,sgv7,rlv7,hR7,k7,ho7⟩
     have hR6:=H6.out.1.no kd6
     have h86:=kd6.heap H6.out.2.2.2.2.1 (fun e=>e)
     have h87:=k7.heap h86 (hR6.notCells h86 (by decide))
     have hp46:=kd6.heap H6.out.2.2.2.2.2.1 (fun e=>e)
     have hp56:=kd6.heap H6.out.2.2.2.2.2.2.1 (fun e=>e)
     have hp47:=k7.heap hp46 (hR6.notCells hp46 (by decide))
     have hp57:=k7.heap hp56 (hR6.notCells hp56 (by decide))
     refine hK _ _ (by rw [Qq h87];rfl) ?_
     clear hK K hsy
     have f4:=Qg hp47
     have f5:=Qg hp57
     have c4:=Qq hp47 0
     have c5:=Qq hp57 0
     simp at c4 c5
     have H7:=Lib.hid (A6 hR7 trivial k7 ho7 hp47 hp57)
     clear hR7 k7 ho7 hp46 hp56 hR6 h86 h87 hp47 hp57 c86
     refine Qh (Qu rfl (Qu rfl (Qm ?_)))
     go_wp2_with fail
     have hD5:=H5.out.2.1.heap HL.out.2.2.2.2.1 (fun e=>e)
     have hD6:=kd6.heap (H6.out.2.2.1.heap hD5 (H5.out.1.notDef hD5)) (fun e=>e)
     have hD7:=H7.out.2.2.1.heap hD6 ((H6.out.1.no kd6).notDef hD6)
     have hDw:=HL.out.2.2.2.2.2.1
     have hDW:w.heap.size+1+1<D:=by
      have h1:=HA.out.2.2.2.2.2.2.2.2.2.2.1
      have h2:=(HA.out.2.2.2.2.2.2.2.2.2.2.2.2.2).size
      have h3:=HR.out.2.1.size
      have h4:=H4.out.2.1.size
      omega
     have kW:Keep (foot p n s wv) w W:=by
      have h1:=HA.out.2.2.2.2.2.2.2.1
      have h2:=HA.out.2.2.2.2.2.2.2.2.2.2.1
      have h3:=HA.out.2.2.2.2.2.2.2.2.2.1
      have k1:Keep No w wr:=HA.out.2.2.2.1.trans HR.out.2.1 (fun x hx e=>by have e:x=q:=e;omega)
      exact (k1.trans HL.out.2.2.2.2.2.2.2.1 (fun x hx e=>by have e:x=q\/x=m:=e;rcases e with e | e <;> omega)).no
     have hDb:D<w7.heap.size:=Qt hD7
     have hbw:=HH.out.2.2.2.2.2.2.2.2.1
     have kS5:Keep (·=w.heap.size+1) w7 (w7.setCell ⟨w.heap.size+1,0,none⟩ (.pointer (some ⟨q,0,none⟩))):=Keep.setCell (F:=(·=w.heap.size+1)) (Keep.refl _ _) (.inl rfl) _
     have r5:=(H7.out.1.cellsAt H7.out.2.2.2.2.1 (by decide) (by decide) (by decide) (by omega) kS5)
     have z4:=Qz (i:=0) (u:=.pointer (some ⟨q,0,none⟩)) H7.out.2.2.2.2.1
     have hD8:=kS5.heap hD7 (fun e=>by have e:D=w.heap.size+1:=e;omega)
     have z5:=kS5.heap H7.out.2.2.2.2.2 (fun e=>by have e:w.heap.size+1+1=w.heap.size+1:=e;omega)
     generalize w7.setCell ⟨w.heap.size+1,0,none⟩ (.pointer (some ⟨q,0,none⟩))=w8 at *
     have kS6:Keep (·=w.heap.size+1+1) w8 (w8.setCell ⟨w.heap.size+1+1,0,none⟩ (.int .i64 0)):=Keep.setCell (F:=(·=w.heap.size+1+1)) (Keep.refl _ _) (.inl rfl) _
     have r6:=(r5.cellsAt z5 (by decide) (by decide) (by decide) (by omega) kS6)
     have hD9:=kS6.heap hD8 (fun e=>by have e:D=w.heap.size+1+1:=e;omega)
     have z4:=kS6.heap z4 (fun e=>by have e:w.heap.size+1=w.heap.size+1+1:=e;omega)
     have z5:=Qz (i:=0) (u:=.int .i64 0) z5
     generalize w8.setCell ⟨w.heap.size+1+1,0,none⟩ (.int .i64 0)=w9 at *
     have hgp:=grownBy_putObj' w9 D (.deferred none)
     have kS7:Keep (·=D) w9 (w9.putObj D (.deferred none)):=(Keep.refl _ _).grown hgp (fun r e=>by cases e;exact .inl rfl)
     have r7:=r6.defAt hD9 (by omega) kS7
     have z4:=kS7.heap z4 (fun e=>by have e:w.heap.size+1=D:=e;omega)
     have z5:=kS7.heap z5 (fun e=>by have e:w.heap.size+1+1=D:=e;omega)
     refine (show bodyPostM _ _ _ _ _ Exit.ret _ _ from ⟨by simp,.inl ⟨_,_,rfl,run_takeDeferred hD9,?_⟩⟩)
     generalize w9.putObj D (.deferred none)=w10 at *
     have c4:=Qq z4 0
     have c5:=Qq z5 0
     simp at c4 c5
     have hqw:w.heap.size<=q:=by
      have h1:=HA.out.2.2.2.2.2.2.2.1
      have h2:=HA.out.2.2.2.2.2.2.2.2.2.2.1
      omega
     have hmw:w.heap.size<=m:=by
      have h1:=HA.out.2.2.2.2.2.2.2.2.2.1
      have h2:=HA.out.2.2.2.2.2.2.2.2.2.2.1
      omega
     have hof:∀ b,Qi q g m lvW p n s wv sv lv b->foot p n s wv b\/w.heap.size<=b:=by
      rintro b (hb | hb)
      ·rcases hb with rfl | rfl | hb
       ·exact .inr hqw
       ·exact .inr hmw
       ·exact .inr (Nat.le_trans H4.out.2.2.1 (HL.out.2.2.2.2.2.2.2.2.2 b hb))
      ·rcases hb with hb | hb
       ·exact .inl hb
       ·exact .inr (Nat.le_trans HK.out.size (HA.out.2.1 b hb))
     have h56:w.heap.size<=w6.drew.heap.size:=Nat.le_trans H5.out.2.2 (Nat.le_trans H6.out.2.2.1.size kd6.size)
     have h57:=Nat.le_trans h56 H7.out.2.2.1.size
     have ho6:∀ b,Qi q g m lv6 p n6 s6 wv6 sgv6 rlv6 b->foot p n s wv b\/w.heap.size<=b:=fun b hb=>(H6.out.2.2.2.1 b hb).elim (hof b) (fun h=>.inr (Nat.le_trans H5.out.2.2 h))
     have ho7:∀ b,Qi q g m lv7 p n7 s7 wv7 sgv7 rlv7 b->foot p n s wv b\/w.heap.size<=b:=fun b hb=>(H7.out.2.2.2.1 b hb).elim (ho6 b) (fun h=>.inr (Nat.le_trans h56 h))
     have k56:Keep (foot p n s wv) w w6.drew:=((kW.then H5.out.2.1).trans H6.out.2.2.1 (fun x hx e=>(hof x e).elim id (fun h=>absurd h (by omega)))).then kd6
     have k57:Keep (foot p n s wv) w w7:=k56.trans H7.out.2.2.1 (fun x hx e=>(ho6 x e).elim id (fun h=>absurd h (by omega)))
     have k58:=((k57.trans kS5 (fun x hx e=>by have e:x=_:=e;omega)).trans kS6 (fun x hx e=>by have e:x=_:=e;omega)).trans kS7 (fun x hx e=>by have e:x=_:=e;omega)
     refine ⟨_,(by simp [results,Tryz.results20,go_sem,c4,c5]),_,rfl,.inl ⟨rfl,q,g,m,rfl,hqw,⟨lv7,n7,s7,wv7,sgv7,rlv7,r7,k58,ho7⟩⟩⟩
    ·go_upto_region 18 with (go_at_call 58;refine hwr.mono ?_;rintro e w6 ⟨rfl,hpost⟩)
     clear hwr
     obtain ⟨lv6,n6,s6,wv6,sgv6,rlv6,hR6,k6,ho6⟩:=hpost
     have hp45:=H5.out.2.1.heap HL.out.2.2.1 (fun e=>e)
     have hp55:=H5.out.2.1.heap HL.out.2.2.2.1 (fun e=>e)
     have hp46:=k6.heap hp45 (H5.out.1.notCells hp45 (by decide))
     have hp56:=k6.heap hp55 (H5.out.1.notCells hp55 (by decide))
     have f4:=Qg hp46
     have f5:=Qg hp56
     have c4:=Qq hp46 0
     have c5:=Qq hp56 0
     simp at c4 c5
     have H6:=Lib.hid (A5 hR6 k6 ho6 hp46 hp56)
     clear hR6 k6 ho6 hp45 hp55 hp46 hp56
     go_wp2_with fail
     have hD5:=H5.out.2.1.heap HL.out.2.2.2.2.1 (fun e=>e)
     have hD6:=H6.out.2.1.heap hD5 (H5.out.1.notDef hD5)
     have hDW:w.heap.size+1+1<D:=by
      have h1:=HA.out.2.2.2.2.2.2.2.2.2.2.1
      have h2:=(HA.out.2.2.2.2.2.2.2.2.2.2.2.2.2).size
      have h3:=HR.out.2.1.size
      have h4:=H4.out.2.1.size
      have hDw:=HL.out.2.2.2.2.2.1
      omega
     have kW:Keep (foot p n s wv) w W:=by
      have h1:=HA.out.2.2.2.2.2.2.2.1
      have h2:=HA.out.2.2.2.2.2.2.2.2.2.2.1
      have h3:=HA.out.2.2.2.2.2.2.2.2.2.1
      have k1:Keep No w wr:=HA.out.2.2.2.1.trans HR.out.2.1 (fun x hx e=>by have e:x=q:=e;omega)
      exact (k1.trans HL.out.2.2.2.2.2.2.2.1 (fun x hx e=>by have e:x=q\/x=m:=e;rcases e with e | e <;> omega)).no
     have kS5:Keep (·=w.heap.size+1) w6 (w6.setCell ⟨w.heap.size+1,0,none⟩ (.pointer none)):=Keep.setCell (F:=(·=w.heap.size+1)) (Keep.refl _ _) (.inl rfl) _
     have z4:=Qz (i:=0) (u:=.pointer none) H6.out.2.2.2.1
     have hD8:=kS5.heap hD6 (fun e=>by have e:D=w.heap.size+1:=e;omega)
     have z5:=kS5.heap H6.out.2.2.2.2 (fun e=>by have e:w.heap.size+1+1=w.heap.size+1:=e;omega)
     generalize w6.setCell ⟨w.heap.size+1,0,none⟩ (.pointer none)=w8 at *
     have kS6:Keep (·=w.heap.size+1+1) w8 (w8.setCell ⟨w.heap.size+1+1,0,none⟩ (.int .i64 5)):=Keep.setCell (F:=(·=w.heap.size+1+1)) (Keep.refl _ _) (.inl rfl) _
     have hD9:=kS6.heap hD8 (fun e=>by have e:D=w.heap.size+1+1:=e;omega)
     have z4:=kS6.heap z4 (fun e=>by have e:w.heap.size+1=w.heap.size+1+1:=e;omega)
     have z5:=Qz (i:=0) (u:=.int .i64 5) z5
     generalize w8.setCell ⟨w.heap.size+1+1,0,none⟩ (.int .i64 5)=w9 at *
     have hgp:=grownBy_putObj' w9 D (.deferred none)
     have kS7:Keep (·=D) w9 (w9.putObj D (.deferred none)):=(Keep.refl _ _).grown hgp (fun r e=>by cases e;exact .inl rfl)
     have z4:=kS7.heap z4 (fun e=>by have e:w.heap.size+1=D:=e;omega)
     have z5:=kS7.heap z5 (fun e=>by have e:w.heap.size+1+1=D:=e;omega)
     refine (show bodyPostM _ _ _ _ _ Exit.ret _ _ from ⟨by simp,.inl ⟨_,_,rfl,run_takeDeferred hD9,?_⟩⟩)
     generalize w9.putObj D (.deferred none)=w10 at *
     have c4:=Qq z4 0
     have c5:=Qq z5 0
     simp at c4 c5
     have hqw:w.heap.size<=q:=by
      have h1:=HA.out.2.2.2.2.2.2.2.1
      have h2:=HA.out.2.2.2.2.2.2.2.2.2.2.1
      omega
     have hmw:w.heap.size<=m:=by
      have h1:=HA.out.2.2.2.2.2.2.2.2.2.1
      have h2:=HA.out.2.2.2.2.2.2.2.2.2.2.1
      omega
     have hof:∀ b,Qi q g m lvW p n s wv sv lv b->foot p n s wv b\/w.heap.size<=b:=by
      rintro b (hb | hb)
      ·rcases hb with rfl | rfl | hb
       ·exact .inr hqw
       ·exact .inr hmw
       ·exact .inr (Nat.le_trans H4.out.2.2.1 (HL.out.2.2.2.2.2.2.2.2.2 b hb))
      ·rcases hb with hb | hb
       ·exact .inl hb
       ·exact .inr (Nat.le_trans HK.out.size (HA.out.2.1 b hb))
     have k56:Keep (foot p n s wv) w w6:=(kW.then H5.out.2.1).trans H6.out.2.1 (fun x hx e=>(hof x e).elim id (fun h=>absurd h (by omega)))
     have k58:=((k56.trans kS5 (fun x hx e=>by have e:x=_:=e;omega)).trans kS6 (fun x hx e=>by have e:x=_:=e;omega)).trans kS7 (fun x hx e=>by have e:x=_:=e;omega)
     exact ⟨_,(by simp [results,Tryz.results20,go_sem,c4,c5]),_,rfl,.inr ⟨rfl,rfl,k58⟩⟩
end Go.Proofs.YtfdmbomlkpkegaaGreat
