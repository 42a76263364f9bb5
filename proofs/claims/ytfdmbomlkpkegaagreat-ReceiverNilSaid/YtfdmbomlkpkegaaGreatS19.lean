/- Lemmas for ReceiverNil. -/
import Derived.Test.YtfdmbomlkpkegaaGreatS17
import Derived.RangeFuncNested
import Derived.RangeFuncBound
import Derived.RangeFuncCalls
import Derived.RangeFuncLeaves
import Derived.Shelf.Abstract
import Derived.Shelf.RegionOpen
import Derived.WalkKit
import Derived.OwnWalkIn
import Derived.TacticsInMore
import Derived.LoopNIn
import Derived.LoopIn
import Derived.Shelf.AbstractIn
import Derived.RegionIn
import Derived.Sort.MapsRangeIn
import Derived.Test.YtfdmbomlkpkegaaGreatS18
import Derived.RangeFuncBox
import Derived.Maps.AppendAt
set_option maxRecDepth 100000
set_option maxHeartbeats 8000000
set_option linter.all false
namespace Go.Proofs.YtfdmbomlkpkegaaGreat
open Go Go.RowKit Go.Shelf
attribute [local go_sem] Oper.semAt_some
structure Kf (es:List MapEntry) (clock:Nat) (ks:List Int):Prop where
 keys:es.map (·.key)=ks.map (.int .u64 ·)
 born:es.Pairwise (fun a b=>a.born<b.born)
 clock:∀ e∈es,e.born<clock
 nodup:ks.Nodup
theorem Xm.keyEnts [bn:Inhabited Ban] {base:Nat} {w:World} {r:Nat} {m:AMap} (h:Xm base w r m):∃ es clock,w.heap[r]?=some (.map es clock)/\Kf es.toList clock (m.map (·.1)):=by
 obtain ⟨es,clock,hb,he⟩:=h
 refine ⟨es,clock,hb,?_,he.born,he.clock,he.keys.nodup⟩
 have e1:es.toList=(es.toList.zip m).map (·.1):=(List.map_fst_zip (by rw [he.len];exact Nat.le_refl _)).symm
 have e2:m=(es.toList.zip m).map (·.2):=(List.map_snd_zip (by rw [he.len];exact Nat.le_refl _)).symm
 conv=>lhs;rw [e1]
 conv=>rhs;rw [e2]
 rw [List.map_map,List.map_map,List.map_map]
 exact List.map_congr_left (fun p hp=>(he.all p hp).1)
structure Rj (w:World) (it r:Nat) (ks left:List Int):Prop where
 ex:∃ es clock seen,w.heap[it]?=some (.mapIter (some r) clock seen clock)/\w.heap[r]?=some (.map es clock)/\Kf es.toList clock ks /\
  left=((es.toList.zip ks).filter (fun p=>!seen.contains p.1.born)).map (·.2)
theorem Kf.len {es:List MapEntry} {clock:Nat} {ks:List Int} (h:Kf es clock ks):es.length=ks.length:=by
 have:=congrArg List.length h.keys
 simpa using this
theorem Kf.at_ {es:List MapEntry} {clock:Nat} {ks:List Int} (h:Kf es clock ks) {p:MapEntry × Int} (hp:p∈es.zip ks):p.1.key=.int .u64 p.2:=by
 obtain ⟨i,hi⟩:=List.mem_iff_getElem?.1 hp
 rw [List.getElem?_zip_eq_some] at hi
 have h1:(es.map (·.key))[i]?=some p.1.key:=by rw [List.getElem?_map,hi.1];rfl
 rw [h.keys,List.getElem?_map,hi.2] at h1
 simpa using h1.symm
theorem range_keys {w:World} {r:Nat} {es:Array MapEntry} {clock:Nat} {ks:List Int} (hb:w.heap[r]?=some (.map es clock)) (he:Kf es.toList clock ks) :
  (Instr.range 131 (.map (some r))).run Tryz.prog w=.ok (.pointer (some ⟨w.heap.size,0,none⟩)) (w.alloc (.mapIter (some r) clock #[] clock))/\Rj (w.alloc (.mapIter (some r) clock #[] clock)) w.heap.size r ks ks:=by
 have hk:Keep No w (w.alloc (.mapIter (some r) clock #[] clock)):=(Keep.refl _ w).alloc _
 refine ⟨?_,⟨es,clock,#[],Qy w _,hk.heap hb (fun h=>h),he,?_⟩⟩
 ·simp [Instr.range,run_underlying Tryz.underlying131,MapKept.run_getObj_map hb,newObj,Sem.run,Result.andThen]
 ·have e:(es.toList.zip ks).filter (fun p=>!(#[]:Array Nat).contains p.1.born)=es.toList.zip ks:=List.filter_eq_self.2 (fun p _=>by simp)
  rw [e]
  exact (List.map_snd_zip (by rw [he.len];exact Nat.le_refl _)).symm
theorem Rj.num {w:World} {it r:Nat} {ks left:List Int} (h:Rj w it r ks left):He w it=left.length:=by
 obtain ⟨es,clock,seen,hi,hb,he,hl⟩:=h.ex
 have e:es.toList=(es.toList.zip ks).map (·.1):=(List.map_fst_zip (by rw [he.len];exact Nat.le_refl _)).symm
 have h1:(leftOf es seen).toList=es.toList.filter (fun e=>!seen.contains e.born):=by simp [leftOf]
 have h2:(leftOf es seen).size=left.length:=by
  rw [<- Array.length_toList,h1,hl,List.length_map]
  conv=>lhs;rw [e]
  rw [List.filter_map,List.length_map]
  rfl
 simp only [He,hi,hb,h2]
theorem next_keys {w:World} {it r:Nat} {ks left:List Int} (h:Rj w it r ks left) (ty:TypeId) :
  (left=[]/\(Instr.next (.pointer (some ⟨it,0,none⟩)) false ty).run Tryz.prog w=.ok (.tuple #[.bool false]) w) \/
  ∃ k∈left,∃ v w',(Instr.next (.pointer (some ⟨it,0,none⟩)) false ty).run Tryz.prog w=.ok (.tuple #[.bool true,.int .u64 k,v]) w' /\
   (Instr.entry (.pointer (some ⟨it,0,none⟩))).run Tryz.prog w'=.ok (.tuple #[.int .u64 k,v]) w' /\
   Rj w' it r ks (left.filter (fun x=>x != k))/\Keep (·=it) w w':=by
 obtain ⟨es,clock,seen,hi,hb,he,hl⟩:=h.ex
 have hrne:r≠it:=by rintro rfl;rw [hi] at hb;cases hb
 have hleft:(leftOf es seen).toList=((es.toList.zip ks).filter (fun p=>!seen.contains p.1.born)).map (·.1):=by
  have e:es.toList=(es.toList.zip ks).map (·.1):=(List.map_fst_zip (by rw [he.len];exact Nat.le_refl _)).symm
  have:(leftOf es seen).toList=es.toList.filter (fun e=>!seen.contains e.born):=by simp [leftOf]
  rw [this]
  conv=>lhs;rw [e]
  rw [List.filter_map]
  rfl
 rcases run_next_at (P:=Tryz.prog) w ty it r clock clock seen es clock hi hb he.clock (Nat.le_refl _) with ⟨h0,hrun⟩ | ⟨e,hel,w1,hw1,hrun⟩
 ·left
  refine ⟨?_,hrun⟩
  have:(leftOf es seen).toList=[]:=List.eq_nil_of_length_eq_zero (by simpa using h0)
  rw [hleft] at this
  rw [hl,List.map_eq_nil_iff.1 this]
  rfl
 ·right
  rw [hleft] at hel
  obtain ⟨p,hp,rfl⟩:=List.mem_map.1 hel
  obtain ⟨hpz,hps⟩:=List.mem_filter.1 hp
  have hpk:=he.at_ hpz
  have hk:Keep (·=it) w (ChangeMaps.setBlock w1 it (.mapIter (some r) clock (seen.push p.1.born) clock)):=by
   rcases hw1 with rfl | rfl
   ·exact Keep.setObj (F:=(·=it)) (Keep.refl _ w1) (r:=it) (.inl rfl) _
   ·exact Keep.setObj (F:=(·=it)) (Keep.drew (Keep.refl _ w)) (r:=it) (.inl rfl) _
  have hil:it<w1.heap.size:=by rcases hw1 with rfl | rfl <;> exact Qt hi
  have hi':(ChangeMaps.setBlock w1 it (.mapIter (some r) clock (seen.push p.1.born) clock)).heap[it]?=some (.mapIter (some r) clock (seen.push p.1.born) clock):=by
   simp [ChangeMaps.setBlock,hil]
  have hb':=hk.heap hb hrne
  have hnd:(es.toList.map (fun e:MapEntry=>e.born)).Nodup:=by
   rw [List.nodup_iff_pairwise_ne,List.pairwise_map]
   exact he.born.imp (fun h=>Nat.ne_of_lt h)
  rw [hpk] at hrun
  refine ⟨p.2,by rw [hl];exact List.mem_map_of_mem hp,p.1.val,_,hrun,?_,⟨es,clock,seen.push p.1.born,hi',hb',he,?_⟩,hk⟩
  ·rw [run_entry_at _ it r clock seen es clock p.1 hi' hb' (List.of_mem_zip (a:=p.1) (b:=p.2) hpz).1 hnd,hpk]
  ·rw [hl,List.filter_map]
   congr 1
   rw [List.filter_filter]
   apply List.filter_congr
   intro q hq
   have hborn:(es.toList.zip ks).Pairwise (fun a b=>a.1.born≠b.1.born):=by
    have:=he.born.imp (S:=fun a b:MapEntry=>a.born≠b.born) (fun h=>Nat.ne_of_lt h)
    have e:es.toList=(es.toList.zip ks).map (·.1):=(List.map_fst_zip (by rw [he.len];exact Nat.le_refl _)).symm
    rw [e,List.pairwise_map] at this
    exact this
   have hkeys:(es.toList.zip ks).Pairwise (fun a b=>a.2≠b.2):=by
    have:=he.nodup
    have e:ks=(es.toList.zip ks).map (·.2):=(List.map_snd_zip (by rw [he.len];exact Nat.le_refl _)).symm
    rw [e,List.nodup_iff_pairwise_ne,List.pairwise_map] at this
    exact this
   have hiff:q.1.born=p.1.born ↔ q.2=p.2:=by
    constructor
    ·intro h;rw [pairwise_inj (f:=fun a:MapEntry × Int=>a.1.born) hborn q hq p hpz h]
    ·intro h;rw [pairwise_inj (f:=fun a:MapEntry × Int=>a.2) hkeys q hq p hpz h]
   by_cases h1:q.1.born=p.1.born
   ·simp [h1,hiff.1 h1]
   ·have h2:¬q.2=p.2:=fun h=>h1 (hiff.2 h)
    simp [h1,h2]
theorem Rj.walks {w w':World} {it r:Nat} {ks left:List Int} (h:Rj w it r ks left) (k:KeepsWalks w w'):Rj w' it r ks left:=by
 obtain ⟨es,clock,seen,hi,hb,he,hl⟩:=h.ex
 exact ⟨es,clock,seen,k.same _ _ hi rfl,k.same _ _ hb rfl,he,hl⟩
theorem Keep.grownIt {w w':World} {it:Nat} (k:Keep (·=it) w w'):w.grownBy w' (some it) :=
 ⟨k.os,k.tape,k.output,k.size,fun b hb hn=>k.block b hb (fun e=>hn (by rw [e]))⟩
theorem perm_filter_ne {left:List Int} {k:Int} (hk:k∈left) (hn:left.Nodup):(k :: left.filter (fun x=>x != k)).Perm left:=by
 refine (List.perm_ext_iff_of_nodup ?_ hn).2 (fun x=>?_)
 ·exact List.nodup_cons.2 ⟨by simp,hn.sublist List.filter_sublist⟩
 ·simp only [List.mem_cons,List.mem_filter,bne_iff_ne]
  constructor
  ·rintro (rfl | h)
   ·exact hk
   ·exact h.1
  ·intro h
   by_cases e:x=k
   ·exact .inl e
   ·exact .inr ⟨h,e⟩
end Go.Proofs.YtfdmbomlkpkegaaGreat
namespace Go.Proofs.YtfdmbomlkpkegaaGreat
open Go Go.RowKit Go.Shelf Go.Maps
attribute [local go_sem] Oper.semAt_some
theorem keysIt_stops (n:Nat) (hn:1<=n) {w:World} {Bm r:Nat} {es:Array MapEntry} {clock:Nat} {ks:List Int} (hb:w.heap[r]?=some (.map es clock)) (he:Kf es.toList clock ks) (hBl:Bm<w.heap.size) (hm:w.cell? ⟨Bm,0,none⟩=some (.map (some r))) :
  SeqStops Fence.wide n Tryz.prog 184 #[.pointer (some ⟨Bm,0,none⟩)] (fun x:Int=>.int .u64 x) (fun ss=>ss.Perm ks) (fun _=>True) ks.length w:=by
 intro l J Jx W hW hJ _ hY h0
 have hrl:r<w.heap.size:=Qt hb
 have hbW:W.heap[r]?=some (.map es clock):=(hW.block r hrl).trans hb
 have hmW:W.cell? ⟨Bm,0,none⟩=some (.map (some r)):=(hW.cell (p:=⟨Bm,0,none⟩) hBl).trans hm
 obtain ⟨hrun,hI0⟩:=range_keys hbW he
 have hJ0:J [] (W.alloc (.mapIter (some r) clock #[] clock)):=hJ [] W _ none h0 (World.grownBy_alloc W _ none) (fun r e=>by cases e)
 have HP:=Lib.hid (A2 hJ hY)
 clear hJ hY hW h0 hb hm
 refine callsIn_of_wp Tryz.func184 rfl trivial ?_ rfl
 simp only [Tryz.ntmps184,List.size_toArray,List.length_cons,List.length_nil,Nat.reduceAdd,Nat.reduceSub,Array.replicate_succ,Array.replicate_zero,List.push_toArray,List.append_toArray,List.nil_append,List.cons_append]
 gi_wp2
 gi_loopw [3] (fun _ wr=>∃ (left ss:List Int),Rj wr W.heap.size r ks left/\left.Nodup/\(ss++left).Perm ks/\J ss wr) (fun _ wr=>He wr W.heap.size)
 case atStart=>exact ⟨ks,[],hI0,he.nodup,by simp,hJ0⟩
 case round =>
  clear hI0 hJ0 hrun
  obtain ⟨left,ss,hI,hnd,hperm,hJs⟩:=hrel
  have hlen:ss.length+left.length=ks.length:=by rw [<- List.length_append];exact hperm.length_eq
  rcases next_keys hI 0 with ⟨rfl,hrun⟩ | ⟨k,hk,v,w2,hrun,hent,hI2,hkeep⟩
  ·have HF:=Lib.hid (A2 hperm hJs)
   clear hI hnd hperm hJs
   gi_wp2
   go_end0
   exact ⟨⟨_,rfl⟩,.inl ⟨ss,by simpa using HF.out.1,HF.out.2⟩⟩
  ·have hit:∃ o:Obj,wr.heap[W.heap.size]?=some o/\o.isWalk=true:=by
    obtain ⟨es',c',seen',h1,_⟩:=hI.ex
    exact ⟨_,h1,rfl⟩
   have hJ2:J ss w2:=HP.out.1 ss wr w2 (some W.heap.size) hJs hkeep.grownIt (fun r e=>by cases e;exact ⟨Nat.le_refl _,hit⟩)
   have hpos:0<left.length:=List.length_pos_of_mem hk
   obtain ⟨fn,tmps,assign,body,hy,hR⟩:=HP.out.2 ss k w2 hJ2 (by omega)
   have hp2:=perm_filter_ne hk hnd
   have hn1:=hI.num
   have HF:=Lib.hid (A5 hI2 (hnd.sublist (List.filter_sublist (p:=fun x=>x != k))) hp2 hperm hn1)
   clear hI hnd hperm hJs hI2 hkeep hit hJ2 hp2 hn1 hlen hpos hk
   gi_wp2
   refine hR.mono ?_
   rintro e W3 (⟨rfl,hJ3,hk3⟩ | ⟨rfl,hJx3⟩)
   ·gi_wp2
    go_roundw
    case rel =>
     refine ⟨left.filter (fun x=>x != k),ss++[k],HF.out.1.walks hk3,HF.out.2.1,?_,hJ3⟩
     rw [List.append_assoc]
     exact (List.Perm.append_left ss HF.out.2.2.1).trans HF.out.2.2.2.1
    case measure =>
     have h1:=HF.out.2.2.1.length_eq
     rw [(HF.out.1.walks hk3).num,HF.out.2.2.2.2]
     simp only [List.length_cons] at h1
     omega
   ·gi_wp2
    refine bodyPost_ret (results_none rfl _ _ _) rfl ?_
    exact ⟨⟨_,rfl⟩,.inr ⟨ss++[k],trivial,hJx3⟩⟩
theorem keys_spec (n:Nat) (mb:Option Nat) (w:World) :
  Go.CallsIn Fence.wide n Tryz.prog 129 #[.map mb] w fun e w'=>e=.returned (.func (.func 184) #[] #[.pointer (some ⟨w.heap.size,0,none⟩)])/\w'=w.alloc (.cells #[.map mb] 131):=by
 refine callsIn_of_wp Tryz.func129 rfl trivial ?_ rfl
 simp only [Tryz.ntmps129,List.size_toArray,List.length_cons,List.length_nil,Nat.reduceAdd,Nat.reduceSub,Array.replicate_succ,Array.replicate_zero,List.push_toArray,List.append_toArray,List.nil_append,List.cons_append]
 gi_wp2
 go_ret
 exact ⟨rfl,rfl⟩
end Go.Proofs.YtfdmbomlkpkegaaGreat
namespace Go.Proofs.YtfdmbomlkpkegaaGreat
open Go Go.RowKit Go.Shelf Go.Sort
attribute [local go_sem] Oper.semAt_some
theorem info_u64:(Tryz.prog.info? 27).map (fun i=>(i.zero,i.size,i.bytes))=some (some (.int .u64 0),1,8):=by kernel_rfl
theorem KeepsOthers.walks {W W':World} (h:KeepsOthers W W'):KeepsWalks W W' :=
 ⟨h.size,fun k o hk ho=>h.same k o hk (by cases o <;> simp_all [Obj.isWalk,Obj.isCells])⟩
theorem appseq_spec (n:Nat) (hn:3<=n) {w:World} {Bm r:Nat} {es:Array MapEntry} {clock:Nat} {ks:List Int} (hb:w.heap[r]?=some (.map es clock)) (he:Kf es.toList clock ks) (hBl:Bm<w.heap.size) (hm:w.cell? ⟨Bm,0,none⟩=some (.map (some r)))
  (hlen:ks.length<=1099511627776) :
  Go.CallsIn Fence.wide n Tryz.prog 210 #[.slice none 0 0,.func (.func 184) #[] #[.pointer (some ⟨Bm,0,none⟩)]] w fun e W'=>∃ v,∃ ss:List Int,e=.returned v/\ss.Perm ks /\
   W'.ownsRow w.heap.size 27 1 v ss.length (ss.map (.int .u64 ·))/\(v=.slice none 0 0 ↔ ss=[])/\Below w.heap.size w W':=by
 have h1:1<=n:=by omega
 obtain ⟨i0,hi,hz0,hz1,hz2⟩:=info_parts info_u64
 have bO:=Boxed.new w 52 (.slice none 0 0)
 have hB0:Below w.heap.size w (w.alloc (.cells #[.slice none 0 0] 52)):=(Below.refl _ w).alloc (Nat.le_refl _) _
 have hseq:=keysIt_stops (n - 1) (by omega) hb he hBl hm
 have hml:(ks.length:Nat)<=maxLen:=by unfold maxLen;omega
 have hby:ks.length*8<=140737488355328:=by omega
 refine callsIn_of_wp_marks Tryz.func210 rfl trivial ?_ rfl
 simp only [Tryz.ntmps210,List.size_toArray,List.length_cons,List.length_nil,Nat.reduceAdd,Nat.reduceSub,Array.replicate_succ,Array.replicate_zero,List.push_toArray,List.append_toArray,List.nil_append,List.cons_append]
 gi_wp2
 refine wpIn_rangeFunc_ownF rfl h1 (gf:=184) (lb:=#[.pointer (some ⟨Bm,0,none⟩)]) rfl trivial (enters_of Tryz.func184 (by kernel_rfl) rfl)
  hseq walksK_t walksK_b hB0 (fun _=>rfl)
  (fun pre W=>(∃ v,Boxed W w.heap.size 52 v/\W.ownsRow w.heap.size 27 1 v pre.length (pre.map (Value.int .u64 ·))/\(v=.slice none 0 0 ↔ pre=[]))/\Below w.heap.size w W)
  (fun _ _ _=>False)
  (OwnFrom.and (Own.from (holdsRow_own w.heap.size w.heap.size 52 27 1 (fun pre:List Int=>pre.length) (fun pre=>pre.map (Value.int .u64 ·)) (fun pre v=>v=.slice none 0 0 ↔ pre=[])) _) (ownFrom_below (Nat.le_refl _) (by simp)))
  (fun _ _ _ _ _ hs _ _=>hs)
  ⟨⟨_,bO,World.ownsRow_nil _ _ _ _,by simp⟩,hB0⟩
  (fun x=>{ tmps:=#[.slice none 0 0,.func (.func 184) #[] #[.pointer (some ⟨Bm,0,none⟩)],.pointer (some ⟨w.heap.size,0,none⟩),undef,.slice none 0 0,.int .u64 x,.func (.func 184) #[] #[.pointer (some ⟨Bm,0,none⟩)],.int .u64 x,undef,undef,undef,undef,undef],defers:=[] }) ?assign ?body ?done ?stop
 case assign =>
  intro l x W K hK
  gi_wp2
  exact hK
 case body =>
  rintro l pre x W ⟨⟨v,hv,hrow,hnil⟩,hB⟩ hlt
  have hc:=hv.cell
  gi_wp2_with (gi_at_builtin;refine wpListIn_append_own _ rfl _ _ 52 rfl w.heap.size 27 i0 (.int .u64 0) 1 8 Tryz.underlying52 hi hz0 hz1 hz2 rfl (by decide) _ _ _ rfl (hrow.alloc _) ⟨W.heap.size,0,none⟩ 1 1 [.int .u64 x] rfl rfl (cell_one_new _ _ _) (by simp [Value.oneCell']) (by omega) (by omega) (by have:=hB.size;simp;omega) ?_;intro v' w1 hown' hgrow _;obtain ⟨g',cap',rfl⟩:=ownsRow_succ hown';obtain ⟨hv1,hv2,hr2,hk2,hb2⟩:=hv.appended (by decide) hrow hB.size (Nat.le_refl _) hown' hgrow;have hc1:=hv1.cell;have hf1:=hv1.frozen)
  exact ⟨hk2,KeepsOthers.walks hk2,⟨_,hv2,by simpa using hr2,by simp⟩,hB.trans hb2⟩
 case done =>
  rintro D ys W hD hperm ⟨⟨v,hv,hrow,hnil⟩,hB⟩ hK
  have hc:=hv.cell
  gi_wp2
  refine ⟨by simp,.inl ⟨_,_,rfl,run_takeDeferred hK,?_⟩⟩
  exact ⟨_,results_tmp rfl _ _ _,v,ys,rfl,hperm,ownsRow_putObj hrow _ hK rfl,hnil,hB.trans (belowK_b (w:=w) (Nat.le_refl _) W D _ _ (by simp at hD;omega) hK rfl rfl)⟩
 case stop =>
  rintro D c pre W _ _ h _
  exact h.elim
theorem ins_nil (w:World):Calls Tryz.prog 217 #[.slice none 0 0,.int .i64 0,.int .i64 0] w fun e w'=>e=.returned (.tuple #[])/\w'=w:=by
 go_enter Tryz.func217,Tryz.ntmps217
 go_wp2
 go_loopw [6] (fun vi wr=>vi=.int .i64 1/\wr=w) (fun _ _=>0)
 case atStart=>exact ⟨rfl,rfl⟩
 case round =>
  obtain ⟨rfl,rfl⟩:=hrel
  go_wp2
  go_end0
  exact ⟨rfl,rfl⟩
theorem pdq_nil (w:World):Calls Tryz.prog 211 #[.slice none 0 0,.int .i64 0,.int .i64 0,.int .i64 0] w fun e w'=>e=.returned (.tuple #[])/\w'=w:=by
 go_enter Tryz.func211,Tryz.ntmps211
 go_wp2
 go_loopw [1,2,3,8,9] (fun va vb _ _ _ wr=>va=.int .i64 0/\vb=.int .i64 0/\wr=w) (fun _ _ _ _ _ _=>0)
 case atStart=>exact ⟨rfl,rfl,rfl⟩
 case round =>
  obtain ⟨rfl,rfl,rfl⟩:=hrel
  go_wp2_with (go_at_call 217;refine (ins_nil _).mono ?_;rintro e w2 ⟨rfl,rfl⟩)
  refine bodyPost_ret (results_none rfl _ _ _) rfl ?_
  exact ⟨rfl,rfl⟩
theorem sort_nil (w:World):Calls Tryz.prog 183 #[.slice none 0 0] w fun e w'=>e=.returned (.tuple #[])/\w'=w:=by
 have hl:∀ w,Calls Tryz.prog 212 #[.int .u64 0] w fun e w'=>e=.returned (.int .i64 0)/\w'=w:=fun w=>by
  have:=len_spec 0 (by decide) (by decide) w
  exact this
 go_enter Tryz.func183,Tryz.ntmps183
 go_wp2_with (first
  | (go_at_call 212;refine (hl _).mono ?_;rintro e w1 ⟨rfl,rfl⟩)
  | (go_at_call 211;refine (pdq_nil _).mono ?_;rintro e w2 ⟨rfl,rfl⟩))
 go_end0
 exact ⟨rfl,rfl⟩
theorem sort_spec {w:World} {g cap:Nat} {d:Array Int} (h:Zj w g 0 d) (HSZ:Hid (d.size<65536)) :
  Calls Tryz.prog 183 #[.slice (some ⟨g,0,none⟩) d.size cap] w fun e w'=>e=.returned (.tuple #[])/\∃ d',PermIn 0 d.size d d'/\SortedIn ltInt 0 d.size d'/\Zj w' g 0 d'/\Keep (·=g) w w':=by
 have hl:∀ w,Calls Tryz.prog 212 #[.int .u64 d.size] w fun e w'=>e=.returned (.int .i64 (bitsLen d.size))/\w'=w:=fun w=>by
  have:=len_spec (d.size:Int) (by omega) (by have:=HSZ.out;omega) w
  simpa using this
 have hb:bitsLen d.size<=1000:=Nat.le_trans ((bitsLen_le_iff d.size 17).2 (by have:=HSZ.out;omega)) (by decide)
 have hp:=pdq_spec (g:=g) (off:=0) (cap:=cap) d.size w d 0 d.size (bitsLen d.size) (by omega) h (Nat.zero_le _) (Nat.le_refl _) HSZ hb (Or.inl rfl)
 have hsz:(d.size:Int)<=1099511627776:=by have:=HSZ.out;omega
 clear hb h
 go_enter Tryz.func183,Tryz.ntmps183
 go_wp2_with (first
  | (go_at_call 212;refine (hl _).mono ?_;rintro e w1 ⟨rfl,rfl⟩)
  | (go_at_call 211;refine hp.mono ?_;rintro e w2 ⟨rfl,hq⟩))
 go_end0
 exact ⟨rfl,hq⟩
theorem perm_mergeSort {a b:List Int} (h:a.Perm b):a.mergeSort (fun x y=>decide (x<=y))=b.mergeSort (fun x y=>decide (x<=y)):=by
 have hs:∀ l:List Int,(l.mergeSort (fun x y=>decide (x<=y))).Pairwise (fun x y=>x<=y):=fun l=>by
  have:=List.pairwise_mergeSort (le:=fun x y:Int=>decide (x<=y)) (fun x y z h1 h2=>by simp at h1 h2 ⊢;omega) (fun x y=>by simp;omega) l
  exact this.imp (fun h=>by simpa using h)
 exact (((List.mergeSort_perm a _).trans h).trans (List.mergeSort_perm b _).symm).eq_of_pairwise (le:=fun x y=>x<=y) (fun x y _ _ h1 h2=>Int.le_antisymm h1 h2) (hs a) (hs b)
theorem sorted_list {d d':Array Int} (h1:PermIn 0 d.size d d') (h2:SortedIn ltInt 0 d.size d'):d'.toList=d.toList.mergeSort (fun x y=>decide (x<=y)):=by
 have:=sorted_unique_holds swo_ltInt (fun x y hx hy=>by simp [ltInt] at hx hy;omega) d d' h1 h2
 rw [this]
 congr 1
 funext x y
 simp only [ltInt]
 by_cases h:y<x
 ·have h':¬x<=y:=by omega
  simp [h,h']
 ·have h':x<=y:=by omega
  simp [h,h']
theorem Below.keepNo {w w':World} (h:Go.RowKit.Below w.heap.size w w'):Keep No w w':=⟨h.os,h.tape,h.output,h.size,fun b hb _=>h.block b hb⟩
theorem collect_spec {w:World} {Bm r:Nat} {es:Array MapEntry} {clock:Nat} {ks:List Int} (hb:w.heap[r]?=some (.map es clock)) (he:Kf es.toList clock ks) (hBl:Bm<w.heap.size) (hm:w.cell? ⟨Bm,0,none⟩=some (.map (some r)))
  (hlen:ks.length<=1099511627776) :
  Calls Tryz.prog 182 #[.func (.func 184) #[] #[.pointer (some ⟨Bm,0,none⟩)]] w fun e W'=>∃ v,∃ ss:List Int,e=.returned v/\ss.Perm ks /\
   W'.ownsRow w.heap.size 27 1 v ss.length (ss.map (.int .u64 ·))/\(v=.slice none 0 0 ↔ ss=[])/\Keep No w W':=by
 have hap:=(callsIn_wide (n:=6)).1 (appseq_spec 6 (by omega) hb he hBl hm hlen)
 clear hb hm
 go_enter Tryz.func182,Tryz.ntmps182
 go_wp2_with (go_at_call 210;refine hap.mono ?_;rintro e w2 ⟨v,ss,rfl,h1,h2,h3,h4⟩)
 go_ret
 exact ⟨v,ss,rfl,h1,h2,h3,Below.keepNo h4⟩
theorem sorted_spec {w:World} {Bm r:Nat} {es:Array MapEntry} {clock:Nat} {ks:List Int} (hb:w.heap[r]?=some (.map es clock)) (he:Kf es.toList clock ks) (hBl:Bm<w.heap.size) (hm:w.cell? ⟨Bm,0,none⟩=some (.map (some r)))
  (HSZ:Hid (ks.length<65536)) :
  Calls Tryz.prog 128 #[.func (.func 184) #[] #[.pointer (some ⟨Bm,0,none⟩)]] w fun e W'=>∃ v,e=.returned v/\Kh W' v (ks.mergeSort (fun x y=>decide (x<=y)))/\Keep No w W':=by
 have hco:=collect_spec hb he hBl hm (by have:=HSZ.out;omega)
 clear hb hm he
 go_enter Tryz.func128,Tryz.ntmps128
 go_wp2_with (go_at_call 182;refine hco.mono ?_;rintro e w1 ⟨v,ss,rfl,hperm,hrow,hnil,hk⟩)
 have hlen:=hperm.length_eq
 rcases hrow.2 with ⟨rfl,h0⟩ | ⟨g,cap,cur,rfl,hbg,hg,h1,h2,h3,h4⟩
 ·have hss:ss=[]:=List.eq_nil_of_length_eq_zero h0
  subst hss
  have hks:ks=[]:=by simpa using hperm.symm.eq_nil
  subst hks
  go_wp2_with (go_at_call 183;refine (sort_nil _).mono ?_;rintro e w2 ⟨rfl,rfl⟩)
  go_ret
  exact ⟨_,rfl,⟨none,0,by simp,by simp,by decide,.inl (by simp)⟩,hk⟩
 ·have hR:Zj w1 g 0 ss.toArray:=by
   refine ⟨cur,hg,fun j hj=>?_⟩
   have hj':j<ss.length:=by simpa using hj
   have e1:(cur.toList.take (ss.length*1))[j]?=(ss.map (Value.int .u64 ·))[j]?:=by rw [h4]
   rw [List.getElem?_take,if_pos (by omega),List.getElem?_map,Array.getElem?_toList] at e1
   rw [Nat.zero_add,e1,List.getElem?_eq_getElem hj']
   have e2:ss.toArray[j]! = ss[j]:=by rw [getElem!_pos ss.toArray j hj];simp
   rw [e2]
   rfl
  have hso:=sort_spec (cap:=cap) hR (by have:=HSZ.out;exact Lib.hid (by simp;omega))
  have hsz:ss.toArray.size=ss.length:=by simp
  rw [hsz] at hso
  have HP:=Lib.hid (A4 hperm hlen h1 h2)
  clear hR hrow h1 h2 h3 h4 hg hnil hco hperm hlen hsz
  go_wp2_with (go_at_call 183;refine hso.mono ?_;rintro e w2 ⟨rfl,d',hp,hs,hR2,hk2⟩)
  go_ret
  have hsl:=sorted_list (d:=ss.toArray) (by simpa using hp) (by simpa using hs)
  have hml:ks.mergeSort (fun x y=>decide (x<=y))=d'.toList:=by rw [hsl,<- perm_mergeSort HP.out.1]
  have hl2:d'.toList.length=ss.length:=by rw [hsl,(List.mergeSort_perm _ _).length_eq]
  rw [hml]
  refine ⟨.slice (some ⟨g,0,none⟩) ss.length cap,rfl,⟨some ⟨g,0,none⟩,cap,by rw [hl2],by rw [hl2];exact HP.out.2.2.1,HP.out.2.2.2,.inr ⟨g,rfl,by simpa using hR2⟩⟩,hk.absorb hk2 (fun b e=>by rw [e];exact hbg)⟩
theorem dsegs_spec [bn:Inhabited Ban] {base:Nat} {w:World} {p n s:Nat} {wv:Value} {d:Qr} (h:Qo base w p n s wv d) (hl:d.now.length<=10000) :
  Calls Tryz.prog 83 #[.pointer (some ⟨p,0,none⟩)] w fun e w'=>∃ v,e=.returned v/\Kh w' v (Yk d.now)/\Keep No w w':=by
 have c2:=Qq h.blk 2
 simp at c2
 obtain ⟨es,clock,hb,he⟩:=h.now.keyEnts
 have kA:Keep No w (w.alloc (.cells #[.map (some n)] 131)):=(Keep.refl _ _).alloc _
 have hks:=(callsIn_wide (n:=6)).1 (keys_spec 6 (some n) w)
 have hso:=sorted_spec (w:=w.alloc (.cells #[.map (some n)] 131)) (Bm:=w.heap.size) (kA.heap hb (fun e=>e)) he (by simp) (by simp) (Lib.hid (by simp;omega))
 have HK:=Lib.hid kA
 clear hb he kA h
 go_enter Tryz.func83,Tryz.ntmps83
 go_wp2_with (first
  | (go_at_call 129;refine hks.mono ?_;rintro e w1 ⟨rfl,rfl⟩)
  | (go_at_call 128;refine hso.mono ?_;rintro e w2 ⟨v,rfl,hN,hk⟩))
 go_ret
 exact ⟨v,rfl,hN,HK.out.then hk⟩
end Go.Proofs.YtfdmbomlkpkegaaGreat
