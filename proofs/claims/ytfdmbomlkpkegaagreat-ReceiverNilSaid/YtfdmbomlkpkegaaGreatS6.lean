/- Lemmas for ReceiverNil. -/
import Derived.Test.YtfdmbomlkpkegaaGreatS5
set_option maxRecDepth 100000
set_option maxHeartbeats 8000000
set_option linter.all false
namespace Go.Proofs.YtfdmbomlkpkegaaGreat
open Go Go.RowKit
def runCell (r:RunN):List Value:=[.int .u64 r.1,.int .u64 r.2]
def Yd (l:List RunN):List Value:=l.flatMap runCell
theorem runCells_append (l m:List RunN):Yd (l++m)=Yd l++Yd m:=by simp [Yd]
theorem runCells_length (l:List RunN):(Yd l).length=l.length*2:=by
 induction l with
 | nil=>rfl
 | cons x l ih=>simp only [Yd,List.flatMap_cons,List.length_append,List.length_cons] at ih ⊢;rw [ih];simp [runCell];omega
theorem runCells_at:∀ {l:List RunN} {i:Nat} {r:RunN},l[i]?=some r->(Yd l)[i*2]?=some (.int .u64 r.1)/\(Yd l)[i*2+1]?=some (.int .u64 r.2)
 | [],i,r,h=>by simp at h
 | x :: l,0,r,h=>by
  simp at h
  subst h
  exact ⟨rfl,rfl⟩
 | x :: l,i+1,r,h=>by
  obtain ⟨h1,h2⟩:=runCells_at (l:=l) (i:=i) (r:=r) (by simpa using h)
  have e:Yd (x :: l)=.int .u64 x.1 :: .int .u64 x.2 :: Yd l:=rfl
  rw [e,show (i+1)*2=i*2+1+1 by omega,show i*2+1+1+1=(i*2+1)+1+1 by omega]
  simp only [List.getElem?_cons_succ]
  exact ⟨h1,h2⟩
theorem runCells_one (l:List RunN):∀ u∈Yd l,u.oneCell'=true:=by
 intro u hu
 obtain ⟨r,_,hr⟩:=List.mem_flatMap.1 hu
 simp [runCell] at hr
 rcases hr with rfl | rfl <;> rfl
theorem runCells_of {l:List RunN} {j:Nat} {u:Value} (h:(Yd l)[j]?=some u):∃ r,l[j / 2]?=some r/\(u=if j % 2=0 then .int .u64 r.1 else .int .u64 r.2):=by
 have hlt:=(List.getElem?_eq_some_iff.1 h).1
 rw [runCells_length] at hlt
 have hr:l[j / 2]?=some l[j / 2]:=List.getElem?_eq_getElem (by omega)
 obtain ⟨h1,h2⟩:=runCells_at hr
 refine ⟨_,hr,?_⟩
 by_cases hj:j % 2=0
 ·rw [if_pos hj]
  rw [show j / 2*2=j by omega,h] at h1
  exact Option.some.inj h1
 ·rw [if_neg hj]
  rw [show j / 2*2+1=j by omega,h] at h2
  exact Option.some.inj h2
def OwnR (w:World) (B:Nat) (v:Value) (l:List RunN):Prop:=w.ownsRow B 96 2 v l.length (Yd l)
theorem OwnR.nil (w:World) (B:Nat):OwnR w B (.slice none 0 0) []:=World.ownsRow_nil _ _ _ _
theorem OwnR.runs {w:World} {B:Nat} {v:Value} {l:List RunN} (h:OwnR w B v l):Zy w v l:=by
 rcases h.2 with ⟨rfl,h0⟩ | ⟨g,cap,cur,rfl,hb,hg,h1,h2,h3,h4⟩
 ·obtain rfl:l=[]:=List.eq_nil_of_length_eq_zero h0
  exact Zy.nil _
 ·refine ⟨_,cap,rfl,h1,h2,fun e=>(by cases e),fun _=>⟨g,0,rfl,⟨_,_,hg⟩,fun i r hi=>?_⟩⟩
  have hlt:=(List.getElem?_eq_some_iff.1 hi).1
  obtain ⟨a1,a2⟩:=runCells_at hi
  rw [<- h4,List.getElem?_take] at a1 a2
  rw [if_pos (by omega)] at a1 a2
  rw [Qq hg,Qq hg]
  simp only [Nat.zero_add]
  exact ⟨by simpa using a1,by simpa using a2⟩
theorem OwnR.form {w:World} {B:Nat} {v:Value} {l:List RunN} (h:OwnR w B v l):∃ ao cap,v=.slice ao l.length cap/\l.length<=cap/\cap<=maxLen:=Kj h
theorem OwnR.lt {w:World} {B:Nat} {v:Value} {l:List RunN} (h:OwnR w B v l):∀ b,v.ownBlock=some b->B<=b/\b<w.heap.size:=World.ownsRow.lt h
theorem OwnR.keep {w w':World} {B:Nat} {v:Value} {l:List RunN} {F:Nat->Prop} (h:OwnR w B v l) (k:Keep F w w') (hF:∀ b,v.ownBlock=some b->¬F b):OwnR w' B v l:=Yu h k hF
theorem info_run:(Tryz.prog.info? 96).map (fun i=>(i.zero,i.size,i.bytes))=some (some (.agg #[.int .u64 0,.int .u64 0]),2,16):=by kernel_rfl
theorem run_append_runs {w:World} (ty:TypeId) {B:Nat} {v u:Value} {l m:List RunN} (hown:OwnR w B v l) (hsrc:Zy w u m) (hlen:l.length+m.length<=1099511627776) (hB:B<=w.heap.size) :
  ∃ v' w',(Builtin.append_ #[67,67] ty #[v,u]).run Tryz.prog w=.ok v' w'/\OwnR w' B v' (l++m)/\Keep (fun b=>v.ownBlock=some b) w w':=by
 obtain ⟨i0,hi,hz0,hz1,hz2⟩:=info_parts info_run
 obtain ⟨ao,cap,rfl,hc,hm,hn,hcell⟩:=hsrc
 cases ao with
 | none =>
  obtain rfl:=hn rfl
  have hm0:m=[]:=List.eq_nil_of_length_eq_zero (by omega)
  subst hm0
  have hrun:=run_append_owned_none (P:=Tryz.prog) w B 67 ty 96 i0 2 Tryz.underlying67 hi v l.length (Yd l) hown
  exact ⟨v,w,hrun,by rw [List.append_nil];exact hown,Keep.refl _ _⟩
 | some ad =>
  obtain ⟨v',w',hrun,h1,h2,_⟩:=run_append_own (P:=Tryz.prog) w B 67 ty 96 i0 _ 2 16 Tryz.underlying67 hi hz0 hz1 hz2 rfl (by decide) v l.length (Yd l) hown
   ad m.length cap (Yd m) (runCells_length m) (fun j y hj=>by
    obtain ⟨r,hr,hy⟩:=runCells_of hj
    have hlt:=(List.getElem?_eq_some_iff.1 hr).1
    obtain ⟨g,o,e,_,hrow⟩:=hcell (by omega)
    simp only [Option.some.injEq] at e
    subst e
    obtain ⟨c1,c2⟩:=hrow _ _ hr
    have ea:(⟨g,o,none⟩:Addr).add j=⟨g,o+j,none⟩:=by simp [Addr.add]
    rw [ea,hy]
    by_cases hj2:j % 2=0
    ·rw [show o+j / 2*2=o+j by omega] at c1
     rw [if_pos hj2]
     exact c1
    ·rw [show o+j / 2*2+1=o+j by omega] at c2
     rw [if_neg hj2]
     exact c2) (runCells_one m) (by unfold maxLen;omega) (by omega) hB
  refine ⟨v',w',hrun,?_,(Keep.refl _ w).grown h2 (fun k hk=>.inl hk)⟩
  unfold OwnR
  rw [List.length_append,runCells_append]
  exact h1
theorem wp_append_runs {w:World} {o:Oper} {a:Act} {K:Act->World->Prop} {Q:Exit->Act->World->Prop} (s x:Operand)
  (ho:o.op=Op.call { callee:=Callee.builtin Builtin.append,args:=#[s,x],argTypes:=#[67,67] })
  {B:Nat} {v u:Value} {l m:List RunN} (hown:OwnR w B v l) (hsrc:Zy w u m) (hs:a.eval s=v) (hx:a.eval x=u) (hlen:l.length+m.length<=1099511627776) (hB:B<=w.heap.size)
  (hK:∀ v' w',OwnR w' B v' (l++m)->Keep (fun b=>v.ownBlock=some b) w w'->K (a.put o.dst v') w'):o.wp Tryz.prog a w K Q:=by
 obtain ⟨v',w',hr,h1,h2⟩:=run_append_runs o.type hown hsrc hlen hB
 unfold Oper.wp execOp
 simp only [ho,resolve,invoke,builtin,Sem.run_bind,Sem.run_pure,Result.andThen_ok,List.map_toArray,List.map_cons,List.map_nil,hs,hx,hr]
 exact hK _ _ h1 h2
theorem Xo {w:World} {ops:Array Oper} {rest:List Oper} {o:Oper} {a:Act} {Q:Exit->Act->World->Prop}
  (hg:o.guard=none) (s x:Operand) (hop:o.op=Op.call { callee:=Callee.builtin Builtin.append,args:=#[s,x],argTypes:=#[67,67] })
  {B:Nat} {v u:Value} {l m:List RunN} (hown:OwnR w B v l) (hsrc:Zy w u m) (hs:a.eval s=v) (hx:a.eval x=u) (hlen:l.length+m.length<=1099511627776) (hB:B<=w.heap.size)
  (hK:∀ v' w',OwnR w' B v' (l++m)->Keep (fun b=>v.ownBlock=some b) w w'->wpList Tryz.prog ops Q rest (a.put o.dst v') w') :
  wpList Tryz.prog ops Q (o :: rest) a w :=
 wpList_plain hg fun _K hK'=>wp_append_runs s x hop hown hsrc hs hx hlen hB (fun v' w' h1 h2=>hK' _ _ (hK v' w' h1 h2))
theorem rGrow_spec {w:World} {B:Nat} (n:Nat) (hn:n<=1099511627776) (hB:B<=w.heap.size) :
  Calls Tryz.prog 215 #[.slice none 0 0,.int .i64 n] w fun e w'=>∃ v',e=.returned v'/\OwnR w' B v' []/\Keep No w w':=by
 obtain ⟨i0,hi,hz0,hz1,hz2⟩:=info_parts info_run
 by_cases h0:n=0
 ·subst h0
  go_enter Tryz.func215,Tryz.ntmps215
  go_wp2
  go_ret
  exact ⟨_,rfl,OwnR.nil _ _,Keep.refl _ _⟩
 ·have hp:(0:Int)<(n:Int):=by omega
  have hb:(n:Int)<=1099511627776:=by omega
  have hrun:=fun ty=>Lib.run_append_nil_zeros (P:=Tryz.prog) w 67 3 ty 96 i0 _ .i64 .i64 Tryz.underlying67 Tryz.underlying3 hi hz0 n (by omega) (by omega) (by omega) (by rw [hz2];omega)
  have hc:=grownCap_ge w n 0 96
  have hm:=grownCap_le_maxLen w n 0 96 (by unfold maxLen;omega)
  generalize grownCap w n 0 96=cap at hrun hc hm
  obtain ⟨cs,hcs⟩:∃ cs,cs=Builtin.zeroCells (Value.agg #[.int .u64 0,.int .u64 0]).cells n++Builtin.zeroCells (Value.agg #[.int .u64 0,.int .u64 0]).cells (cap-n):=⟨_,rfl⟩
  have hsz:cs.size=cap*2:=by
   rw [hcs,Array.size_append,size_zeroCells,size_zeroCells]
   simp [Value.cells]
   omega
  simp only [<- hcs] at hrun
  clear hcs
  have hz:=fun (o:Obj)=>heap_alloc_new w.drew o
  have hci:(n:Int)<=(cap:Int):=by omega
  have hmi:(cap:Int)<=9223372036854775807:=by unfold maxLen at hm;omega
  have HH:=Lib.hid (A3 hsz hc hm)
  clear hsz hc hm
  go_enter Tryz.func215,Tryz.ntmps215
  go_wp2_with (at_builtin;refine Lib.wpList_append_run _ rfl _ _ _ _ rfl _ _ rfl rfl _ _ (hrun _) ?_)
  go_ret
  exact ⟨_,rfl,⟨rfl,.inr ⟨w.heap.size,cap,cs,rfl,hB,hz _,Nat.zero_le _,HH.out.2.2,HH.out.1,by simp [Yd]⟩⟩,(Keep.refl _ _).drew.alloc _⟩
def RSlicesAt (w:World) (v:Value) (ls:List (List RunN)):Prop :=
 ∃ us:List Value,us.length=ls.length/\(∀ (i:Nat) u l,us[i]?=some u->ls[i]?=some l->Zy w u l) /\
  ∃ g cap,v=.slice (some ⟨g,0,none⟩) ls.length cap/\ls.length<=cap/\cap<=maxLen/\∀ (i:Nat) u,us[i]?=some u->w.cell? ⟨g,i,none⟩=some u
def catR (ls:List (List RunN)) (k:Nat):List RunN:=(ls.take k).flatten
theorem catR_zero (ls:List (List RunN)):catR ls 0=[]:=by simp [catR]
theorem catR_all (ls:List (List RunN)):catR ls ls.length=ls.flatten:=by simp [catR]
theorem catR_succ {ls:List (List RunN)} {k:Nat} {l:List RunN} (h:ls[k]?=some l):catR ls (k+1)=catR ls k++l:=by
 obtain ⟨hk,rfl⟩:=List.getElem?_eq_some_iff.1 h
 unfold catR
 rw [List.take_succ_eq_append_getElem hk,List.flatten_append,List.flatten_cons,List.flatten_nil,List.append_nil]
theorem catR_le (ls:List (List RunN)) (k:Nat):(catR ls k).length<=ls.flatten.length:=by
 unfold catR
 conv=>rhs;rw [<- List.take_append_drop k ls]
 rw [List.flatten_append,List.length_append]
 omega
theorem rConcat_spec {w:World} {v:Value} {ls:List (List RunN)} (h:RSlicesAt w v ls) (hl:ls.flatten.length<=549755813888) :
  Calls Tryz.prog 203 #[v] w fun e w'=>∃ v',e=.returned v'/\OwnR w' w.heap.size v' ls.flatten/\Keep No w w':=by
 obtain ⟨us,hus,hbs,g,cap,rfl,hlc,hcm,hcells⟩:=h
 unfold maxLen at hcm
 have hn:(ls.length:Int)<=9223372036854775807:=by omega
 have HU:=Lib.hid (A3 hus hbs hcells)
 clear hus hbs hcells
 go_enter Tryz.func203,Tryz.ntmps203
 go_wp2
 go_loop [3,11] (fun s i=>∃ k:Nat,k<=ls.length/\i=.int .i64 k/\s=.int .i64 (catR ls k).length) (fun _ i=>ls.length - (intOf i).toNat)
 case atStart=>exact ⟨0,Nat.zero_le _,rfl,rfl⟩
 case round =>
  obtain ⟨k,hk,rfl,rfl⟩:=hrel
  by_cases hlt:k<ls.length
  ·have hku:k<us.length:=by rw [HU.out.1];exact hlt
   have hc:=HU.out.2.2 k us[k] (List.getElem?_eq_getElem hku)
   have hlk:ls[k]?=some ls[k]:=List.getElem?_eq_getElem hlt
   obtain ⟨ao1,cap1,hu,_⟩:=(HU.out.2.1 k _ _ (List.getElem?_eq_getElem hku) hlk).form
   have hs:=congrArg List.length (catR_succ hlk)
   rw [List.length_append] at hs
   have hle:=catR_le ls (k+1)
   have hb1:((catR ls k).length:Int)+(ls[k].length:Int)<=549755813888:=by omega
   have hb2:(0:Int)<=((catR ls k).length:Int)+(ls[k].length:Int):=by omega
   have HS:=Lib.hid hs
   rw [hu] at hc
   generalize ls[k].length=m at *
   clear hs hle hlk hu
   have hki:(k:Int)<(ls.length:Int):=by omega
   go_wp2
   go_round
   case rel=>exact ⟨k+1,by omega,by go_num,by rw [HS.out];go_num⟩
   case measure=>simp [intOf];omega
  ·have hki:¬(k:Int)<(ls.length:Int):=by omega
   obtain rfl:k=ls.length:=by omega
   have hle:=congrArg List.length (catR_all ls)
   have hb1:((catR ls ls.length).length:Int)<=549755813888:=by omega
   clear hle hki hlt hk
   go_wp2_with (go_at_call 215;refine (rGrow_spec (B:=w.heap.size) (catR ls ls.length).length (by omega) (Nat.le_refl _)).mono ?_;rintro e w1 ⟨v0,rfl,hown0,hk0⟩)
   go_loopw [6,27] (fun v i wr=>∃ k:Nat,k<=ls.length/\i=.int .i64 k/\OwnR wr w.heap.size v (catR ls k)/\Keep No w wr) (fun _ i _=>ls.length - (intOf i).toNat)
   case atStart=>exact ⟨0,Nat.zero_le _,rfl,by rw [catR_zero];exact hown0,hk0⟩
   case round =>
    clear hown0 hk0
    obtain ⟨k,hk,rfl,hown,hkp⟩:=hrel
    by_cases hlt:k<ls.length
    ·have hku:k<us.length:=by rw [HU.out.1];exact hlt
     have hc:=hkp.cell (HU.out.2.2 k us[k] (List.getElem?_eq_getElem hku)) (fun h=>h)
     have hlk:ls[k]?=some ls[k]:=List.getElem?_eq_getElem hlt
     have hb:=(HU.out.2.1 k _ _ (List.getElem?_eq_getElem hku) hlk).no hkp
     have hs:=catR_succ hlk
     have hle:=catR_le ls (k+1)
     rw [hs,List.length_append] at hle
     have hki:(k:Int)<(ls.length:Int):=by omega
     have HS:=Lib.hid hs
     generalize us[k]=u at *
     generalize ls[k]=l at *
     clear hs hlk
     have hBs:=hkp.size
     go_wp2_with (at_builtin;refine Xo rfl _ _ rfl hown hb rfl rfl (by omega) hBs ?_;intro v' w' hown' hk')
     go_roundw
     case rel=>exact ⟨k+1,by omega,by go_num,by rw [HS.out];exact hown',hkp.trans hk' (fun x hx hxx=>by have:=(hown.lt x hxx).1;omega)⟩
     case measure=>simp [intOf];omega
    ·have hki:¬(k:Int)<(ls.length:Int):=by omega
     obtain rfl:k=ls.length:=by omega
     clear hki hlt hk
     go_wp2
     go_ret
     exact ⟨_,rfl,by rw [<- catR_all];exact hown,hkp⟩
end Go.Proofs.YtfdmbomlkpkegaaGreat
namespace Go.Proofs.YtfdmbomlkpkegaaGreat
open Go Go.RowKit Go.Dr
theorem Zy.sub {w:World} {ao:Option Addr} {n cap lo hi:Nat} {l:List RunN} (h:Zy w (.slice ao n cap) l) (h1:lo<=hi) (h2:hi<=n):Zy w (sliced ao lo hi cap 2) ((l.take hi).drop lo):=by
 obtain ⟨ao',cap',hq,h3,h4,h5,h6⟩:=h
 simp only [Value.slice.injEq] at hq
 obtain ⟨rfl,rfl,rfl⟩:=hq
 have hl:((l.take hi).drop lo).length=hi-lo:=by simp;omega
 unfold sliced
 by_cases hc:cap=lo
 ·rw [if_pos hc]
  exact ⟨ao,cap-lo,by rw [hl],by omega,by omega,fun _=>by omega,fun hn=>by omega⟩
 ·rw [if_neg hc]
  cases ao with
  | none=>exact absurd (h5 rfl) (by omega)
  | some ad =>
   obtain ⟨g,o,e,hb,hr⟩:=h6 (by omega)
   simp only [Option.some.injEq] at e
   subst e
   refine ⟨some ((⟨g,o,none⟩:Addr).add (lo*2)),cap-lo,by rw [hl];rfl,by omega,by omega,fun h=>(by cases h),fun _=>⟨g,o+lo*2,by simp [Addr.add],hb,fun i x hx=>?_⟩⟩
   rw [List.getElem?_drop,List.getElem?_take] at hx
   split at hx
   ·have:=hr (lo+i) x hx
    rw [show o+(lo+i)*2=o+lo*2+i*2 by omega] at this
    exact this
   ·cases hx
theorem elem_runs:Tryz.prog.underlying 67=some (.slice (Tryz.prog.elem 67)):=by kernel_rfl
theorem size_runs (w:World):(sizeOf (Tryz.prog.elem 67)).run Tryz.prog w=.ok 2 w:=by kernel_rfl
theorem slice_hR (ao:Option Addr) (n cap hi:Nat) (h2:hi<=n) (h3:n<=cap) :
  ∃ o c,(∀ w,(Instr.slice 67 (.slice ao n cap) none (some (.int .i64 (hi:Int))) none).run Tryz.prog w=.ok (.slice o hi c) w) /\
   ∀ w l,Zy w (.slice ao n cap) l->Zy w (.slice o hi c) (l.take hi):=by
 refine ⟨_,_,fun w=>?_,fun w l h=>h.sub (Nat.zero_le hi) h2⟩
 rw [run_slice_h w 67 ao n cap elem_runs .i64 _ (by omega) (by omega),Int.toNat_natCast,size_runs]
 rfl
theorem slice_lR (ao:Option Addr) (n cap lo:Nat) (h1:lo<=n) (_h3:n<=cap) :
  ∃ o c,(∀ w,(Instr.slice 67 (.slice ao n cap) (some (.int .i64 (lo:Int))) none none).run Tryz.prog w=.ok (.slice o (n-lo) c) w) /\
   ∀ w l,Zy w (.slice ao n cap) l->Zy w (.slice o (n-lo) c) ((l.take n).drop lo):=by
 refine ⟨_,_,fun w=>?_,fun w l h=>h.sub h1 (Nat.le_refl _)⟩
 rw [run_slice_l w 67 ao n cap elem_runs .i64 _ (by omega) (by omega),Int.toNat_natCast,size_runs]
 rfl
theorem absorb_cons (r:RunN) (l:List RunN) (f t:Nat):Vu (r :: l) f t=if r.1 - 1<=t then Vu l (min f r.1) (max t r.2) else (f,t) :: r :: l:=rfl
theorem absorb_len:∀ (l:List RunN) (f t:Nat),(Vu l f t).length<=l.length+1
 | [],f,t=>by simp [Vu]
 | r :: l,f,t=>by
  unfold Vu
  split
  ·have:=absorb_len l (min f r.1) (max t r.2);simp;omega
  ·simp
theorem rSpan_spec {w:World} {v:Value} {l:List RunN} (h:Zy w v l) (hs:RSet l) (f t:Nat) (hl:l.length<=268435456) (hft:f<=t) (ht:t<18446744073709551616) :
  Calls Tryz.prog 170 #[.agg #[v],.int .u64 f,.int .u64 t] w fun e w'=>∃ v',e=.returned (.agg #[v'])/\Zy w' v' (Yq l f t)/\Keep No w w':=by
 obtain ⟨ao,cap,rfl,hc,hm⟩:=h.form
 obtain ⟨W,hW⟩:∃ W,W=(w.alloc (.cells #[.slice ao l.length cap] 90)).alloc (.cells #[.slice none 0 0] 90):=⟨_,rfl⟩
 have hsz:(w.alloc (.cells #[.slice ao l.length cap] 90)).heap.size=w.heap.size+1:=by simp
 have kW:Keep No w W:=by rw [hW];exact ((Keep.refl _ _).alloc _).alloc _
 have hA:W.heap[w.heap.size]?=some (.cells #[.slice ao l.length cap] 90 (0,0)):=by
  rw [hW]
  exact ((Keep.refl No _).alloc _).heap (Qy _ _) (fun e=>e)
 have hB:W.heap[w.heap.size+1]?=some (.cells #[.slice none 0 0] 90 (0,0)):=by
  rw [hW,<- hsz]
  exact Qy _ _
 have hf:=rFind_spec (h.no kW) hs (f - 1) (by omega)
 obtain ⟨i,hi⟩:∃ i,i=Yr l (f - 1):=⟨_,rfl⟩
 have hil:=Hd l (f - 1)
 have hsp:Yq l f t=l.take i++Vu (l.drop i) f t:=by unfold Yq;rw [if_neg (by omega),hi]
 rw [<- hi] at hf hil
 have c0:=Qq hA 0
 simp at c0
 have hlt:¬(t:Int)<(f:Int):=by omega
 obtain ⟨q,hq⟩:∃ q:Nat,q=min f 1:=⟨_,rfl⟩
 have hmin:(if (1:Int)<(f:Int) then (1:Int) else (f:Int))=(q:Int):=by split <;> omega
 have hmin':min (f:Int) 1=(q:Int):=by omega
 have hw1:IntKind.u64.wrap ((f:Int) - (q:Int))=((f - 1:Nat):Int):=by rw [wraps_u64 _ (by omega) (by omega)];omega
 clear hq
 have HH:=Lib.hid (A10 kW hB h hs hsp hil hm hl ht hc)
 clear hA hB kW h hs hsp hil hi hsz hm hl ht hft hc
 go_enter Tryz.func170,Tryz.ntmps170
 go_wp2_with fail
 rw [<- hW]
 clear hW
 go_wp2_with fail
 refine hf.mono ?_
 rintro e w1 ⟨rfl,k1⟩
 have c1:=k1.cell c0 (fun e=>e)
 clear hf c0
 go_wp2_with fail
 clear hmin hw1 hlt
 go_loopw [1,2,8] (fun fv tv kv wr=>∃ (f' t' k:Nat),fv=.int .u64 f'/\tv=.int .u64 t'/\kv=.int .i64 k/\k<=l.length/\t'<18446744073709551616/\Vu (l.drop i) f t=Vu (l.drop k) f' t'/\Keep No w1 wr) (fun _ _ kv _=>l.length - (intOf kv).toNat)
 case atStart=>exact ⟨f,t,i,rfl,rfl,rfl,HH.out.2.2.2.2.2.1,HH.out.2.2.2.2.2.2.2.2.1,rfl,Keep.refl _ _⟩
 case round =>
  obtain ⟨f',t',k,rfl,rfl,rfl,hk,ht',hab,kr⟩:=hrel
  have c2:=kr.cell c1 (fun e=>e)
  by_cases hlt:k<l.length
  ·have hr:l[k]?=some l[k]:=List.getElem?_eq_getElem hlt
   obtain ⟨r,hre⟩:∃ r,r=l[k]:=⟨_,rfl⟩
   rw [<- hre] at hr
   obtain ⟨hr1,hr2⟩:=HH.out.2.2.2.1.run r (List.mem_of_getElem? hr)
   have hdrop:l.drop k=r :: l.drop (k+1):=by rw [List.drop_eq_getElem_cons hlt,hre]
   obtain ⟨g,o,rfl,hrow⟩:=HH.out.2.2.1.row (fun e=>by rw [e] at hlt;simp at hlt)
   have kall:=(HH.out.1.then k1).then kr
   have r0:=kall.cell (hrow k r hr).1 (fun e=>e)
   have r1:=kall.cell (hrow k r hr).2 (fun e=>e)
   obtain ⟨q,hq⟩:∃ q:Nat,q=min r.1 1:=⟨_,rfl⟩
   have hmin:(if (1:Int)<(r.1:Int) then (1:Int) else (r.1:Int))=(q:Int):=by split <;> omega
   have hmin':min (r.1:Int) 1=(q:Int):=by omega
   obtain ⟨d,hd⟩:∃ d,d=r.1 - 1:=⟨_,rfl⟩
   have hw1:IntKind.u64.wrap ((r.1:Int) - (q:Int))=(d:Int):=by rw [wraps_u64 _ (by omega) (by omega)];omega
   have hki:(k:Int)<(l.length:Int):=by omega
   have hli:(l.length:Int)<=268435456:=by have:=HH.out.2.2.2.2.2.2.2.1;omega
   rw [hdrop,absorb_cons] at hab
   by_cases hc:r.1 - 1<=t'
   ·rw [if_pos hc] at hab
    have hci:(d:Int)<=(t':Int):=by omega
    obtain ⟨f2,hf2⟩:∃ f2,f2=min f' r.1:=⟨_,rfl⟩
    obtain ⟨t2,ht2⟩:∃ t2,t2=max t' r.2:=⟨_,rfl⟩
    have hmn:(if (r.1:Int)<(f':Int) then (r.1:Int) else (f':Int))=(f2:Int):=by split <;> omega
    have hmx:(if (t':Int)<(r.2:Int) then (r.2:Int) else (t':Int))=(t2:Int):=by split <;> omega
    rw [<- hf2,<- ht2] at hab
    have HR:=Lib.hid (A6 hab kr hlt (show t2<18446744073709551616 by omega) hf2 ht2)
    clear hd hq hf2 ht2 hab kr hrow hr hre hdrop kall hc hr1 hr2 ht' hk hlt
    go_wp2_with fail
    go_quiet (fail)
    go_wp2_with fail
    go_quiet (fail)
    go_wp2_with fail
    go_roundw
    case rel=>exact ⟨f2,t2,k+1,by have:=HR.out.2.2.2.2.1;congr 1;try (split <;> omega),by have:=HR.out.2.2.2.2.2;congr 1;try (split <;> omega),by congr 1,by have:=HR.out.2.2.1;omega,HR.out.2.2.2.1,HR.out.1,HR.out.2.1.drewN _⟩
    case measure=>have:=HR.out.2.2.1;simp [intOf];omega
   ·rw [if_neg hc] at hab
    have hci:¬(d:Int)<=(t':Int):=by omega
    have hend:Yq l f t=l.take i++((f',t') :: l.drop k):=by rw [HH.out.2.2.2.2.1,hab,hdrop]
    have HR:=Lib.hid (A3 hend kr hk)
    clear hd hq hab kr hrow hr hre hdrop kall hc hr1 hr2 ht' hk hlt hend
    go_wp2_with fail
    go_quiet (fail)
    go_wp2_with fail
    have kd:=fun n=>(HR.out.2.1.drewN n).drew
    obtain ⟨o1,cp1,hs3,hb3⟩:=slice_hR (some ⟨g,o,none⟩) l.length cap i HH.out.2.2.2.2.2.1 HH.out.2.2.2.2.2.2.2.2.2
    obtain ⟨o2,cp2,hs4,hb4⟩:=slice_lR (some ⟨g,o,none⟩) l.length cap k HR.out.2.2 HH.out.2.2.2.2.2.2.2.2.2
    refine Ql (fun w'=>Keep No w1 w') [0,1,2,3,4,5,6,8,9,10,11] [7,12,13] [14,15] (by kernel_rfl) (by kernel_rfl) (fun _ _ _ _ _ h=>h) (kd _) ?_
    iterate 11 (refine Qk (v:=?_) rfl rfl rfl ?_ ?_;rotate_left;focus (
     intro w' hS
     have c0':=hS.cell c1 (fun e=>e)
     go_simp
     try with_reducible rfl))
    have kX:=kd nq
    refine Qj (Qx rfl rfl (fun K hK=>?_))
    generalize (wr.drewN nq).drew=X at kX ⊢
    go_simp
    have k7:=kX.alloc (.cells #[.int .u64 f',.int .u64 t'] 96)
    refine hK _ _ k7 ?_
    clear hK K
    refine Qx rfl rfl (fun K hK=>?_)
    go_simp
    have k8:=k7.alloc (.cells #[.slice o1 i cp1,.slice (some ⟨X.heap.size,0,none⟩) 1 1,.slice o2 (l.length-k) cp2] 67)
    have kW8:=(HH.out.1.then k1).then k8
    have hRS:RSlicesAt ((X.alloc (.cells #[.int .u64 f',.int .u64 t'] 96)).alloc (.cells #[.slice o1 i cp1,.slice (some ⟨X.heap.size,0,none⟩) 1 1,.slice o2 (l.length-k) cp2] 67))
      (.slice (some ⟨X.heap.size+1,0,none⟩) 3 3) [l.take i,[(f',t')],l.drop k]:=by
     have hA8:((X.alloc (.cells #[.int .u64 f',.int .u64 t'] 96)).alloc (.cells #[.slice o1 i cp1,.slice (some ⟨X.heap.size,0,none⟩) 1 1,.slice o2 (l.length-k) cp2] 67)).heap[X.heap.size]?=some (.cells #[.int .u64 f',.int .u64 t'] 96 (0,0)) :=
      ((Keep.refl No _).alloc _).heap (Qy _ _) (fun e=>e)
     have hB8:((X.alloc (.cells #[.int .u64 f',.int .u64 t'] 96)).alloc (.cells #[.slice o1 i cp1,.slice (some ⟨X.heap.size,0,none⟩) 1 1,.slice o2 (l.length-k) cp2] 67)).heap[X.heap.size+1]?=some (.cells #[.slice o1 i cp1,.slice (some ⟨X.heap.size,0,none⟩) 1 1,.slice o2 (l.length-k) cp2] 67 (0,0)):=by
      have:=Qy (X.alloc (.cells #[.int .u64 f',.int .u64 t'] 96)) (.cells #[.slice o1 i cp1,.slice (some ⟨X.heap.size,0,none⟩) 1 1,.slice o2 (l.length-k) cp2] 67)
      simpa using this
     refine ⟨[.slice o1 i cp1,.slice (some ⟨X.heap.size,0,none⟩) 1 1,.slice o2 (l.length-k) cp2],rfl,fun j u m hu hm=>?_,X.heap.size+1,3,rfl,Nat.le_refl _,by decide,fun j u hu=>?_⟩
     ·match j,hu,hm with
      | 0,hu,hm =>
       simp at hu hm
       subst hu hm
       exact hb3 _ _ (HH.out.2.2.1.no kW8)
      | 1,hu,hm =>
       simp at hu hm
       subst hu hm
       refine ⟨some ⟨X.heap.size,0,none⟩,1,rfl,Nat.le_refl _,by decide,fun e=>(by cases e),fun _=>⟨X.heap.size,0,rfl,⟨_,_,hA8⟩,fun i r hr=>?_⟩⟩
       match i,hr with
       | 0,hr =>
        simp at hr
        subst hr
        rw [Qq hA8,Qq hA8]
        exact ⟨rfl,rfl⟩
      | 2,hu,hm =>
       simp at hu hm
       subst hu hm
       have:=hb4 _ _ (HH.out.2.2.1.no kW8)
       rw [List.take_of_length_le (Nat.le_refl _)] at this
       exact this
     ·rw [Qq hB8]
      simpa using hu
    have hcat:=rConcat_spec hRS (by have:=HH.out.2.2.2.2.2.2.2.1;simp;omega)
    have hfl:[l.take i,[(f',t')],l.drop k].flatten=Yq l f t:=by rw [HR.out.1];simp
    rw [hfl] at hcat
    clear hRS hfl
    refine hK _ _ k8 ?_
    clear hK K
    refine Qx rfl rfl (fun K hK=>?_)
    go_simp
    refine hcat.mono ?_
    rintro e w9 ⟨v9,rfl,own9,k9⟩
    obtain ⟨o9,c9,rfl,_,_⟩:=own9.form
    refine hK _ _ (k8.then k9) ?_
    clear hK K
    have hB9:=(((HH.out.1.then k1).then k8).then k9)
    have hB:=(k1.then (k8.then k9)).heap HH.out.2.1 (fun e=>e)
    refine Qh (Qu rfl (Qu rfl (Qm ?_)))
    have b0:=Qq hB 0
    have fb:=Qg hB
    simp at b0
    clear hs3 hs4 hcat hb3 hb4
    go_wp2
    have hZ:=Qz (i:=0) (u:=.slice o9 (Yq l f t).length c9) hB
    have kZ:=Qd (g:=w.heap.size+1) (i:=0) w9 (.slice o9 (Yq l f t).length c9)
    have z0:=Qq hZ 0
    simp at z0
    refine bodyPost_ret (v:=.agg #[.slice o9 (Yq l f t).length c9]) (by simp [results,Tryz.results170,go_sem,z0]) rfl ?_
    exact ⟨_,rfl,own9.runs.keep (fun b hb hr=>by obtain ⟨cs,fr,e⟩:=hr;rw [show b=w.heap.size+1 from hb,hB] at e;simp at e) kZ,hB9.trans kZ (fun x hx e=>by omega)⟩
  ·have hke:k=l.length:=by omega
   have hki:¬(k:Int)<(l.length:Int):=by omega
   have hkd:decide (k<l.length)=false:=by simp;omega
   have hkd2:decide ((k:Int)<(l.length:Int))=false:=by simp;omega
   have hdrop:l.drop k=[]:=by rw [hke,List.drop_length]
   have hend:Yq l f t=l.take i++((f',t') :: l.drop k):=by rw [HH.out.2.2.2.2.1,hab,hdrop];rfl
   have HR:=Lib.hid (A3 hend kr hk)
   clear hab kr hke hdrop ht' hk hlt hend
   go_wp2_with fail
   go_quiet (fail)
   go_wp2_with fail
   have kd:=fun n=>(HR.out.2.1.drewN n).drew
   obtain ⟨o1,cp1,hs3,hb3⟩:=slice_hR ao l.length cap i HH.out.2.2.2.2.2.1 HH.out.2.2.2.2.2.2.2.2.2
   obtain ⟨o2,cp2,hs4,hb4⟩:=slice_lR ao l.length cap k HR.out.2.2 HH.out.2.2.2.2.2.2.2.2.2
   refine Ql (fun w'=>Keep No w1 w') [0,1,2,3,4,5,6,8,9,10,11] [7,12,13] [14,15] (by kernel_rfl) (by kernel_rfl) (fun _ _ _ _ _ h=>h) (kd _) ?_
   iterate 11 (refine Qk (v:=?_) rfl rfl rfl ?_ ?_;rotate_left;focus (
    intro w' hS
    have c0':=hS.cell c1 (fun e=>e)
    go_simp
    try with_reducible rfl))
   have kX:=kd nq
   refine Qj (Qx rfl rfl (fun K hK=>?_))
   generalize (wr.drewN nq).drew=X at kX ⊢
   go_simp
   have k7:=kX.alloc (.cells #[.int .u64 f',.int .u64 t'] 96)
   refine hK _ _ k7 ?_
   clear hK K
   refine Qx rfl rfl (fun K hK=>?_)
   go_simp
   have k8:=k7.alloc (.cells #[.slice o1 i cp1,.slice (some ⟨X.heap.size,0,none⟩) 1 1,.slice o2 (l.length-k) cp2] 67)
   have kW8:=(HH.out.1.then k1).then k8
   have hRS:RSlicesAt ((X.alloc (.cells #[.int .u64 f',.int .u64 t'] 96)).alloc (.cells #[.slice o1 i cp1,.slice (some ⟨X.heap.size,0,none⟩) 1 1,.slice o2 (l.length-k) cp2] 67))
     (.slice (some ⟨X.heap.size+1,0,none⟩) 3 3) [l.take i,[(f',t')],l.drop k]:=by
    have hA8:((X.alloc (.cells #[.int .u64 f',.int .u64 t'] 96)).alloc (.cells #[.slice o1 i cp1,.slice (some ⟨X.heap.size,0,none⟩) 1 1,.slice o2 (l.length-k) cp2] 67)).heap[X.heap.size]?=some (.cells #[.int .u64 f',.int .u64 t'] 96 (0,0)) :=
     ((Keep.refl No _).alloc _).heap (Qy _ _) (fun e=>e)
    have hB8:((X.alloc (.cells #[.int .u64 f',.int .u64 t'] 96)).alloc (.cells #[.slice o1 i cp1,.slice (some ⟨X.heap.size,0,none⟩) 1 1,.slice o2 (l.length-k) cp2] 67)).heap[X.heap.size+1]?=some (.cells #[.slice o1 i cp1,.slice (some ⟨X.heap.size,0,none⟩) 1 1,.slice o2 (l.length-k) cp2] 67 (0,0)):=by
     have:=Qy (X.alloc (.cells #[.int .u64 f',.int .u64 t'] 96)) (.cells #[.slice o1 i cp1,.slice (some ⟨X.heap.size,0,none⟩) 1 1,.slice o2 (l.length-k) cp2] 67)
     simpa using this
    refine ⟨[.slice o1 i cp1,.slice (some ⟨X.heap.size,0,none⟩) 1 1,.slice o2 (l.length-k) cp2],rfl,fun j u m hu hm=>?_,X.heap.size+1,3,rfl,Nat.le_refl _,by decide,fun j u hu=>?_⟩
    ·match j,hu,hm with
     | 0,hu,hm =>
      simp at hu hm
      subst hu hm
      exact hb3 _ _ (HH.out.2.2.1.no kW8)
     | 1,hu,hm =>
      simp at hu hm
      subst hu hm
      refine ⟨some ⟨X.heap.size,0,none⟩,1,rfl,Nat.le_refl _,by decide,fun e=>(by cases e),fun _=>⟨X.heap.size,0,rfl,⟨_,_,hA8⟩,fun i r hr=>?_⟩⟩
      match i,hr with
      | 0,hr =>
       simp at hr
       subst hr
       rw [Qq hA8,Qq hA8]
       exact ⟨rfl,rfl⟩
     | 2,hu,hm =>
      simp at hu hm
      subst hu hm
      have:=hb4 _ _ (HH.out.2.2.1.no kW8)
      rw [List.take_of_length_le (Nat.le_refl _)] at this
      exact this
    ·rw [Qq hB8]
     simpa using hu
   have hcat:=rConcat_spec hRS (by have:=HH.out.2.2.2.2.2.2.2.1;simp;omega)
   have hfl:[l.take i,[(f',t')],l.drop k].flatten=Yq l f t:=by rw [HR.out.1];simp
   rw [hfl] at hcat
   clear hRS hfl
   refine hK _ _ k8 ?_
   clear hK K
   refine Qx rfl rfl (fun K hK=>?_)
   go_simp
   refine hcat.mono ?_
   rintro e w9 ⟨v9,rfl,own9,k9⟩
   obtain ⟨o9,c9,rfl,_,_⟩:=own9.form
   refine hK _ _ (k8.then k9) ?_
   clear hK K
   have hB9:=(((HH.out.1.then k1).then k8).then k9)
   have hB:=(k1.then (k8.then k9)).heap HH.out.2.1 (fun e=>e)
   refine Qh (Qu rfl (Qu rfl (Qm ?_)))
   have b0:=Qq hB 0
   have fb:=Qg hB
   simp at b0
   clear hs3 hs4 hcat hb3 hb4
   go_wp2
   have hZ:=Qz (i:=0) (u:=.slice o9 (Yq l f t).length c9) hB
   have kZ:=Qd (g:=w.heap.size+1) (i:=0) w9 (.slice o9 (Yq l f t).length c9)
   have z0:=Qq hZ 0
   simp at z0
   refine bodyPost_ret (v:=.agg #[.slice o9 (Yq l f t).length c9]) (by simp [results,Tryz.results170,go_sem,z0]) rfl ?_
   exact ⟨_,rfl,own9.runs.keep (fun b hb hr=>by obtain ⟨cs,fr,e⟩:=hr;rw [show b=w.heap.size+1 from hb,hB] at e;simp at e) kZ,hB9.trans kZ (fun x hx e=>by omega)⟩
end Go.Proofs.YtfdmbomlkpkegaaGreat
