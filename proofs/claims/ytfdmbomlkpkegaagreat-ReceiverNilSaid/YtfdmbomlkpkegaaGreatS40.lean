/- Lemmas for ReceiverNil. -/
import Derived.Test.YtfdmbomlkpkegaaGreatS39
import Derived.Laws.EntriesVeiled
set_option maxRecDepth 100000
set_option maxHeartbeats 8000000
set_option linter.all false
namespace Go.Proofs.YtfdmbomlkpkegaaGreat
open Go Go.RowKit Go.Dr Go.Shelf
def Sn (a:Int) (e b:Nat):Array Value:=#[.int .u8 1,.int .i64 a,.int .u64 e,.int .u64 0,.int .u64 b,.int .u64 0,.int .u64 0,.slice none 0 0,.slice none 0 0]
theorem fBegins_ok (w:World) (a:Int) (e b:Nat) (hb:(1:Int)<=(b:Int)):Calls Tryz.prog 141 #[.agg (Sn a e b)] w fun z w'=>z=.returned (.bool true)/\Keep No w w':=by
 unfold Sn
 go_enter Tryz.func141,Tryz.ntmps141
 go_wp2_with fail
 go_ret
 exact ⟨rfl,(Keep.refl _ _).alloc _⟩
def Tx (s:ByteArray) (f1 f2 f3:Nat):Array Value:=#[.string s,.func (.func f1) #[] #[],.func (.func f2) #[] #[],.func (.func f3) #[] #[]]
theorem info_form (s:ByteArray) (f1 f2 f3:Nat):(Tryz.prog.info? 210).map (·.size)=some (Tx s f1 f2 f3).size:=by
 show _=some 4
 kernel_rfl
theorem fForms_1 (w:World):Calls Tryz.prog 94 #[.int .u8 1] w fun z w'=>∃ s f2 f3,z=.returned (.tuple #[.agg (Tx s 141 f2 f3),.bool true])/\Keep No w w':=by
 go_enter Tryz.func94,Tryz.ntmps94
 go_wp2_with fail
 refine bodyPost_ret (v:=.tuple #[.agg (Tx ⟨#[104,101,108,108,111]⟩ 141 142 143),.bool true]) (Jl rfl _ _ w.heap.size 210 (Tx ⟨#[104,101,108,108,111]⟩ 141 142 143) (0,0) _ _ rfl rfl (Qy _ _) Tryz.underlying210 rfl (info_form _ _ _ _)) rfl ⟨_,_,_,rfl,(Keep.refl _ _).alloc _⟩
theorem fRight_hello (w:World) (a:Int) (e b:Nat) (ha0:0<=a) (ha:a<16) (he:(1:Int)<=(e:Int)) (hb:(1:Int)<=(b:Int)):Calls Tryz.prog 46 #[.agg (Sn a e b)] w fun z w'=>z=.returned (.bool true)/\Keep No w w':=by
 have hbg:=fun (X:World)=>fBegins_ok X a e b hb
 unfold Sn at hbg ⊢
 obtain ⟨W,hW⟩:∃ W,W=w.alloc (.cells #[.int .u8 1,.int .i64 a,.int .u64 e,.int .u64 0,.int .u64 b,.int .u64 0,.int .u64 0,.slice none 0 0,.slice none 0 0] 69):=⟨_,rfl⟩
 have kW:Keep No w W:=by rw [hW];exact (Keep.refl _ _).alloc _
 have hA:W.heap[w.heap.size]?=some (.cells #[.int .u8 1,.int .i64 a,.int .u64 e,.int .u64 0,.int .u64 b,.int .u64 0,.int .u64 0,.slice none 0 0,.slice none 0 0] 69 (0,0)):=by rw [hW];exact Qy _ _
 have c:=fun i=>Qq hA i
 have c0:=c 0
 have c1:=c 1
 have c2:=c 2
 have c3:=c 3
 have c4:=c 4
 have c5:=c 5
 have c6:=c 6
 have c7:=c 7
 have c8:=c 8
 simp at c0 c1 c2 c3 c4 c5 c6 c7 c8
 have HW:=Lib.hid kW
 clear c hA kW
 go_enter Tryz.func46,Tryz.ntmps46
 go_upto_region 1 with fail
 rw [<- hW]
 clear hW
 go_upto_region 2 with (go_at_call 94;refine (fForms_1 _).mono ?_;rintro z w1 ⟨s,f2,f3,rfl,k1⟩;unfold Tx)
 have kA:=k1.alloc (.cells #[.string s,.func (.func 141) #[] #[],.func (.func f2) #[] #[],.func (.func f3) #[] #[]] 210)
 have hF:=Qy w1 (.cells #[.string s,.func (.func 141) #[] #[],.func (.func f2) #[] #[],.func (.func f3) #[] #[]] 210)
 have d1:(w1.alloc (.cells #[.string s,.func (.func 141) #[] #[],.func (.func f2) #[] #[],.func (.func f3) #[] #[]] 210)).cell? ⟨w1.heap.size,1,none⟩=some (.func (.func 141) #[] #[]):=(Qq hF 1).trans rfl
 have c0:=kA.cell c0 (fun e=>e)
 have c1:=kA.cell c1 (fun e=>e)
 have c2:=kA.cell c2 (fun e=>e)
 have c3:=kA.cell c3 (fun e=>e)
 have c4:=kA.cell c4 (fun e=>e)
 have c5:=kA.cell c5 (fun e=>e)
 have c6:=kA.cell c6 (fun e=>e)
 have c7:=kA.cell c7 (fun e=>e)
 have c8:=kA.cell c8 (fun e=>e)
 have HK:=Lib.hid (HW.out.then kA)
 clear k1 kA hF
 generalize w1.alloc (.cells #[.string s,.func (.func 141) #[] #[],.func (.func f2) #[] #[],.func (.func f3) #[] #[]] 210)=W2 at *
 go_wp2_with (go_at_call 141;refine (hbg _).mono ?_;rintro z w3 ⟨rfl,k3⟩)
 go_ret
 exact ⟨rfl,HK.out.then k3⟩
theorem isKey8 (k:Int):MapKept.IsKey (.int .u8) (.int .u8 k):=by simp [MapKept.IsKey]
def Sd (k:Int) (f b:Nat):MapEntry:={ key:=.int .u8 k,val:=.func (.func f) #[] #[],born:=b }
theorem kinds_one (w:World) (f:Nat):∃ w',(Instr.mapUpdate 195 (.map (some w.heap.size)) (.int .u8 1) (.func (.func f) #[] #[])).run Tryz.prog (w.alloc (.map #[] 0))=.ok () w'/\w'.heap[w.heap.size]?=some (.map #[Sd 1 f 0] 1)/\Keep No w w':=by
 have hb:(w.alloc (.map #[] 0)).heap[w.heap.size]?=some (.map #[] 0):=Qy _ _
 have hlt:=Qt hb
 refine ⟨{ w.alloc (.map #[] 0) with heap:=(w.alloc (.map #[] 0)).heap.setIfInBounds w.heap.size (.map #[Sd 1 f 0] 1) },?_,by simp,?_⟩
 ·simp [Instr.mapUpdate,run_underlying Tryz.underlying195,MapKept.run_getObj_map hb,MapKept.run_checkKey Tryz.underlying5 (isKey8 1),MapKept.run_findKey Tryz.underlying5 (show Instr.findNow (.int .u8) (.int .u8 1) [] 0=some none from rfl),MapKept.run_setObj_map _ hb,Result.andThen,Sd]
 ·have k:=(Keep.refl No w).alloc (.map #[] 0)
  exact k.trans (Keep.setObj (F:=(·=w.heap.size)) (Keep.refl _ (w.alloc (.map #[] 0))) (r:=w.heap.size) (.inl rfl) _) (fun b hb e=>by have e:b=w.heap.size:=e;omega)
theorem kinds_two {w:World} {r f g:Nat} (hb:w.heap[r]?=some (.map #[Sd 1 f 0] 1)):∃ w',(Instr.mapUpdate 195 (.map (some r)) (.int .u8 3) (.func (.func g) #[] #[])).run Tryz.prog w=.ok () w'/\w'.heap[r]?=some (.map #[Sd 1 f 0,Sd 3 g 1] 2)/\Keep (·=r) w w':=by
 have hlt:=Qt hb
 refine ⟨{ w with heap:=w.heap.setIfInBounds r (.map #[Sd 1 f 0,Sd 3 g 1] 2) },?_,by simp [hlt],Keep.setObj (F:=(·=r)) (Keep.refl _ w) (r:=r) (.inl rfl) _⟩
 simp [Instr.mapUpdate,run_underlying Tryz.underlying195,MapKept.run_getObj_map hb,MapKept.run_checkKey Tryz.underlying5 (isKey8 3),MapKept.run_findKey Tryz.underlying5 (show Instr.findNow (.int .u8) (.int .u8 3) [Sd 1 f 0] 0=some none from rfl),MapKept.run_setObj_map _ hb,Result.andThen]
 rfl
theorem kinds_look1 {w:World} {r f g:Nat} (hb:w.heap[r]?=some (.map #[Sd 1 f 0,Sd 3 g 1] 2)):(Instr.lookup 195 (.map (some r)) (.int .u8 1) true).run Tryz.prog w=.ok (.tuple #[.func (.func f) #[] #[],.bool true]) w:=by
 simp [Instr.lookup,run_underlying Tryz.underlying195,MapKept.run_getObj_map hb,MapKept.run_checkKey Tryz.underlying5 (isKey8 1),MapKept.run_findKey Tryz.underlying5 (show Instr.findNow (.int .u8) (.int .u8 1) [Sd 1 f 0,Sd 3 g 1] 0=some (some (0,.func (.func f) #[] #[])) from rfl),Result.andThen]
section
variable [bn:Inhabited Ban] {base:Nat} {w w':World} {R q p width j:Nat} {size:Int} {o:List Nat} {S S':S16} {F:Nat->Prop}
theorem rcReceive_hello (hl:LedH base w q p width size S F) (hr:Su base w R q o) (ok:Ok16 width j S) (hj:j+2<=450) (f:FrmS) (a:Nat) (hfa:f.agent=a) (ha:a<16) (h1:f.kind=1) (he:1<=f.epoch) (hbs:1<=f.base) (hi:f.inc=0) (hcu:f.cum=0) (hli:f.limit=0) {okb:Bool} (hh:Hello17 width j size S a f.epoch f.base okb S') (hb:base<=w.heap.size) (hT:ban.top<=w.heap.size) :
  Calls Tryz.prog 31 #[.pointer (some ⟨R,0,none⟩),.agg (f.cells (.slice none 0 0) (.slice none 0 0))] w fun z w'=>z=.returned (.bool okb)/\RcvN base w R q p width size S' (if okb then o.set a 2 else o) F w':=by
 obtain ⟨o2,ho2⟩:∃ o2,o2=(if okb then o.set a 2 else o):=⟨_,rfl⟩
 rw [<- ho2]
 have HO2:=Lib.hid ho2
 clear ho2
 have hmm:=@run_makeMap Tryz.prog
 have ha1:(a:Int)<16:=by omega
 have he1:(1:Int)<=(f.epoch:Int):=by omega
 have hb1:(1:Int)<=(f.base:Int):=by omega
 have HH:=Lib.hid (A7 hl hr ok hj hh hb hT)
 clear hl hr ok hj hh hb hT ha
 unfold FrmS.cells
 rw [hfa,h1,hi,hcu,hli]
 obtain ⟨W,hW⟩:∃ W,W=w.alloc (.cells #[.int .u8 1,.int .i64 a,.int .u64 f.epoch,.int .u64 0,.int .u64 f.base,.int .u64 0,.int .u64 0,.slice none 0 0,.slice none 0 0] 69):=⟨_,rfl⟩
 have kW:Keep No w W:=by rw [hW];exact (Keep.refl _ _).alloc _
 have hA:W.heap[w.heap.size]?=some (.cells #[.int .u8 1,.int .i64 a,.int .u64 f.epoch,.int .u64 0,.int .u64 f.base,.int .u64 0,.int .u64 0,.slice none 0 0,.slice none 0 0] 69 (0,0)):=by rw [hW];exact Qy _ _
 have hrt:=fRight_hello W a f.epoch f.base (by omega) ha1 he1 hb1
 unfold Sn at hrt
 have c:=fun i=>Qq hA i
 have c0:=c 0
 have c1:=c 1
 have c2:=c 2
 have c3:=c 3
 have c4:=c 4
 have c5:=c 5
 have c6:=c 6
 have c7:=c 7
 have c8:=c 8
 simp at c0 c1 c2 c3 c4 c5 c6 c7 c8
 have HW:=Lib.hid kW
 clear c hA kW
 go_enter Tryz.func31,Tryz.ntmps31
 go_upto_region 1 with fail
 rw [<- hW]
 clear hW
 go_upto_region 3 with (go_at_call 46;refine hrt.mono ?_;rintro z w1 ⟨rfl,k1⟩)
 have c0:=k1.cell c0 (fun e=>e)
 have c1:=k1.cell c1 (fun e=>e)
 have c2:=k1.cell c2 (fun e=>e)
 have c3:=k1.cell c3 (fun e=>e)
 have c4:=k1.cell c4 (fun e=>e)
 have c5:=k1.cell c5 (fun e=>e)
 have c6:=k1.cell c6 (fun e=>e)
 have c7:=k1.cell c7 (fun e=>e)
 have c8:=k1.cell c8 (fun e=>e)
 obtain ⟨W2,hm1,hz2,k12⟩:=kinds_one w1 85
 obtain ⟨W3,hm2,hz3,k23⟩:=kinds_two (g:=86) hz2
 have hlk:=kinds_look1 hz3
 have k13:Keep No w1 W3:=k12.absorb k23 (fun b e=>by have e:b=w1.heap.size:=e;omega)
 have c0:=k13.cell c0 (fun e=>e)
 have c1:=k13.cell c1 (fun e=>e)
 have c2:=k13.cell c2 (fun e=>e)
 have c3:=k13.cell c3 (fun e=>e)
 have c4:=k13.cell c4 (fun e=>e)
 have c5:=k13.cell c5 (fun e=>e)
 have c6:=k13.cell c6 (fun e=>e)
 have c7:=k13.cell c7 (fun e=>e)
 have c8:=k13.cell c8 (fun e=>e)
 have k03:=(HW.out.then k1).then k13
 obtain ⟨hl,hr,ok,hj,hh,hb,hT⟩:=HH.out
 have hlo:=rcHello_spec (hl.no k03) (hr.no k03) ok hj f (.slice none 0 0) (.slice none 0 0) a hfa (by omega) hh (Nat.le_trans hb k03.size) (Nat.le_trans hT k03.size)
 unfold FrmS.cells at hlo
 rw [hfa,h1,hi,hcu,hli,<- HO2.out] at hlo
 have HK:=Lib.hid k03
 clear hz2 hz3 k12 k23 k13 k03 k1 hl hr ok hj hh hb hT hrt
 go_wp2_with (go_at_call 85;refine hlo.mono ?_;rintro z w4 ⟨rfl,hn⟩;have HN:=Lib.hid hn;clear hn)
 go_ret
 exact ⟨by simp,RcvN.then HK.out.no (fun b hb=>.inl hb) HN.out⟩
end
@[go_sem] theorem eql_nil_runs (w:World) (a:Option Addr) (n c:Nat):(binOp .eql 67 (.slice a n c) (.slice none 0 0)).run Tryz.prog w=.ok (.bool a.isNone) w :=
 Lib.run_eql_slice_nil w _ _ a n c 0 0 Tryz.underlying67
theorem cloneRuns_spec {w:World} {v:Value} {l:List RunN} (h:Zy w v l) (hl:l.length<=1099511627776) :
  Calls Tryz.prog 185 #[v] w fun e w'=>∃ v',e=.returned v'/\OwnR w' w.heap.size v' l/\Keep No w w':=by
 obtain ⟨ao,cap,rfl,hc,hm⟩:=h.form
 have HH:=Lib.hid (A2 h hl)
 clear h hl hc hm
 cases ao with
 | none =>
  have hl0:l=[]:=by
   obtain ⟨ao',cap',e,h1,h2,h3,_⟩:=HH.out.1
   simp only [Value.slice.injEq] at e
   obtain ⟨e1,_,e2⟩:=e
   have:=h3 e1.symm
   exact List.eq_nil_of_length_eq_zero (by omega)
  subst hl0
  go_enter Tryz.func185,Tryz.ntmps185
  go_wp2_with fail
  go_ret
  exact ⟨_,rfl,OwnR.nil _ _,Keep.refl _ _⟩
 | some a =>
  have kA:=(Keep.refl No w).alloc (.cells #[] 96)
  have hown:OwnR (w.alloc (.cells #[] 96)) w.heap.size (.slice (some ⟨w.heap.size,0,none⟩) 0 0) []:=⟨rfl,.inr ⟨w.heap.size,0,_,rfl,Nat.le_refl _,Qy _ _,Nat.le_refl _,by decide,rfl,rfl⟩⟩
  have hsrc:=HH.out.1.no kA
  go_enter Tryz.func185,Tryz.ntmps185
  go_wp2_with (at_builtin;refine Xo rfl _ _ rfl hown hsrc rfl rfl (by simpa using HH.out.2) (by simp) ?_;intro v' w' hown' hk')
  go_ret
  refine ⟨v',rfl,by simpa using hown',kA.absorb hk' (fun b e=>?_)⟩
  simp [Value.ownBlock] at e
  omega
theorem OwnR.mono {w:World} {B B':Nat} {v:Value} {l:List RunN} (h:OwnR w B v l) (hB:B'<=B):OwnR w B' v l :=
 ⟨h.1,h.2.imp id (fun ⟨g,cap,cur,e,h1,r⟩=>⟨g,cap,cur,e,Nat.le_trans hB h1,r⟩)⟩
theorem rRuns_spec {w:World} {v:Value} {l:List RunN} (h:Zy w v l) (hl:l.length<=1099511627776) :
  Calls Tryz.prog 133 #[.agg #[v]] w fun e w'=>∃ v',e=.returned v'/\OwnR w' w.heap.size v' l/\Keep No w w':=by
 obtain ⟨ao,cap,rfl,_,_⟩:=h.form
 have kA:=(Keep.refl No w).alloc (.cells #[.slice ao l.length cap] 90)
 have hc:=cloneRuns_spec (h.no kA) hl
 have HK:=Lib.hid kA
 clear h kA hl
 go_enter Tryz.func133,Tryz.ntmps133
 go_wp2_with (go_at_call 185;refine hc.mono ?_;rintro e w1 ⟨v1,rfl,ho,k1⟩;have HO:=Lib.hid (A2 ho k1);clear ho k1)
 go_ret
 exact ⟨v1,rfl,OwnR.mono HO.out.1 HK.out.size,HK.out.then HO.out.2⟩
theorem Zy.front {w:World} {ao:Option Addr} {n cap m:Nat} {l:List RunN} (h:Zy w (.slice ao n cap) l) (hm:m<=l.length):Zy w (.slice ao m cap) (l.take m):=by
 obtain ⟨ao',cap',e,h2,h3,h4,h5⟩:=h
 simp only [Value.slice.injEq] at e
 obtain ⟨rfl,_,rfl⟩:=e
 have e2:(l.take m).length=m:=by rw [List.length_take];omega
 exact ⟨ao,cap,by rw [e2],by omega,h3,h4,fun hc=>by
  obtain ⟨g,o,e3,hb,hr⟩:=h5 hc
  exact ⟨g,o,e3,hb,fun i r hi=>hr i r (by
   rw [List.getElem?_take] at hi
   split at hi
   ·exact hi
   ·cases hi)⟩⟩
theorem wRuns_spec {w:World} {u:Value} {x:WinS} (h:WinV w u x) (hl:x.set.length<=1099511627776) :
  Calls Tryz.prog 87 #[u,.int .i64 32] w fun e w'=>∃ v',e=.returned v'/\Zy w' v' (x.set.take 32)/\(∀ b,v'.ownBlock=some b->w.heap.size<=b)/\Keep No w w':=by
 obtain ⟨v,rfl,hr⟩:=h
 obtain ⟨ao,cap,rfl,_,_⟩:=hr.form
 have kA:=(Keep.refl No w).alloc (.cells #[.int .u64 x.low,.int .u64 x.width,.slice ao x.set.length cap] 92)
 have hc:=rRuns_spec (hr.no kA) hl
 have HK:=Lib.hid kA
 clear hr kA
 go_enter Tryz.func87,Tryz.ntmps87
 go_wp2_with (go_at_call 133;refine hc.mono ?_;rintro e w1 ⟨v1,rfl,ho,k1⟩;obtain ⟨ao1,c1,rfl,_,_⟩:=ho.form;have HO:=Lib.hid (A2 ho k1);clear ho k1)
 go_ret
 obtain ⟨ho,k1⟩:=HO.out
 have em:(min (max 32 0) (x.set.length:Int)).toNat=min 32 x.set.length:=by omega
 have e3:x.set.take 32=x.set.take (min 32 x.set.length):=by
  by_cases h:32<=x.set.length
  ·rw [Nat.min_eq_left h]
  ·rw [Nat.min_eq_right (by omega),List.take_length,List.take_of_length_le (by omega)]
 have hs:=Zy.front (m:=min 32 x.set.length) ho.runs (Nat.min_le_right _ _)
 have hown:=ho.lt
 refine ⟨.slice ao1 (min (max 32 0) (x.set.length:Int)).toNat c1,rfl,by rw [em,e3];exact hs,fun b hb=>?_,HK.out.then k1⟩
 have h1:=HK.out.size
 have h2:=(hown b (by cases ao1 <;> exact hb)).1
 omega
end Go.Proofs.YtfdmbomlkpkegaaGreat
