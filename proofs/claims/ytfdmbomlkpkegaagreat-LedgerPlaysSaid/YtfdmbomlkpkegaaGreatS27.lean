/- Lemmas for LedgerPlays. -/
import Derived.Test.YtfdmbomlkpkegaaGreatS26
import Derived.Test.YtfdmbomlkpkegaaGreatS2
set_option maxRecDepth 100000
set_option maxHeartbeats 8000000
set_option linter.all false
namespace Go.Proofs.YtfdmbomlkpkegaaGreat
open Go Go.RowKit Go.Dr
theorem gInc_spec [bn:Inhabited Ban] {base:Nat} {w:World} {q g m:Nat} {lv:Value} {L:LedS} (h:Zv base w q g m lv L):Calls Tryz.prog 15 #[.pointer (some ⟨q,0,none⟩)] w fun e w'=>e=.returned (.int .u64 L.inc)/\w'=w:=by
 obtain ⟨c1,_,_⟩:=h.incCell
 clear h
 go_enter Tryz.func15,Tryz.ntmps15
 go_wp2_with fail
 go_ret
 exact ⟨rfl,rfl⟩
theorem gLog_spec [bn:Inhabited Ban] {base:Nat} {w:World} {q g m:Nat} {lv:Value} {L:LedS} (h:Zv base w q g m lv L):Calls Tryz.prog 16 #[.pointer (some ⟨q,0,none⟩)] w fun e w'=>e=.returned (.pointer (some ⟨g,0,none⟩))/\w'=w:=by
 obtain ⟨_,c0,_⟩:=h.incCell
 clear h
 go_enter Tryz.func16,Tryz.ntmps16
 go_wp2_with fail
 go_ret
 exact ⟨rfl,rfl⟩
theorem gFloor_in [bn:Inhabited Ban] {base:Nat} {w:World} {q g m a:Nat} {lv:Value} {L:LedS} {x:AgS} (h:Zv base w q g m lv L) (ha:a<16) (hx:L.ag[a]?=some x):Calls Tryz.prog 39 #[.pointer (some ⟨q,0,none⟩),.int .i64 a] w fun e w'=>e=.returned (.int .u64 x.floor)/\w'=w:=by
 obtain ⟨_,_,_,_,c0,_⟩:=h.agCell hx
 have hg:=Vj (w:=w) q a ha
 clear h hx ha
 go_enter Tryz.func39,Tryz.ntmps39
 go_wp2_with (go_at_call 61;refine hg.mono ?_;rintro e w' ⟨rfl,rfl⟩)
 go_ret
 exact ⟨rfl,rfl⟩
theorem gWindow_in [bn:Inhabited Ban] {base:Nat} {w:World} {q g m a:Nat} {lv:Value} {L:LedS} {x:AgS} (h:Zv base w q g m lv L) (ha:a<16) (hx:L.ag[a]?=some x):Calls Tryz.prog 37 #[.pointer (some ⟨q,0,none⟩),.int .i64 a] w fun e w'=>∃ u,e=.returned u/\WinV w' u x.now/\Keep No w w':=by
 obtain ⟨ns,_,hr,_,_,c1,c2,c3,_⟩:=h.agCell hx
 obtain ⟨ao,cap,rfl,_,_⟩:=hr.form
 have kA:=fun o=>(Keep.refl No w).alloc o
 have c1A:=fun o=>(kA o).cell c1 (fun e=>e)
 have c2A:=fun o=>(kA o).cell c2 (fun e=>e)
 have c3A:=fun o=>(kA o).cell c3 (fun e=>e)
 have hg:=fun (w1:World)=>Vj (w:=w1) q a ha
 have hZ:=Qy w (.cells #[.int .u64 x.now.low,.int .u64 x.now.width,.slice ao x.now.set.length cap] 92)
 have z0:=Qq hZ 0
 have z1:=Qq hZ 1
 have z2:=Qq hZ 2
 simp at z0 z1 z2
 have HH:=Lib.hid (A2 (hr.no (kA (.cells #[.int .u64 x.now.low,.int .u64 x.now.width,.slice ao x.now.set.length cap] 92))) (kA (.cells #[.int .u64 x.now.low,.int .u64 x.now.width,.slice ao x.now.set.length cap] 92)))
 clear h hx ha hr hZ kA
 go_enter Tryz.func37,Tryz.ntmps37
 go_wp2_with (go_at_call 61;refine (hg _).mono ?_;rintro e w' ⟨rfl,rfl⟩)
 refine bodyPost_ret (v:=.agg #[.int .u64 x.now.low,.int .u64 x.now.width,.slice ao x.now.set.length cap]) (by simp [results,Tryz.results37,go_sem]) rfl ?_
 exact ⟨_,rfl,⟨_,rfl,HH.out.1⟩,HH.out.2⟩
theorem gSafe_in [bn:Inhabited Ban] {base:Nat} {w:World} {q g m a:Nat} {lv:Value} {L:LedS} {x:AgS} (h:Zv base w q g m lv L) (ha:a<16) (hx:L.ag[a]?=some x):Calls Tryz.prog 77 #[.pointer (some ⟨q,0,none⟩),.int .i64 a] w fun e w'=>∃ u,e=.returned u/\WinV w' u x.safe/\Keep No w w':=by
 obtain ⟨_,ss,_,hr,_,_,_,_,c1,c2,c3⟩:=h.agCell hx
 obtain ⟨ao,cap,rfl,_,_⟩:=hr.form
 have kA:=fun o=>(Keep.refl No w).alloc o
 have c1A:=fun o=>(kA o).cell c1 (fun e=>e)
 have c2A:=fun o=>(kA o).cell c2 (fun e=>e)
 have c3A:=fun o=>(kA o).cell c3 (fun e=>e)
 have hg:=fun (w1:World)=>Vj (w:=w1) q a ha
 have hZ:=Qy w (.cells #[.int .u64 x.safe.low,.int .u64 x.safe.width,.slice ao x.safe.set.length cap] 92)
 have z0:=Qq hZ 0
 have z1:=Qq hZ 1
 have z2:=Qq hZ 2
 simp at z0 z1 z2
 have HH:=Lib.hid (A2 (hr.no (kA (.cells #[.int .u64 x.safe.low,.int .u64 x.safe.width,.slice ao x.safe.set.length cap] 92))) (kA (.cells #[.int .u64 x.safe.low,.int .u64 x.safe.width,.slice ao x.safe.set.length cap] 92)))
 clear h hx ha hr hZ kA
 go_enter Tryz.func77,Tryz.ntmps77
 go_wp2_with (go_at_call 61;refine (hg _).mono ?_;rintro e w' ⟨rfl,rfl⟩)
 refine bodyPost_ret (v:=.agg #[.int .u64 x.safe.low,.int .u64 x.safe.width,.slice ao x.safe.set.length cap]) (by simp [results,Tryz.results77,go_sem]) rfl ?_
 exact ⟨_,rfl,⟨_,rfl,HH.out.1⟩,HH.out.2⟩
def Xg (w:World) (B:Nat) (v:Value) (l:List RecS):Prop :=
 ∃ xs:List (RecS × Value),xs.map (·.1)=l/\(∀ x∈xs,OwnB w B x.2 x.1.s.body)/\w.ownsRow B 63 4 v l.length (Xu xs)
theorem Xg.nil (w:World) (B:Nat):Xg w B (.slice none 0 0) []:=⟨[],rfl,fun x h=>by simp at h,World.ownsRow_nil _ _ _ _⟩
theorem Xg.at' [bn:Inhabited Ban] {base:Nat} {w:World} {B:Nat} {v:Value} {l:List RecS} (h:Xg w B v l) (hT:ban.top<=B) (hb:base<=B):Yi base w v l:=by
 obtain ⟨xs,h1,h2,h3⟩:=h
 refine ⟨xs,h1,fun x hx=>(h2 x hx).bytes (fun _=>hT),h3.1,?_⟩
 rcases h3.2 with e | ⟨g,cap,cur,e1,e2,e3⟩
 ·exact .inl e
 ·exact .inr ⟨g,cap,cur,e1,Nat.le_trans hb e2,e3⟩
theorem Xg.form {w:World} {B:Nat} {v:Value} {l:List RecS} (h:Xg w B v l):∃ ao cap,v=.slice ao l.length cap/\l.length<=cap/\cap<=maxLen:=by
 obtain ⟨xs,_,_,h3⟩:=h
 exact Kj h3
theorem Xg.keep {w w':World} {B:Nat} {v:Value} {l:List RecS} {F:Nat->Prop} (h:Xg w B v l) (k:Keep F w w') (hF:∀ b,B<=b->F b->∀ cs fr,w.heap[b]?≠some (.cells cs 63 fr)/\w.heap[b]?≠some (.cells cs 5 fr)):Xg w' B v l:=by
 obtain ⟨xs,h1,h2,h3⟩:=h
 refine ⟨xs,h1,fun x hx=>(h2 x hx).keep k (fun b hb hf=>?_),Yu h3 k (fun b hb hf=>?_)⟩
 ·obtain ⟨q1,cur,hz⟩:=Qa (h2 x hx) b hb
  exact (hF b q1 hf _ _).2 hz
 ·obtain ⟨q1,cur,hz⟩:=Qa h3 b hb
  exact (hF b q1 hf _ _).1 hz
theorem Xg.no {w w':World} {B:Nat} {v:Value} {l:List RecS} (h:Xg w B v l) (k:Keep No w w'):Xg w' B v l:=h.keep k (fun _ _ e=>e.elim)
theorem wpList_append_orec {w:World} {ops:Array Oper} {rest:List Oper} {o:Oper} {a:Act} {Q:Exit->Act->World->Prop} (hg:o.guard=none) (s x:Operand)
  (ho:o.op=.call { callee:=.builtin .append,args:=#[s,x],argTypes:=#[31,31] }) {B:Nat} {v:Value} {l:List RecS} (h:Xg w B v l) (hs:a.eval s=v) {D:Nat} {y:RecS} {uo:Option Addr} {uc:Nat}
  (hD:w.heap[D]?=some (.cells #[.int .i64 y.who,.int .u64 y.n,.int .i64 y.s.c,.slice uo y.s.body.length uc] 63 (0,0))) (hx:a.eval x=.slice (some ⟨D,0,none⟩) 1 1) (hu:OwnB w B (.slice uo y.s.body.length uc) y.s.body) (hl:l.length<=1099511627776) (hb:B<=w.heap.size)
  (hK:∀ vo vc w',Xg w' B (.slice vo (l.length+1) vc) (l++[y])->Keep (fun b=>v.ownBlock=some b) w w'->wpList Tryz.prog ops Q rest (a.put o.dst (.slice vo (l.length+1) vc)) w'):wpList Tryz.prog ops Q (o :: rest) a w:=by
 obtain ⟨xs,h1,h2,h3⟩:=h
 obtain ⟨i0,hi0,hz0,hz1,hz2⟩:=info_parts info_rec
 refine wpList_plain hg fun K hK'=>?_
 refine wp_append_lies w s x 31 ho B 63 i0 _ 4 48 Tryz.underlying31 hi0 hz0 hz1 hz2 rfl (by omega) v l.length (Xu xs) hs h3
  ⟨D,0,none⟩ 1 1 (Jd y (.slice uo y.s.body.length uc)) hx rfl (World.news_of_block (cs:=#[.int .i64 y.who,.int .u64 y.n,.int .i64 y.s.c,.slice uo y.s.body.length uc]) (t:=63) (fr:=(0,0)) hD) (by simp [Jd,Value.oneCell']) (by omega) (by unfold maxLen;omega) (by omega) hb w.heap.size rfl ?_
 intro g cap w' hown hgr hat hlt
 have k:=Jr hgr
 have hap:∀ {u:Value} {m:List UInt8},OwnB w B u m->OwnB w' B u m:=fun {u m} hu=>hu.keep k (fun b hb hf=>by
  obtain ⟨_,cur,hz⟩:=Qa hu b hb
  obtain ⟨_,cur2,hz2⟩:=Qa h3 b hf
  rw [hz] at hz2;simp at hz2)
 refine hK' _ _ (hK _ _ _ ⟨xs++[(y,.slice uo y.s.body.length uc)],by simp [h1],fun z hz=>?_,?_⟩ k)
 ·rcases List.mem_append.1 hz with hz | hz
  ·exact hap (h2 z hz)
  ·rw [List.mem_singleton.1 hz];exact hap hu
 ·rw [recCells_append,List.length_append]
  have e:Xu [(y,Value.slice uo y.s.body.length uc)]=Jd y (.slice uo y.s.body.length uc):=by simp [Xu]
  rw [e]
  simpa using hown
theorem Yi.cell [bn:Inhabited Ban] {base:Nat} {w:World} {ao:Option Addr} {n cap:Nat} {l:List RecS} (h:Yi base w (.slice ao n cap) l) {i:Nat} {x:RecS} (hi:l[i]?=some x) :
  ∃ g u,ao=some ⟨g,0,none⟩/\Qv base w u x.s.body/\w.cell? ⟨g,i*4,none⟩=some (.int .i64 x.who)/\w.cell? ⟨g,i*4+1,none⟩=some (.int .u64 x.n)/\w.cell? ⟨g,i*4+2,none⟩=some (.int .i64 x.s.c)/\w.cell? ⟨g,i*4+3,none⟩=some u:=by
 obtain ⟨ao',cap',hq,_⟩:=h.form
 simp only [Value.slice.injEq] at hq
 obtain ⟨rfl,rfl,rfl⟩:=hq
 obtain ⟨xs,h1,h2,h3⟩:=h
 have hxs:∃ u,xs[i]?=some (x,u):=by
  rw [<- h1,List.getElem?_map] at hi
  cases hx:xs[i]? with
  | none=>rw [hx] at hi;simp at hi
  | some y=>rw [hx] at hi;simp at hi;exact ⟨y.2,by rw [<- hi]⟩
 obtain ⟨u,hu⟩:=hxs
 have hl:(Xu xs).length=l.length*4:=by unfold Xu;rw [flatMap_len _ 4 (fun _=>rfl),<- h1,List.length_map]
 have c:=fun (f:Nat) (hf:f<4) (y:Value) (hy:(Jd x u)[f]?=some y)=>Gy h3 (j:=i*4+f) (x:=y) (by unfold Xu;rw [flatMap_at (fun x:RecS × Value=>Jd x.1 x.2) 4 (fun _=>rfl) hu hf];exact hy) hl
 obtain ⟨g,rfl,c0⟩:=c 0 (by decide) _ rfl
 refine ⟨g,u,rfl,h2 _ (List.mem_of_getElem? hu),c0,?_,?_,?_⟩
 ·obtain ⟨_,e,h⟩:=c 1 (by decide) _ rfl;simp at e;subst e;exact h
 ·obtain ⟨_,e,h⟩:=c 2 (by decide) _ rfl;simp at e;subst e;exact h
 ·obtain ⟨_,e,h⟩:=c 3 (by decide) _ rfl;simp at e;subst e;exact h
theorem elem_recs:Tryz.prog.underlying 31=some (.slice (Tryz.prog.elem 31)):=by kernel_rfl
theorem size_recs (w:World):(sizeOf (Tryz.prog.elem 31)).run Tryz.prog w=.ok 4 w:=by kernel_rfl
theorem slice_recs [bn:Inhabited Ban] {base:Nat} {w0:World} {ao:Option Addr} {n cap k:Nat} {l:List RecS} (h:Yi base w0 (.slice ao n cap) l) (hk:k<=n) (w:World) :
  (Instr.slice 31 (.slice ao n cap) none (some (.int .i64 (k:Int))) none).run Tryz.prog w=.ok (.slice ao k cap) w:=by
 obtain ⟨_,_,_,h3⟩:=h
 have hnc:n<=cap:=by
  obtain ⟨ao',cap',hq,q1,q2⟩:=Kj h3
  simp only [Value.slice.injEq] at hq
  omega
 rw [run_slice_h w 31 ao n cap elem_recs .i64 _ (by omega) (by omega),Int.toNat_natCast,size_recs]
 rcases h3.2 with ⟨hq,_⟩ | ⟨g,cap',cur,hq,_⟩
 ·simp only [Value.slice.injEq] at hq
  obtain ⟨rfl,rfl,rfl⟩:=hq
  have:k=0:=by omega
  subst this
  rfl
 ·simp only [Value.slice.injEq] at hq
  obtain ⟨rfl,rfl,rfl⟩:=hq
  simp [sliced,Result.andThen]
  intro _
  simp [Addr.add]
theorem gSome_spec [bn:Inhabited Ban] {base:Nat} {w:World} {q g m:Nat} {lv:Value} {L:LedS} (h:Zv base w q g m lv L) (n:Nat) (hn:n<=L.recs.length) (hrec:L.recs.length<=1073741824) (hbl:∀ r∈L.recs,r.s.body.length<=1073741824) :
  Calls Tryz.prog 51 #[.pointer (some ⟨q,0,none⟩),.int .i64 n] w fun e w'=>∃ v,e=.returned v/\Xg w' w.heap.size v (L.recs.take n)/\Keep No w w':=by
 obtain ⟨c114,_,_⟩:=h.endCells
 obtain ⟨lo,lc,rfl,_,hlm⟩:=h.recs.form
 have hsl:=fun (w':World)=>slice_recs h.recs (k:=n) hn w'
 have HH:=Lib.hid (A4 h.recs hn hrec hbl)
 have hni:(n:Int)<=1073741824:=by omega
 clear h hn hrec hbl hlm
 go_enter Tryz.func51,Tryz.ntmps51
 go_wp2_with fail
 go_loopw [5,15] (fun v5 v15 wr=>∃ k,v15=.int .i64 (k:Nat)/\k<=n/\Xg wr w.heap.size v5 (L.recs.take k)/\Keep No w wr) (fun _ v15 _=>n - (intOf v15).toNat)
 case atStart=>exact ⟨0,rfl,Nat.zero_le _,Xg.nil _ _,Keep.refl _ _⟩
 case round =>
  obtain ⟨k,rfl,hk,hown,kr⟩:=hrel
  obtain ⟨oo,oc,rfl,_,_⟩:=hown.form
  by_cases hlt:k<n
  ·have hkl:k<L.recs.length:=Nat.lt_of_lt_of_le hlt HH.out.2.1
   have hx:L.recs[k]?=some L.recs[k]:=List.getElem?_eq_getElem hkl
   have htake:L.recs.take (k+1)=L.recs.take k++[L.recs[k]]:=List.take_succ_eq_append_getElem hkl
   generalize L.recs[k]=x at hx htake
   obtain ⟨gi,ui,hgi,hub,e0,e1,e2,e3⟩:=HH.out.1.cell hx
   obtain ⟨uo,uc,rfl⟩:=hub.form
   subst hgi
   have e0:=kr.cell e0 (fun e=>e)
   have e1:=kr.cell e1 (fun e=>e)
   have e2:=kr.cell e2 (fun e=>e)
   have e3:=kr.cell e3 (fun e=>e)
   have hki:(k:Int)<(n:Int):=by omega
   obtain ⟨tk,htk⟩:∃ tk,tk=L.recs.take k:=⟨_,rfl⟩
   rw [<- htk] at hown htake
   have hlen:tk.length<=1073741824:=by rw [htk,List.length_take];omega
   have htl:tk.length=(L.recs.take k).length:=by rw [htk]
   rw [<- htl]
   have kA:=(Keep.refl No wr).alloc (.cells #[.int .i64 x.who,.int .u64 x.n,.int .i64 x.s.c,.slice uo x.s.body.length uc] 63)
   have hA:=Qy wr (.cells #[.int .i64 x.who,.int .u64 x.n,.int .i64 x.s.c,.slice uo x.s.body.length uc] 63)
   have hcl:=Ju ((hub.no kr).no kA) (by have:=HH.out.2.2.2 x (List.mem_of_getElem? hx);omega)
   have HR:=Lib.hid (A7 hown kr htake hlen kA hA hlt)
   clear hown kr htake hlen kA hA hlt hx hkl htk htl hub hk
   go_wp2_with fail
   refine hcl.mono ?_
   rintro e w2 ⟨v2,rfl,own2,k2⟩
   clear hcl
   obtain ⟨o2,c2,rfl⟩:=own2.form
   have hA2:=k2.heap HR.out.2.2.2.2.2.1 (fun e=>e)
   have d0:=Qq hA2 0
   have d1:=Qq hA2 1
   have d2:=Qq hA2 2
   have d3:=Qq hA2 3
   have fA:=Qg hA2
   simp at d0 d1 d2 d3
   obtain ⟨W3,hW3⟩:∃ W3,w2.setCell ⟨wr.heap.size,3,none⟩ (.slice o2 x.s.body.length c2)=W3:=⟨_,rfl⟩
   have k3:Keep (·=wr.heap.size) w2 (w2.setCell ⟨wr.heap.size,3,none⟩ (.slice o2 x.s.body.length c2)):=Qd _ _
   have hA3:=Qz (i:=3) (u:=.slice o2 x.s.body.length c2) hA2
   have hsA:wr.heap.size<(wr.alloc (.cells #[.int .i64 x.who,.int .u64 x.n,.int .i64 x.s.c,.slice uo x.s.body.length uc] 63)).heap.size:=by simp
   have own3:=own2.keep k3 (fun b hb e=>by have:=(own2.lt b hb).1;have e:b=wr.heap.size:=e;omega)
   have hown2:=((HR.out.1.no HR.out.2.2.2.2.1).no k2)
   have hown3:Xg (w2.setCell ⟨wr.heap.size,3,none⟩ (.slice o2 x.s.body.length c2)) w.heap.size (.slice oo tk.length oc) tk:=by
    obtain ⟨xs,h1,h2,h3⟩:=HR.out.1
    refine ⟨xs,h1,fun y hy=>(((h2 y hy).keep HR.out.2.2.2.2.1 (fun _ _ e=>e)).keep k2 (fun _ _ e=>e)).keep k3 (fun b hb e=>?_),Yu (Yu (Yu h3 HR.out.2.2.2.2.1 (fun _ _ e=>e)) k2 (fun _ _ e=>e)) k3 (fun b hb e=>?_)⟩
    ·have:=(OwnB.lt (h2 y hy) b hb).2;have e:b=wr.heap.size:=e;omega
    ·have:=(World.ownsRow.lt h3 b hb).2;have e:b=wr.heap.size:=e;omega
   rw [hW3] at k3 hA3 own3 hown3
   have p0:=Qq hA3 0
   have p1:=Qq hA3 1
   have p2:=Qq hA3 2
   have p3:=Qq hA3 3
   simp at p0 p1 p2 p3
   have kB:=(Keep.refl No W3).alloc (.cells #[.int .i64 x.who,.int .u64 x.n,.int .i64 x.s.c,.slice o2 x.s.body.length c2] 63)
   have hB:=Qy W3 (.cells #[.int .i64 x.who,.int .u64 x.n,.int .i64 x.s.c,.slice o2 x.s.body.length c2] 63)
   have hsz:=HR.out.2.1.size
   have H3:=Lib.hid (A5 (hown3.no kB) ((own3.keep kB (fun _ _ e=>e)).mono (B':=w.heap.size) (by omega)) hB ((((HR.out.2.1.then HR.out.2.2.2.2.1).then k2).trans k3 (fun c hc e=>by have e:c=wr.heap.size:=e;omega)).then kB) hsz)
   have hsz3:=H3.out.2.2.2.1.size
   clear hown3 own3 hB kB k3 hA3 hA2 own2 hown2 k2 hsA
   go_wp2_with (at_builtin;refine wpList_append_orec rfl _ _ rfl H3.out.1 rfl H3.out.2.2.1 rfl H3.out.2.1 (by have:=HR.out.2.2.2.1;omega) hsz3 ?_;intro vo5 vc5 w5 hown5 k5)
   go_roundw
   case rel =>
    refine ⟨k+1,by congr 1,by have:=HR.out.2.2.2.2.2.2;omega,by rw [HR.out.2.2.1];exact hown5,H3.out.2.2.2.1.trans k5 (fun c hc e=>?_)⟩
    obtain ⟨xs,h1,h2,h3⟩:=HR.out.1
    have:=(World.ownsRow.lt h3 c e).1
    omega
   case measure=>have:=HR.out.2.2.2.2.2.2;simp [intOf];omega
  ·have hke:k=n:=by omega
   have hki:¬(k:Int)<(n:Int):=by omega
   subst hke
   obtain ⟨tk,htk⟩:∃ tk,tk=L.recs.take k:=⟨_,rfl⟩
   rw [<- htk] at hown
   have htl:tk.length=(L.recs.take k).length:=by rw [htk]
   rw [<- htl]
   have HR:=Lib.hid (A3 hown kr htk)
   clear hown kr hk hlt htk htl
   go_wp2_with fail
   go_ret
   exact ⟨_,rfl,by rw [<- HR.out.2.2];exact HR.out.1,HR.out.2.1⟩
theorem gAll_spec [bn:Inhabited Ban] {base:Nat} {w:World} {q g m:Nat} {lv:Value} {L:LedS} (h:Zv base w q g m lv L) (hrec:L.recs.length<=1073741824) (hbl:∀ r∈L.recs,r.s.body.length<=1073741824) :
  Calls Tryz.prog 13 #[.pointer (some ⟨q,0,none⟩)] w fun e w'=>∃ v,e=.returned v/\Xg w' w.heap.size v L.recs/\Keep No w w':=by
 have hs:=gSome_spec h L.recs.length (Nat.le_refl _) hrec hbl
 rw [List.take_of_length_le (Nat.le_refl _)] at hs
 obtain ⟨c114,_,_⟩:=h.endCells
 obtain ⟨lo,lc,rfl,_,_⟩:=h.recs.form
 clear h hbl
 go_enter Tryz.func13,Tryz.ntmps13
 go_wp2_with (go_at_call 51;refine hs.mono ?_;rintro e w' ⟨v,rfl,ho,k⟩)
 go_ret
 exact ⟨_,rfl,ho,k⟩
theorem gStored_spec [bn:Inhabited Ban] {base:Nat} {w:World} {q g m:Nat} {lv:Value} {L:LedS} (h:Zv base w q g m lv L) (hrec:L.recs.length<=1073741824) (hbl:∀ r∈L.recs,r.s.body.length<=1073741824) (hsf:L.safe<=L.recs.length) :
  Calls Tryz.prog 14 #[.pointer (some ⟨q,0,none⟩)] w fun e w'=>∃ v,e=.returned v/\Xg w' w.heap.size v (L.recs.take L.safe)/\Keep No w w':=by
 have hs:=gSome_spec h L.safe hsf hrec hbl
 obtain ⟨_,c115,_⟩:=h.endCells
 clear h hbl
 go_enter Tryz.func14,Tryz.ntmps14
 go_wp2_with (go_at_call 51;refine hs.mono ?_;rintro e w' ⟨v,rfl,ho,k⟩)
 go_ret
 exact ⟨_,rfl,ho,k⟩
theorem posR_some {l:List RecS} {a:Int} {n j:Nat} (h:posR l a n=some j):∃ r,l[j]?=some r/\(r.who:Int)=a/\r.n=n:=by
 unfold posR at h
 rw [List.findIdx?_eq_some_iff_getElem] at h
 obtain ⟨hj,hp,_⟩:=h
 refine ⟨l[j],List.getElem?_eq_getElem hj,?_⟩
 simp at hp
 exact ⟨hp.1,by omega⟩
theorem posR_mem {l:List RecS} {r:RecS} (h:r∈l):∃ j,posR l (r.who:Int) r.n=some j:=by
 cases e:posR l (r.who:Int) r.n with
 | some j=>exact ⟨j,rfl⟩
 | none =>
  unfold posR at e
  rw [List.findIdx?_eq_none_iff] at e
  have:=e r h
  simp at this
theorem gGet_some [bn:Inhabited Ban] {base:Nat} {w:World} {q g m j:Nat} {lv:Value} {L:LedS} {r:RecS} (h:Zv base w q g m lv L) (a:Int) (n:Nat) (hp:posR L.recs a n=some j) (hr:L.recs[j]?=some r) (hrec:L.recs.length<=1073741824) (hbl:r.s.body.length<=1073741824) :
  Calls Tryz.prog 78 #[.pointer (some ⟨q,0,none⟩),.agg #[.int .i64 a,.int .u64 n]] w fun e w'=>∃ v,e=.returned (.tuple #[.agg #[.int .i64 r.s.c,v],.bool true])/\OwnB w' w.heap.size v r.s.body/\Keep No w w':=by
 obtain ⟨W,hW⟩:∃ W,W=(w.alloc (.cells #[.int .i64 a,.int .u64 n] 58)).alloc (.cells #[.int .i64 0,.slice none 0 0] 61):=⟨_,rfl⟩
 have kW:Keep No w W:=by rw [hW];exact ((Keep.refl _ _).alloc _).alloc _
 have hA:W.heap[w.heap.size]?=some (.cells #[.int .i64 a,.int .u64 n] 58 (0,0)):=by
  rw [hW]
  exact ((Keep.refl No _).alloc _).heap (Qy _ _) (fun e=>e)
 have hB:W.heap[w.heap.size+1]?=some (.cells #[.int .i64 0,.slice none 0 0] 61 (0,0)):=by
  rw [hW]
  have:=Qy (w.alloc (.cells #[.int .i64 a,.int .u64 n] 58)) (.cells #[.int .i64 0,.slice none 0 0] 61)
  rw [World.size_alloc] at this
  exact this
 have hl:=h.no kW
 obtain ⟨c114,_,c116⟩:=hl.endCells
 have hjl:=(List.getElem?_eq_some_iff.1 hr).1
 obtain ⟨lo,lc,hlv,_,_⟩:=hl.recs.form
 subst hlv
 obtain ⟨gi,ui,hgi,hub,e0,e1,e2,e3⟩:=hl.recs.cell hr
 obtain ⟨uo,uc,rfl⟩:=hub.form
 subst hgi
 have hji:(j:Int)<(L.recs.length:Int):=by omega
 have hli:(L.recs.length:Int)<=1073741824:=by omega
 have i0:=Qq hA 0
 have i1:=Qq hA 1
 simp at i0 i1
 have hlook:=fun (w':World) (k:Keep No W w')=>(hl.by'.keep k (fun e=>e)).look a n
 simp only [hp,Option.getD_some,Option.isSome_some] at hlook
 have HH:=Lib.hid (A5 kW hB hlook hub hbl)
 clear h hl kW hA hB hp hlook hr hjl hub hrec hbl e0 e1
 go_enter Tryz.func78,Tryz.ntmps78
 go_wp2_with fail
 rw [<- hW]
 clear hW
 have kd:Keep No W W.drew:=(Keep.refl _ _).drew
 refine Ql (fun w'=>Keep No W w') [0,1,2,3,4,5,6,7,8] [9,10] [] (by kernel_rfl) (by kernel_rfl) (fun _ _ _ _ _ h=>h) kd ?_
 iterate 9 (refine Qk (v:=?_) rfl rfl rfl ?_ ?_;rotate_left;focus (
  intro w' hS
  have f116:=hS.cell c116 (fun e=>e)
  have j0:=hS.cell i0 (fun e=>e)
  have j1:=hS.cell i1 (fun e=>e)
  have hlk:=HH.out.2.2.1 w' hS
  go_simp
  try with_reducible rfl))
 refine Qj (Qx rfl rfl (fun K hK=>?_))
 go_simp
 refine hK _ _ kd ?_
 clear hK K
 refine Qx rfl rfl (fun K hK=>?_)
 go_simp
 refine hK _ _ kd ?_
 clear hK K
 refine Qh (Qm ?_)
 have hB:=kd.heap HH.out.2.1 (fun e=>e)
 have f114:=kd.cell c114 (fun e=>e)
 have f2:=kd.cell e2 (fun e=>e)
 have f3:=kd.cell e3 (fun e=>e)
 have hub:=HH.out.2.2.2.1.no kd
 have kdW:=HH.out.1.then kd
 clear i0 i1 c114 c116 e2 e3
 generalize W.drew=X at *
 have kA:=(Keep.refl No X).alloc (.cells #[.int .i64 r.s.c,.slice uo r.s.body.length uc] 61)
 have hS:=Qy X (.cells #[.int .i64 r.s.c,.slice uo r.s.body.length uc] 61)
 have hcl:=Ju (hub.no kA) (by have:=HH.out.2.2.2.2;omega)
 have hsw:w.heap.size+1<X.heap.size:=Qt hB
 have HX:=Lib.hid (A5 hB kdW kA hS hsw)
 clear hB kdW kd hub kA hS hsw
 go_wp2_with fail
 refine hcl.mono ?_
 rintro e w2 ⟨v2,rfl,own2,k2⟩
 clear hcl
 obtain ⟨o2,c2,rfl⟩:=own2.form
 have hS2:=k2.heap HX.out.2.2.2.1 (fun e=>e)
 have hB2:=k2.heap (HX.out.2.2.1.heap HX.out.1 (fun e=>e)) (fun e=>e)
 have p0:=Qq hS2 0
 have p1:=Qq hS2 1
 have fS:=Qg hS2
 simp at p0 p1
 obtain ⟨W3,hW3⟩:∃ W3,w2.setCell ⟨X.heap.size,1,none⟩ (.slice o2 r.s.body.length c2)=W3:=⟨_,rfl⟩
 have k3:Keep (·=X.heap.size) w2 (w2.setCell ⟨X.heap.size,1,none⟩ (.slice o2 r.s.body.length c2)):=Qd _ _
 have hS3:=Qz (i:=1) (u:=.slice o2 r.s.body.length c2) hS2
 have hB3:=k3.heap hB2 (by have:=HX.out.2.2.2.2;show ¬w.heap.size+1=X.heap.size;omega)
 have hsX:X.heap.size<(X.alloc (.cells #[.int .i64 r.s.c,.slice uo r.s.body.length uc] 61)).heap.size:=by simp
 have own3:=own2.keep k3 (fun b hb e=>by have:=(own2.lt b hb).1;have e:b=X.heap.size:=e;omega)
 rw [hW3] at k3 hS3 hB3 own3
 have q0:=Qq hS3 0
 have q1:=Qq hS3 1
 have b0:=Qq hB3 0
 have b1:=Qq hB3 1
 have fB:=Qg hB3
 simp at q0 q1 b0 b1
 have H3:=Lib.hid (A5 hB3 own3 k2 k3 hsX)
 clear hB3 own3 k2 k3 hsX hS3 hS2 hB2 own2
 go_wp2_with fail
 have hZ:=Qz (i:=1) (u:=.slice o2 r.s.body.length c2) (Qz (i:=0) (u:=.int .i64 r.s.c) H3.out.1)
 have kZ:=(Qd (g:=w.heap.size+1) (i:=0) W3 (.int .i64 r.s.c)).setCell (p:=⟨w.heap.size+1,1,none⟩) (.inl rfl) (.slice o2 r.s.body.length c2)
 have z0:=Qq hZ 0
 have z1:=Qq hZ 1
 simp at z0 z1
 refine bodyPost_ret (v:=.tuple #[.agg #[.int .i64 r.s.c,.slice o2 r.s.body.length c2],.bool true]) (by simp [results,Tryz.results78,go_sem,z0,z1]) rfl ?_
 have hXw:=HX.out.2.1.size
 have hXs:=HX.out.2.2.2.2
 have hsX:=H3.out.2.2.2.2
 have hlt:=H3.out.2.1.lt
 refine ⟨_,rfl,(H3.out.2.1.keep kZ (fun b hb e=>by have:=(hlt b hb).1;have e:b=w.heap.size+1:=e;omega)).mono (by omega),?_⟩
 exact ((((HX.out.2.1.then HX.out.2.2.1).then H3.out.2.2.1).trans H3.out.2.2.2.1 (fun x hx e=>by have e:x=X.heap.size:=e;omega)).trans kZ (fun x hx e=>by omega))
def told (width:Nat) (ts:List LRec):LedS:=ts.foldl LedS.step (LedS.start width)
def LedS.now (L:LedS):List (Nat × WinS):=L.ag.map (fun g=>(g.floor,g.now))
structure Jc (width:Nat) (ts:List LRec) (L:LedS):Prop where
 inc:L.inc=(told width ts).inc
 recs:L.recs=(told width ts).recs
 now:L.now=(told width ts).now
 can:∀ (k:Nat) r,ts[k]?=some r->(told width (ts.take k)).can r
theorem LedS.win_now (L:LedS) (a:Nat):L.win a=((L.now[a]?).map (·.2)).getD ⟨0,0,[]⟩:=by
 unfold LedS.win LedS.now
 rw [List.getElem?_map]
 cases L.ag[a]? <;> rfl
theorem LedS.floor_now (L:LedS) (a:Nat):L.floor a=((L.now[a]?).map (·.1)).getD 0:=by
 unfold LedS.floor LedS.now
 rw [List.getElem?_map]
 cases L.ag[a]? <;> rfl
theorem LedS.can_of {L T:LedS} (h1:L.inc=T.inc) (h2:L.now=T.now) {r:LRec} (h:L.can r):T.can r:=by
 cases r with
 | inc n=>exact ⟨by rw [<- h1];exact h.1,h.2⟩
 | floor a n=>exact ⟨h.1,by rw [LedS.floor_now,<- h2,<- LedS.floor_now];exact h.2.1,h.2.2⟩
 | put a b l=>exact ⟨h.1,h.2.1,h.2.2.1,h.2.2.2.1,by rw [LedS.win_now,<- h2,<- LedS.win_now];exact h.2.2.2.2⟩
theorem map_modify {α β:Type} (f:α->β) (g:α->α) (g':β->β) (h:∀ x,f (g x)=g' (f x)) (l:List α) (i:Nat):(l.modify i g).map f=(l.map f).modify i g':=by
 apply List.ext_getElem?
 intro j
 rw [List.getElem?_map,List.getElem?_modify,List.getElem?_modify,List.getElem?_map]
 by_cases e:i=j
 ·simp only [if_pos e]
  cases l[j]? with
  | none=>rfl
  | some x=>simp [h]
 ·simp only [if_neg e]
  cases l[j]? <;> simp
theorem LedS.now_step (L:LedS) (r:LRec):(L.step r).now=match r with
  | .inc _=>L.now
  | .floor a n=>L.now.modify a (fun x=>(n,x.2))
  | .put a b l=>L.now.modify a (fun x=>(x.1,(x.2.skip b).putAll l)):=by
 cases r with
 | inc n=>rfl
 | floor a n=>exact map_modify (fun g:AgS=>(g.floor,g.now)) (fun g=>{ g with floor:=n }) (fun x=>(n,x.2)) (fun _=>rfl) L.ag a
 | put a b l=>exact map_modify (fun g:AgS=>(g.floor,g.now)) (fun g=>{ g with now:=(g.now.skip b).putAll l }) (fun x=>(x.1,(x.2.skip b).putAll l)) (fun _=>rfl) L.ag a
theorem Vv (width:Nat) (ts:List LRec) (r:LRec):told width (ts++[r])=(told width ts).step r:=by simp [told]
theorem Jc.push {width:Nat} {ts:List LRec} {L:LedS} (h:Jc width ts L) {r:LRec} (hc:L.can r):Jc width (ts++[r]) (L.step r):=by
 refine ⟨?_,?_,?_,fun k x hx=>?_⟩
 ·rw [Vv]
  cases r <;> simp [LedS.step,h.inc]
 ·rw [Vv]
  cases r <;> simp [LedS.step,h.recs]
 ·rw [Vv,LedS.now_step,LedS.now_step,h.now]
 ·by_cases hk:k<ts.length
  ·rw [List.getElem?_append_left hk] at hx
   rw [List.take_append_of_le_length (by omega)]
   exact h.can k x hx
  ·rw [List.getElem?_append_right (by omega)] at hx
   have h0:=(List.getElem?_eq_some_iff.1 hx).1
   simp at h0
   have hk0:k-ts.length=0:=by omega
   rw [hk0] at hx
   simp at hx
   subst hx
   rw [List.take_append_of_le_length (by omega),List.take_of_length_le (by omega)]
   exact LedS.can_of h.inc h.now hc
theorem Jc.sync {width:Nat} {ts:List LRec} {L:LedS} (h:Jc width ts L):Jc width ts L.sync :=
 ⟨h.inc,h.recs,by rw [<- h.now];simp [LedS.now,LedS.sync],h.can⟩
def Zk (ts:List LRec):List Qs:=ts.map LRec.bytes
section
variable [bn:Inhabited Ban] {base:Nat} {w w':World} {q g m p n s width:Nat} {lv wv sgv rlv:Value} {size:Int} {ss:List SegL} {ts:List LRec} {rs:List Qs} {d:Qr} {L:LedS}
def Qi (q g m:Nat) (lv:Value) (p n s:Nat) (wv sgv rlv:Value):Nat->Prop:=fun b=>Kw q m lv b\/Kx g p n s wv sgv rlv b
end
def Qc.rightB (x:Qc):Bool:=decide (x.n<2305843009213693952) && x.s.right
theorem Qc.rightB_iff (x:Qc):x.rightB=true ↔ x.Right:=by
 unfold Qc.rightB Qc.Right Ys.right Ys.Right
 simp
def Yv (b:Nat) (l:List Qc):Bool:=l.all Qc.rightB && decide (b<2305843009213693952)
theorem Jm (b:Nat) (l:List Qc):Yv b l=true ↔ (∀ x∈l,x.Right)/\b<2305843009213693952:=by
 unfold Yv
 rw [Bool.and_eq_true,List.all_eq_true,decide_eq_true_eq]
 simp only [Qc.rightB_iff]
theorem gRight_spec [bn:Inhabited Ban] {base B:Nat} {w:World} {v:Value} {l:List Qc} (b:Nat) (h:Xr base w B v l) (hl:l.length<=1048576) (hbl:∀ x∈l,x.s.body.length<=1073741824) :
  Calls Tryz.prog 63 #[.int .u64 b,v] w fun e w'=>e=.returned (.bool (Yv b l))/\Keep No w w':=by
 obtain ⟨vo,vc,rfl,_,_⟩:=h.form
 obtain ⟨rb,hrb⟩:∃ rb,rb=Yv b l:=⟨_,rfl⟩
 rw [<- hrb]
 have HH:=Lib.hid (A3 h hbl hrb)
 have hli:(l.length:Int)<=1048576:=by omega
 clear h hl hbl hrb
 go_enter Tryz.func63,Tryz.ntmps63
 go_wp2_with fail
 go_loopw [9] (fun v9 wr=>∃ k,v9=.int .i64 (k:Nat)/\k<=l.length/\(∀ x∈l.take k,x.rightB=true)/\Keep No w wr) (fun v9 _=>l.length - (intOf v9).toNat)
 case atStart=>exact ⟨0,rfl,Nat.zero_le _,fun x hx=>by simp at hx,Keep.refl _ _⟩
 case round =>
  obtain ⟨k,rfl,hk,hall,kr⟩:=hrel
  by_cases hlt:k<l.length
  ·have hx:l[k]?=some l[k]:=List.getElem?_eq_getElem hlt
   have htake:l.take (k+1)=l.take k++[l[k]]:=List.take_succ_eq_append_getElem hlt
   generalize l[k]=z at hx htake
   obtain ⟨gi,ui,hgi,hub,e0,e1,e2⟩:=(HH.out.1.no kr).cell hx
   obtain ⟨uo,uc,rfl⟩:=hub.form
   subst hgi
   have hki:(k:Int)<(l.length:Int):=by omega
   have hzb:=HH.out.2.1 z (List.mem_of_getElem? hx)
   have hmem:=List.mem_of_getElem? hx
   have hsr:=fun (w':World)=>sRight_spec (w:=w') (s:=z.s) (ao:=uo) (cap:=uc) (by omega)
   have kA:=(Keep.refl No wr).alloc (.cells #[.int .u64 z.n,.int .i64 z.s.c,.slice uo z.s.body.length uc] 111)
   by_cases hn:z.n<2305843009213693952
   ·have hni:¬(2305843009213693952:Int)<=(z.n:Int):=by omega
    cases hzs:z.s.right
    ·rw [hzs] at hsr
     have hf:Yv b l=false:=by
      unfold Yv
      have:l.all Qc.rightB=false:=by
       rw [List.all_eq_false]
       exact ⟨z,hmem,by unfold Qc.rightB;simp [hzs]⟩
      rw [this];rfl
     obtain rfl:rb=false:=HH.out.2.2.trans hf
     have HR:=Lib.hid (kr.then kA)
     clear hall hlt hx htake hub hzb hmem kA hzs hf kr hk hn
     go_wp2_with (go_at_call 115;refine (hsr _).mono ?_;rintro e w2 ⟨rfl,k2⟩)
     go_ret
     exact ⟨rfl,HR.out.then k2⟩
    ·rw [hzs] at hsr
     have hz1:z.rightB=true:=by unfold Qc.rightB;simp [hn,hzs]
     have HR:=Lib.hid (A3 (kr.then kA) hlt (show ∀ x∈l.take (k+1),x.rightB=true by
      rw [htake]
      intro x hx
      rcases List.mem_append.1 hx with hx | hx
      ·exact hall x hx
      ·rw [List.mem_singleton.1 hx];exact hz1))
     clear hall hlt hx htake hub hzb hmem kA hzs hz1 kr hk hn
     go_wp2_with (go_at_call 115;refine (hsr _).mono ?_;rintro e w2 ⟨rfl,k2⟩)
     go_roundw
     case rel=>exact ⟨k+1,by congr 1,by have:=HR.out.2.1;omega,HR.out.2.2,HR.out.1.then k2⟩
     case measure=>have:=HR.out.2.1;simp [intOf];omega
   ·have hni:(2305843009213693952:Int)<=(z.n:Int):=by omega
    have hf:Yv b l=false:=by
     unfold Yv
     have:l.all Qc.rightB=false:=by
      rw [List.all_eq_false]
      exact ⟨z,hmem,by unfold Qc.rightB;simp [hn]⟩
     rw [this];rfl
    obtain rfl:rb=false:=HH.out.2.2.trans hf
    have HR:=Lib.hid (kr.then kA)
    clear hall hlt hx htake hub hzb hmem kA hf kr hk hn hsr
    go_wp2_with fail
    go_ret
    exact ⟨rfl,HR.out⟩
  ·have hke:k=l.length:=by omega
   have hki:¬(k:Int)<(l.length:Int):=by omega
   rw [hke,List.take_of_length_le (Nat.le_refl _)] at hall
   have hf:Yv b l=decide (b<2305843009213693952):=by
    unfold Yv
    rw [List.all_eq_true.2 hall]
    rfl
   have HR:=Lib.hid kr
   have hf3:rb=decide (b<2305843009213693952):=HH.out.2.2.trans hf
   clear kr hall hk hlt hke hf
   by_cases hbl:b<2305843009213693952
   ·have hbi:(b:Int)<2305843009213693952:=by omega
    obtain rfl:rb=true:=hf3.trans (decide_eq_true hbl)
    clear hf3 hbl
    go_wp2_with fail
    go_ret
    exact ⟨rfl,HR.out⟩
   ·have hbi:¬(b:Int)<2305843009213693952:=by omega
    obtain rfl:rb=false:=hf3.trans (decide_eq_false hbl)
    clear hf3 hbl
    go_wp2_with fail
    go_ret
    exact ⟨rfl,HR.out⟩
def u64v (n:Nat):Value:=.int .u64 (n:Int)
def OwnN (w:World) (B:Nat) (v:Value) (l:List Nat):Prop:=w.ownsRow B 27 1 v l.length (l.map u64v)
theorem OwnN.nil (w:World) (B:Nat):OwnN w B (.slice none 0 0) []:=World.ownsRow_nil _ _ _ _
theorem OwnN.form {w:World} {B:Nat} {v:Value} {l:List Nat} (h:OwnN w B v l):∃ ao cap,v=.slice ao l.length cap/\l.length<=cap/\cap<=maxLen:=Kj h
theorem OwnN.keep {w w':World} {B:Nat} {v:Value} {l:List Nat} {F:Nat->Prop} (h:OwnN w B v l) (k:Keep F w w') (hF:∀ b,v.ownBlock=some b->¬F b):OwnN w' B v l:=Yu h k hF
theorem OwnN.kind {w:World} {B:Nat} {v:Value} {l:List Nat} (h:OwnN w B v l):∀ b,v.ownBlock=some b->B<=b/\∃ cur,w.heap[b]?=some (.cells cur 27 (0,0)):=Qa h
theorem info_u64n:(Tryz.prog.info? 27).map (fun i=>(i.zero,i.size,i.bytes))=some (some (.int .u64 0),1,8):=by kernel_rfl
theorem wpList_append_num {w:World} {ops:Array Oper} {rest:List Oper} {o:Oper} {a:Act} {Q:Exit->Act->World->Prop} (hg:o.guard=none) (s x:Operand)
  (ho:o.op=.call { callee:=.builtin .append,args:=#[s,x],argTypes:=#[52,52] }) {B:Nat} {v:Value} {l:List Nat} (h:OwnN w B v l) (hs:a.eval s=v) {D n:Nat}
  (hD:w.heap[D]?=some (.cells #[.int .u64 n] 27 (0,0))) (hx:a.eval x=.slice (some ⟨D,0,none⟩) 1 1) (hl:l.length<=1099511627776) (hb:B<=w.heap.size)
  (hK:∀ vo vc w',OwnN w' B (.slice vo (l.length+1) vc) (l++[n])->Keep (fun b=>v.ownBlock=some b) w w'->wpList Tryz.prog ops Q rest (a.put o.dst (.slice vo (l.length+1) vc)) w'):wpList Tryz.prog ops Q (o :: rest) a w:=by
 obtain ⟨i0,hi0,hz0,hz1,hz2⟩:=info_parts info_u64n
 refine wpList_plain hg fun K hK'=>?_
 refine wp_append_lies w s x 52 ho B 27 i0 _ 1 8 Tryz.underlying52 hi0 hz0 hz1 hz2 rfl (by omega) v l.length (l.map u64v) hs h
  ⟨D,0,none⟩ 1 1 [.int .u64 n] hx rfl (World.news_of_block (cs:=#[.int .u64 n]) (t:=27) (fr:=(0,0)) hD) (by simp [Value.oneCell']) (by omega) (by unfold maxLen;omega) (by omega) hb w.heap.size rfl ?_
 intro g cap w' hown hgr hat hlt
 refine hK' _ _ (hK _ _ _ ?_ (Jr hgr))
 unfold OwnN
 rw [List.length_append,List.map_append]
 exact hown
def pick:WinS->List Qc->List Qc
 | _,[]=>[]
 | w,x :: l=>if w.takes x.n=true then x :: pick (w.put x.n) l else pick w l
theorem Kq (w:WinS) (a b:List Qc):w.putAll (a++b)=(w.putAll a).putAll b:=by unfold WinS.putAll;rw [List.foldl_append]
theorem Uw:∀ (w:WinS) (l:List Qc) (z:Qc),pick w (l++[z])=pick w l++(if (w.putAll (pick w l)).takes z.n=true then [z] else [])
 | w,[],z=>by
  show (if w.takes z.n=true then [z] else [])=[]++_
  rfl
 | w,x :: l,z=>by
  show (if w.takes x.n=true then x :: pick (w.put x.n) (l++[z]) else pick w (l++[z]))=(if w.takes x.n=true then x :: pick (w.put x.n) l else pick w l)++_
  by_cases h:w.takes x.n=true
  ·rw [if_pos h,if_pos h,Uw (w.put x.n) l z]
   have e:w.putAll (pick w (x :: l))=(w.put x.n).putAll (pick (w.put x.n) l):=by
    show w.putAll (if w.takes x.n=true then x :: pick (w.put x.n) l else pick w l)=_
    rw [if_pos h];rfl
   rw [e];rfl
  ·rw [if_neg h,if_neg h,Uw w l z]
   have e:pick w (x :: l)=pick w l:=by
    show (if w.takes x.n=true then x :: pick (w.put x.n) l else pick w l)=_
    rw [if_neg h]
   rw [e]
theorem pick_allIn:∀ (w:WinS) (l:List Qc),w.allIn (pick w l)
 | _,[]=>trivial
 | w,x :: l=>by
  show w.allIn (if w.takes x.n=true then x :: pick (w.put x.n) l else pick w l)
  by_cases h:w.takes x.n=true
  ·rw [if_pos h];exact ⟨h,pick_allIn _ l⟩
  ·rw [if_neg h];exact pick_allIn w l
theorem Xi:∀ (w:WinS) (l:List Qc),(pick w l).Sublist l
 | _,[]=>List.Sublist.refl _
 | w,x :: l=>by
  show (if w.takes x.n=true then x :: pick (w.put x.n) l else pick w l).Sublist _
  by_cases h:w.takes x.n=true
  ·rw [if_pos h];exact (Xi _ l).cons_cons x
  ·rw [if_neg h];exact (Xi w l).cons x
def LedS.putR (L:LedS) (a b:Nat) (l:List Qc):Option LRec:=if pick ((L.win a).skip b) l=[]/\(L.win a).skip b=L.win a then none else some (.put a b (pick ((L.win a).skip b) l))
theorem Vo {l:List Qc} {N:Nat} (h:∀ x∈l,x.Right/\x.s.body.length<=N):(Qb l).length<=l.length*(N+21):=by
 induction l with
 | nil=>simp [Qb]
 | cons x l ih =>
  have h1:=ih (fun y hy=>h y (by simp [hy]))
  obtain ⟨hx1,hx2⟩:=h x (by simp)
  have a1:=Qp (n:=x.n) (by have:=hx1.1;omega)
  have a2:=Qp (n:=x.s.body.length) (by have:=hx1.2.2.2;omega)
  have e:Qb (x :: l)=x.bytes++Qb l:=by simp [Qb]
  rw [e,List.length_append]
  have e2:x.bytes.length<=N+21:=by
   unfold Qc.bytes Ys.bytes
   simp only [List.length_append,List.length_cons]
   omega
  rw [List.length_cons,Nat.add_mul]
  omega
theorem LedS.putR_can {a b:Nat} {L:LedS} {l:List Qc} {r:LRec} (ha:a<16) (hr:Yv b l=true) (hl:l.length<=64) (h:L.putR a b l=some r):L.can r:=by
 unfold LedS.putR at h
 split at h
 ·cases h
 ·simp only [Option.some.injEq] at h
  subst h
  obtain ⟨h1,h2⟩:=(Jm b l).1 hr
  exact ⟨ha,h2,Nat.le_trans (Xi _ _).length_le hl,fun x hx=>h1 x ((Xi _ _).subset hx),pick_allIn _ _⟩
structure Rk [bn:Inhabited Ban] (w wr:World) (b11:Nat) (tv pv:Value) (y:WinS) (t:List Qc):Prop where
 nums:OwnN wr w.heap.size tv (t.map (·.n))
 bytes:OwnB wr w.heap.size pv (Qb t)
 box:Xf wr b11 (y.putAll t)
 k:Keep No w wr
 new:w.heap.size<=b11
theorem Rk.no [bn:Inhabited Ban] {w wr w':World} {b11:Nat} {tv pv:Value} {y:WinS} {t:List Qc} (h:Rk w wr b11 tv pv y t) (k:Keep No wr w'):Rk w w' b11 tv pv y t :=
 ⟨h.nums.keep k (fun _ _ e=>e),h.bytes.keep k (fun _ _ e=>e),h.box.keep (Zn.no _) k (fun e=>e),h.k.then k,h.new⟩
theorem Rk.box2 [bn:Inhabited Ban] {w wr w':World} {b11:Nat} {tv pv:Value} {y y':WinS} {t:List Qc} (h:Rk w wr b11 tv pv y t) (_hb:Xf w' b11 y') (k:Keep (·=b11) wr w') :
  OwnN w' w.heap.size tv (t.map (·.n))/\OwnB w' w.heap.size pv (Qb t)/\Keep No w w':=by
 obtain ⟨_,_,hz,_⟩:=h.box
 refine ⟨h.nums.keep k (fun b hb e=>?_),h.bytes.keep k (fun b hb e=>?_),h.k.trans k (fun b hb e=>?_)⟩
 ·obtain ⟨_,cur,e2⟩:=h.nums.kind b hb
  rw [show b=b11 from e,hz] at e2;simp at e2
 ·obtain ⟨_,cur,e2⟩:=Qa h.bytes b hb
  rw [show b=b11 from e,hz] at e2;simp at e2
 ·have e:b=b11:=e
  have:=h.new
  omega
theorem ledCells_set6 {g inc:Nat} {ags:List (List Value)} {lv:Value} {safe m i:Nat} {c:List Value} (u1 u2 u3:Value) (h:∀ a∈ags,a.length=7) (hi:ags[i]?=some c) :
  (((Xq g inc ags lv safe m).set (2+i*7+4) u1).set (2+i*7+5) u2).set (2+i*7+6) u3=Xq g inc (ags.set i (((c.set 4 u1).set 5 u2).set 6 u3)) lv safe m:=by
 have hl:=(List.getElem?_eq_some_iff.1 hi).1
 have hc:=h c (List.mem_of_getElem? hi)
 have h7:∀ d:List Value,d.length=7->∀ a∈ags.set i d,a.length=7:=fun d hd a ha=>by
  rcases List.mem_or_eq_of_mem_set ha with ha | rfl
  ·exact h a ha
  ·exact hd
 rw [Je u1 h hi (by decide),Je (i:=i) (a:=c.set 4 u1) u2 (h7 _ (by simp [hc])) (by simp [hl]) (by decide),List.set_set,
  Je (i:=i) (a:=(c.set 4 u1).set 5 u2) u3 (h7 _ (by simp [hc])) (by simp [hl]) (by decide),List.set_set]
theorem Zv.setSafe [bn:Inhabited Ban] {base:Nat} {w:World} {q g m a:Nat} {lv:Value} {L:LedS} {x:AgS} (h:Zv base w q g m lv L) (ha:L.ag[a]?=some x) (y:WinS) {ao:Option Addr} {cap:Nat} (hr:Zy w (.slice ao y.set.length cap) y.set) :
  Zv base (((w.setCell ⟨q,2+a*7+4,none⟩ (.int .u64 y.low)).setCell ⟨q,2+a*7+5,none⟩ (.int .u64 y.width)).setCell ⟨q,2+a*7+6,none⟩ (.slice ao y.set.length cap)) q g m lv { L with ag:=L.ag.set a { x with safe:=y } } /\
   Keep (·=q) w (((w.setCell ⟨q,2+a*7+4,none⟩ (.int .u64 y.low)).setCell ⟨q,2+a*7+5,none⟩ (.int .u64 y.width)).setCell ⟨q,2+a*7+6,none⟩ (.slice ao y.set.length cap)):=by
 obtain ⟨hF,hR,_⟩:=h.set 0 (.bool true)
 have k:=((Qd (g:=q) (i:=2+a*7+4) w (.int .u64 y.low)).setCell (p:=⟨q,2+a*7+5,none⟩) (.inl rfl) (.int .u64 y.width)).setCell (p:=⟨q,2+a*7+6,none⟩) (.inl rfl) (.slice ao y.set.length cap)
 obtain ⟨ap1,ap2,ap3⟩:=h.apart
 obtain ⟨ags,hz,hag⟩:=h.blk
 obtain ⟨ns,ss,e,h1,h2⟩:=hag.at' a x ha
 refine ⟨⟨⟨ags.set a (Ki { x with safe:=y } ns (.slice ao y.set.length cap)),?_,?_⟩,h.recs.keep hF k (fun b hb e=>ap2 (by rw [hb,show b=q from e])),h.by'.keep k (fun e=>ap1 e.symm),h.qb,h.mb⟩,k⟩
 ·rw [Qz (Qz (Qz hz)),Jq,Jq,Jq,ledCells_set6 _ _ _ hag.seven e]
  rfl
 ·exact (hag.keep hR k).set ha (y:={ x with safe:=y }) (h1.keep hR k) (hr.keep hR k)
theorem Zv.setCount [bn:Inhabited Ban] {base:Nat} {w:World} {q g m:Nat} {lv:Value} {L:LedS} (h:Zv base w q g m lv L) (n:Nat) :
  Zv base (w.setCell ⟨q,115,none⟩ (.int .i64 n)) q g m lv { L with safe:=n }:=by
 obtain ⟨hF,hR,k⟩:=h.set 115 (.int .i64 n)
 obtain ⟨ap1,ap2,ap3⟩:=h.apart
 obtain ⟨ags,hz,ha⟩:=h.blk
 refine ⟨⟨ags,?_,ha.keep hR k⟩,h.recs.keep hF k (fun b hb e=>ap2 (by rw [hb,show b=q from e])),h.by'.keep k (fun e=>ap1 e.symm),h.qb,h.mb⟩
 rw [Qz hz,Jq,ledCells_setS n ha.seven ha.len]
def Sz (g:AgS):AgS:={ g with safe:=g.now }
def LedS.syncK (L:LedS) (k:Nat):LedS:={ L with ag:=(L.ag.take k).map Sz++L.ag.drop k }
theorem syncK_succ {L:LedS} {k:Nat} {x:AgS} (h:L.ag[k]?=some x):(L.syncK k).ag[k]?=some x/\{ L.syncK k with ag:=(L.syncK k).ag.set k { x with safe:=x.now } }=L.syncK (k+1):=by
 obtain ⟨hk,hx⟩:=List.getElem?_eq_some_iff.1 h
 have e:(L.syncK k).ag=(L.ag.take k).map Sz++(x :: L.ag.drop (k+1)):=by
  show (L.ag.take k).map Sz++L.ag.drop k=_
  rw [List.drop_eq_getElem_cons hk,hx]
 have hlen:((L.ag.take k).map Sz).length=k:=by simp;omega
 refine ⟨?_,?_⟩
 ·rw [e,List.getElem?_append_right (by omega),hlen,Nat.sub_self]
  rfl
 ·rw [e,List.set_append_right _ _ (by omega),hlen,Nat.sub_self]
  unfold LedS.syncK
  rw [List.take_succ_eq_append_getElem hk,hx,List.map_append,List.append_assoc]
  rfl
end Go.Proofs.YtfdmbomlkpkegaaGreat
namespace Go.Proofs.YtfdmbomlkpkegaaGreat
end Go.Proofs.YtfdmbomlkpkegaaGreat
namespace Go.Proofs.YtfdmbomlkpkegaaGreat
open Go Go.RowKit
end Go.Proofs.YtfdmbomlkpkegaaGreat
namespace Go.Proofs.YtfdmbomlkpkegaaGreat
open Go Go.RowKit Go.Dr
end Go.Proofs.YtfdmbomlkpkegaaGreat
namespace Go.Proofs.YtfdmbomlkpkegaaGreat
open Go Go.RowKit
theorem step_recs (L:LedS) (r:LRec):L.recs <+: (L.step r).recs:=by
 cases r with
 | inc n=>exact List.prefix_refl _
 | floor a n=>exact List.prefix_refl _
 | put a b l=>exact List.prefix_append _ _
theorem told_append (width:Nat) (a b:List LRec):told width (a++b)=b.foldl LedS.step (told width a):=by simp [told]
theorem fold_recs:∀ (b:List LRec) (L:LedS),L.recs <+: (b.foldl LedS.step L).recs
 | [],_=>List.prefix_refl _
 | r :: b,L=>(step_recs L r).trans (fold_recs b (L.step r))
theorem Gp (width:Nat) (ts:List LRec) {k k':Nat} (hk:k<=k'):(told width (ts.take k)).recs <+: (told width (ts.take k')).recs:=by
 have e:ts.take k'=ts.take k++(ts.take k').drop k:=by
  have h:=(List.take_append_drop k (ts.take k')).symm
  rw [List.take_take,Nat.min_eq_left hk] at h
  exact h
 rw [e,told_append]
 exact fold_recs _ _
theorem Jc.take {width:Nat} {ts:List LRec} {L:LedS} (h:Jc width ts L) (k:Nat):Jc width (ts.take k) (told width (ts.take k)):=by
 refine ⟨rfl,rfl,rfl,fun i r hi=>?_⟩
 have hlt:=(List.getElem?_eq_some_iff.1 hi).1
 rw [List.length_take] at hlt
 rw [List.getElem?_take,if_pos (by omega)] at hi
 rw [List.take_take,Nat.min_eq_left (by omega)]
 exact h.can i r hi
theorem Gb {width:Nat} (hw:1<=width/\width<=1024):∀ {ts:List LRec},(∀ (k:Nat) r,ts[k]?=some r->(told width (ts.take k)).can r)->(told width ts).Ok width:=by
 intro ts
 induction hn:ts.length generalizing ts with
 | zero=>intro _;rw [List.eq_nil_of_length_eq_zero hn];exact LedS.Ok.start hw
 | succ n ih =>
  intro h
  rcases List.eq_nil_or_concat ts with rfl | ⟨ini,r,rfl⟩
  ·simp at hn
  ·rw [List.concat_eq_append] at h hn ⊢
   have hl:ini.length=n:=by simpa using hn
   have h1:=ih hl (fun k x hk=>by
    have hlt:=(List.getElem?_eq_some_iff.1 hk).1
    have:=h k x (by rw [List.getElem?_append_left hlt];exact hk)
    rwa [List.take_append_of_le_length (by omega)] at this)
   have h2:=h ini.length r (by simp)
   rw [List.take_append_of_le_length (Nat.le_refl _),List.take_length] at h2
   rw [Vv]
   exact h1.step h2
end Go.Proofs.YtfdmbomlkpkegaaGreat
