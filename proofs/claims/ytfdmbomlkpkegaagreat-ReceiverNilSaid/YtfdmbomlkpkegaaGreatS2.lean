/- Lemmas for ReceiverNil. -/
import Derived.Test.YtfdmbomlkpkegaaGreatS1
import Derived.Maps.OwnSet
import Derived.Lib.SlBytesConst
import Derived.Deep.QuietTactic
import Derived.BigQuiet
set_option maxRecDepth 100000
set_option maxHeartbeats 8000000
set_option linter.all false
namespace Go.Proofs.YtfdmbomlkpkegaaGreat
open Go Go.RowKit Go.Dr
structure Qf where
 seg:Int
 p:Qs
 drop:Bool
def Qf.done (c:Qf) (m:AMap):AMap:=if c.drop then mdel m c.seg else mset m c.seg ((mget m c.seg).getD []++c.p)
theorem done_spec [bn:Inhabited Ban] {base:Nat} {w:World} {r:Nat} {m:AMap} {u:Value} (c:Qf) (h:Xm base w r m) (hr:base<=r) (hu:Qv base w u c.p)
  (hb:((mget m c.seg).getD []).length+c.p.length<=17592186044416) :
  Calls Tryz.prog 53 #[.agg #[.int .u64 c.seg,u,.bool c.drop],.map (some r)] w fun e w'=>e=.returned (.tuple #[])/\Xm base w' r (c.done m)/\Keep (·=r) w w':=by
 obtain ⟨seg,p,drop⟩:=c
 simp only at hu hb ⊢
 obtain ⟨uo,uc,rfl⟩:=hu.form
 have hrl:=h.lt
 cases drop with
 | true =>
  have hk:Keep No w (w.alloc (.cells #[.int .u64 seg,.slice uo p.length uc,.bool true] 137)):=(Keep.refl _ _).alloc _
  have h1:=h.keep (Foot.no _ _) hk (fun h=>h)
  obtain ⟨w2,hrun,h2,hk2⟩:=run_del h1 hr seg
  go_enter Tryz.func53,Tryz.ntmps53
  go_wp2
  refine bodyPost_ret (results_none rfl _ _ _) rfl ?_
  exact ⟨rfl,by simpa [Qf.done] using h2,hk.no.trans hk2 (fun _ _ h=>h)⟩
 | false =>
  have hk:Keep No w (w.alloc (.cells #[.int .u64 seg,.slice uo p.length uc,.bool false] 137)):=(Keep.refl _ _).alloc _
  have h1:=h.keep (Foot.no _ _) hk (fun h=>h)
  have hu1:=hu.no hk
  have hbox:=Qy w (.cells #[.int .u64 seg,.slice uo p.length uc,.bool false] 137)
  obtain ⟨v0,hv0,hlook⟩:=run_lookup h1 seg
  obtain ⟨vo,vc,rfl⟩:=hv0.form
  obtain ⟨W,hW⟩:∃ W,W=w.alloc (.cells #[.int .u64 seg,.slice uo p.length uc,.bool false] 137):=⟨_,rfl⟩
  go_enter Tryz.func53,Tryz.ntmps53
  go_wp2
  rw [<- hW] at hk h1 hu1 hbox hv0 hlook ⊢
  have hWs:w.heap.size<W.heap.size:=by rw [hW];simp
  clear hW
  refine Ql (fun w'=>Keep No W w') [0,1,2,3,4,5,6,7,8] [9,10] [11] (by kernel_rfl) (by kernel_rfl) (fun _ _ _ _ _ h=>h) (Keep.refl _ _).drew ?_
  iterate 9 (refine Qk (v:=?_) rfl rfl rfl ?_ ?_;rotate_left;focus (
   intro w' hS
   have c0:=hS.cell (p:=⟨w.heap.size,0,none⟩) (Qq hbox 0) (fun h=>h)
   have c1:=hS.cell (p:=⟨w.heap.size,1,none⟩) (Qq hbox 1) (fun h=>h)
   have hl:=(hlook w' (hS.block r h1.lt (fun h=>h))).1
   go_simp
   try with_reducible rfl))
  refine Qj ?_
  have hk2:Keep No W (W.alloc (.cells #[.slice vo ((mget m seg).getD []).length vc,.slice uo p.length uc] 59)).drew:=((Keep.refl _ _).alloc _).drew
  have hsl:Zb base (W.alloc (.cells #[.slice vo ((mget m seg).getD []).length vc,.slice uo p.length uc] 59)).drew (.slice (some ⟨W.heap.size,0,none⟩) 2 2) [(mget m seg).getD [],p] :=
   Zb.of_block (cs:=#[.slice vo ((mget m seg).getD []).length vc,.slice uo p.length uc]) (Qy W _) [(mget m seg).getD [],p] rfl (by simp [maxLen]) (fun i u' l h1 h2=>by
    match i,h1,h2 with
    | 0,h1,h2=>simp at h1 h2;subst h1 h2;exact hv0.no ((Keep.refl _ _).alloc _)
    | 1,h1,h2=>simp at h1 h2;subst h1 h2;exact hu1.no ((Keep.refl _ _).alloc _))
  refine Qx rfl rfl (fun K hK=>?_)
  go_simp
  refine hK _ _ hk2 ?_
  clear hK K
  refine Qx rfl rfl (fun K hK=>?_)
  go_simp
  have hT1:[(mget m seg).getD [],p].flatten≠[]->ban.top<=(W.alloc (.cells #[.slice vo ((mget m seg).getD []).length vc,.slice uo p.length uc] 59)).drew.heap.size:=by
   intro hne
   have h1:ban.top<=W.heap.size:=by
    by_cases e1:(mget m seg).getD []=[]
    ·exact hu1.top (fun e2=>hne (by simp [e1,e2]))
    ·exact hv0.top e1
   exact Nat.le_trans h1 hk2.size
  refine (concat_spec hsl (by simp;omega)).mono ?_
  rintro e w3 ⟨v3,rfl,hown3,hk3⟩
  simp only []
  refine hK _ _ (hk2.then hk3) ?_
  clear hK K
  refine Qh (Qu rfl (Qm ?_))
  have hkk:=hk2.then hk3
  obtain ⟨w4,hrun,h4,hk4⟩:=run_store (h1.keep (Foot.no _ _) hkk (fun h=>h)) hr seg (hown3.bytes (base:=base) hT1)
  clear hlook hown3 hk3 hsl hbox hv0 hu1 h1
  go_wp2
  go_end0
  refine ⟨rfl,?_,(hk.then hkk).no.trans hk4 (fun _ _ h=>h)⟩
  simpa [Qf.done] using h4
structure Qr where
 room:Int
 full:Bool
 now:AMap
 safe:AMap
 wait:List Qf
def Zx:List Qf->List Value->List Value
 | c :: l,u :: us=>.int .u64 c.seg :: u :: .bool c.drop :: Zx l us
 | _,_=>[]
def Yj [bn:Inhabited Ban] (base:Nat) (w:World) (wv:Value) (l:List Qf):Prop :=
 ∃ us:List Value,us.length=l.length/\(∀ (i:Nat) u c,us[i]?=some u->l[i]?=some c->Qv base w u c.p)/\w.ownsRow base 137 3 wv l.length (Zx l us)
structure Qo [bn:Inhabited Ban] (base:Nat) (w:World) (p n s:Nat) (wv:Value) (d:Qr):Prop where
 blk:w.heap[p]?=some (.cells #[.int .i64 d.room,.bool d.full,.map (some n),.map (some s),wv] 135 (0,0))
 now:Xm base w n d.now
 safe:Xm base w s d.safe
 wait:Yj base w wv d.wait
 pb:base<=p
 nb:base<=n
 sb:base<=s
 ns:n≠s
def foot (p n s:Nat) (wv:Value):Nat->Prop:=fun b=>b=p\/b=n\/b=s\/wv.ownBlock=some b
theorem Yj.form [bn:Inhabited Ban] {base:Nat} {w:World} {wv:Value} {l:List Qf} (h:Yj base w wv l):∃ ao cap,wv=.slice ao l.length cap:=by
 obtain ⟨us,_,_,_,h⟩:=h
 rcases h with ⟨rfl,h⟩ | ⟨g,cap,cur,rfl,_⟩
 ·exact ⟨none,0,by rw [h]⟩
 ·exact ⟨_,_,rfl⟩
theorem Yj.nil [bn:Inhabited Ban] (base:Nat) (w:World):Yj base w (.slice none 0 0) []:=⟨[],rfl,fun i u c h=>by simp at h,World.ownsRow_nil _ _ _ _⟩
theorem Qo.foot_ok [bn:Inhabited Ban] {base:Nat} {w:World} {p n s:Nat} {wv:Value} {d:Qr} (h:Qo base w p n s wv d):Foot base w (foot p n s wv):=by
 rintro b (rfl | rfl | rfl | hb)
 ·exact ⟨h.pb,Qt h.blk,fun cs fr e=>by rw [h.blk] at e;simp at e⟩
 ·exact h.now.foot h.nb _ rfl
 ·exact h.safe.foot h.sb _ rfl
 ·obtain ⟨us,_,_,_,hw⟩:=h.wait
  rcases hw with ⟨rfl,_⟩ | ⟨g,cap,cur,rfl,h1,h2,_⟩
  ·simp [Value.ownBlock] at hb
  ·simp [Value.ownBlock] at hb
   subst hb
   exact ⟨h1,Qt h2,fun cs fr e=>by rw [h2] at e;simp at e⟩
theorem Yj.kind [bn:Inhabited Ban] {base:Nat} {w:World} {wv:Value} {l:List Qf} (h:Yj base w wv l):∀ b,wv.ownBlock=some b->base<=b/\∃ cur,w.heap[b]?=some (.cells cur 137 (0,0)):=by
 intro b hb
 obtain ⟨us,_,_,_,hw⟩:=h
 rcases hw with ⟨rfl,_⟩ | ⟨g,cap,cur,rfl,h1,h2,_⟩
 ·simp [Value.ownBlock] at hb
 ·simp [Value.ownBlock] at hb
  subst hb
  exact ⟨h1,cur,h2⟩
theorem Yj.foot [bn:Inhabited Ban] {base:Nat} {w:World} {wv:Value} {l:List Qf} (h:Yj base w wv l):Foot base w (fun b=>wv.ownBlock=some b):=by
 intro b hb
 obtain ⟨h1,cur,h2⟩:=h.kind b hb
 exact ⟨h1,Qt h2,fun cs fr e=>by rw [h2] at e;simp at e⟩
theorem Xm.kind [bn:Inhabited Ban] {base:Nat} {w:World} {r:Nat} {m:AMap} (h:Xm base w r m):∃ es clock,w.heap[r]?=some (.map es clock):=by obtain ⟨es,c,h,_⟩:=h;exact ⟨es,c,h⟩
theorem Yj.keep [bn:Inhabited Ban] {base:Nat} {w w':World} {wv:Value} {l:List Qf} {F:Nat->Prop} (h:Yj base w wv l) (hF:Foot base w F) (k:Keep F w w') (hn:∀ b,wv.ownBlock=some b->¬F b):Yj base w' wv l:=by
 obtain ⟨us,h1,h2,h3,h4⟩:=h
 refine ⟨us,h1,fun i u c hu hc=>(h2 i u c hu hc).keep hF k,h3,?_⟩
 rcases h4 with h4 | ⟨g,cap,cur,rfl,h5,h6,h7⟩
 ·exact .inl h4
 ·exact .inr ⟨g,cap,cur,rfl,h5,k.heap h6 (hn g rfl),h7⟩
theorem Qo.keep [bn:Inhabited Ban] {base:Nat} {w w':World} {p n s:Nat} {wv:Value} {d:Qr} {F:Nat->Prop} (h:Qo base w p n s wv d) (hF:Foot base w F) (k:Keep F w w') (hn:∀ b,foot p n s wv b->¬F b):Qo base w' p n s wv d :=
 ⟨k.heap h.blk (hn p (.inl rfl)),h.now.keep hF k (hn n (.inr (.inl rfl))),h.safe.keep hF k (hn s (.inr (.inr (.inl rfl)))),h.wait.keep hF k (fun b hb=>hn b (.inr (.inr (.inr hb)))),h.pb,h.nb,h.sb,h.ns⟩
theorem Qo.no [bn:Inhabited Ban] {base:Nat} {w w':World} {p n s:Nat} {wv:Value} {d:Qr} (h:Qo base w p n s wv d) (k:Keep No w w'):Qo base w' p n s wv d :=
 h.keep (Foot.no _ _) k (fun _ _ h=>h)
theorem Qo.foot_lt [bn:Inhabited Ban] {base:Nat} {w:World} {p n s:Nat} {wv:Value} {d:Qr} (h:Qo base w p n s wv d):∀ b,foot p n s wv b->b<w.heap.size:=fun b hb=>(h.foot_ok b hb).2.1
theorem used_spec [bn:Inhabited Ban] {base:Nat} {w:World} {p n s:Nat} {wv:Value} {d:Qr} (h:Qo base w p n s wv d) (hb:base<=w.heap.size) (hs:msum d.now<=35184372088832) :
  Calls Tryz.prog 45 #[.pointer (some ⟨p,0,none⟩)] w fun e w'=>e=.returned (.int .i64 (msum d.now:Nat))/\Keep No w w':=by
 obtain ⟨o,hrun,hI⟩:=run_range h.now
 have c2:=Qq h.blk 2
 have hk0:Keep No w (w.alloc o):=(Keep.refl _ _).alloc _
 have hkeys:=h.now.keys
 generalize hW:w.alloc o=W at hrun hI hk0
 clear hW
 simp at c2
 go_enter Tryz.func45,Tryz.ntmps45
 go_wp2
 clear hrun c2
 go_loopw [3] (fun t wr=>∃ left x,Hq base wr w.heap.size n d.now left/\Keys left/\x+msum left=msum d.now/\t=.int .i64 (x:Nat)/\Keep No w wr) (fun _ wr=>He wr w.heap.size)
 case atStart=>exact ⟨_,0,hI,hkeys,by omega,rfl,hk0⟩
 case round =>
  clear hI hk0 hkeys
  obtain ⟨left,x,hI,hkeys,hx,rfl,hkp⟩:=hrel
  have hnum:=hI.num
  rcases run_next hI hb 0 with ⟨rfl,hrun⟩ | ⟨kv,hkv,v,w1,hv,hrun,hent,hI',hk'⟩
  ·have HX:=Lib.hid hx
   clear hx hnum hI
   go_wp2
   go_ret
   have:=HX.out
   simp [msum] at this
   subst this
   exact ⟨rfl,hkp⟩
  ·obtain ⟨vo,vc,rfl⟩:=hv.form
   have hsum:=msum_filter hkeys hkv
   have hlen:=length_filter hkeys hkv
   have hnum':=hI'.num
   have hb1:(x:Int)+(kv.2.length:Int)<=35184372088832:=by omega
   have hb2:(0:Int)<=(x:Int)+(kv.2.length:Int):=by omega
   have HX:=Lib.hid (A5 hx hsum hlen hnum hnum')
   clear hx hsum hlen hnum hnum'
   go_wp2
   go_roundw
   case rel=>exact ⟨_,x+kv.2.length,hI',hkeys.filter _,by have:=HX.out;omega,by go_num,hkp.trans hk' (fun y hy e=>by have e:y=w.heap.size:=e;omega)⟩
   case measure=>have:=HX.out;omega
@[go_sem] theorem eql_nil_map (w:World) (r:Option Nat):(binOp .eql 131 (.map r) (.map none)).run Tryz.prog w=.ok (.bool r.isNone) w :=
 run_eql_map_nil w _ _ _ r Tryz.underlying131
theorem Ks [bn:Inhabited Ban] {base:Nat} {w:World} {r:Nat} {m:AMap} (h:Xm base w r m) :
  Calls Tryz.prog 52 #[.map (some r)] w fun e w'=>∃ r',e=.returned (.map (some r'))/\Xm base w' r' m/\r'=w.heap.size/\w'.heap.size=w.heap.size+1/\Keep No w w':=by
 obtain ⟨es,clock,hb,he⟩:=h
 have hx:(callFunc 100 #[.iface 131 (.map (some r))]).run Tryz.prog w=.ok (.value (.iface 131 (.map (some w.heap.size)))) (w.alloc (.map es clock)):=by
  rw [run_callFunc_extern Tryz.func100 (by kernel_rfl) (by kernel_rfl) (by kernel_rfl) (e:=Extern.MapsClone.clone) (by kernel_rfl),run_maps_clone_sl w _ hb]
  rfl
 have hy:=fun w=>run_typeAssert_map_sl (P:=Tryz.prog) w 131 20 _ _ (.map (some (w.heap.size - 1))) Tryz.underlying131
 have hk:Keep No w (w.alloc (.map es clock)):=(Keep.refl _ _).alloc _
 have hm:Xm base (w.alloc (.map es clock)) w.heap.size m:=⟨es,clock,Qy w _,he.keep (Foot.no _ _) hk⟩
 have hy:(Instr.typeAssert (.iface 131 (.map (some w.heap.size))) 20 131 false).run Tryz.prog (w.alloc (.map es clock))=.ok (.map (some w.heap.size)) (w.alloc (.map es clock)) :=
  run_typeAssert_map_sl _ _ _ _ _ _ Tryz.underlying131
 go_enter Tryz.func52,Tryz.ntmps52
 go_wp2
 go_ret
 exact ⟨_,rfl,hm,rfl,by simp,hk⟩
theorem new_world [bn:Inhabited Ban] (w:World) (base:Nat) (room:Int) (hb:base<=w.heap.size) :
  Qo base (((w.alloc (.map #[] 0)).alloc (.map #[] 0)).alloc (.cells #[.int .i64 room,.bool false,.map (some w.heap.size),.map (some (w.heap.size+1)),.slice none 0 0] 135))
   (w.heap.size+1+1) w.heap.size (w.heap.size+1) (.slice none 0 0) { room:=room,full:=false,now:=[],safe:=[],wait:=[] }:=by
 have h1:=Qy w (.map #[] 0)
 have h2:=Qy (w.alloc (.map #[] 0)) (.map #[] 0)
 have h3:=Qy ((w.alloc (.map #[] 0)).alloc (.map #[] 0)) (.cells #[.int .i64 room,.bool false,.map (some w.heap.size),.map (some (w.heap.size+1)),.slice none 0 0] 135)
 have k2:Keep No (w.alloc (.map #[] 0)) ((w.alloc (.map #[] 0)).alloc (.map #[] 0)):=(Keep.refl _ _).alloc _
 have k3:Keep No ((w.alloc (.map #[] 0)).alloc (.map #[] 0)) (((w.alloc (.map #[] 0)).alloc (.map #[] 0)).alloc (.cells #[.int .i64 room,.bool false,.map (some w.heap.size),.map (some (w.heap.size+1)),.slice none 0 0] 135)):=(Keep.refl _ _).alloc _
 have he:∀ w:World,Ents base w (#[]:Array MapEntry).toList 0 []:=fun w=>⟨rfl,fun p hp=>by simp at hp,by simp,by simp,by simp [Keys]⟩
 simp only [World.size_alloc] at h2 h3
 refine ⟨h3,⟨#[],0,?_,he _⟩,⟨#[],0,?_,he _⟩,Yj.nil _ _,by omega,by omega,by omega,by omega⟩
 ·exact k3.heap (k2.heap h1 (fun h=>h)) (fun h=>h)
 ·exact k3.heap h2 (fun h=>h)
def NewDisk [bn:Inhabited Ban] (base:Nat) (w:World) (d:Qr) (e:Ending) (w':World):Prop:=∃ p n s wv,e=.returned (.pointer (some ⟨p,0,none⟩)) /\
 Qo base w' p n s wv d/\Keep No w w'/\∀ b,foot p n s wv b->w.heap.size<=b
theorem Sl [bn:Inhabited Ban] {w:World} (base:Nat) (room:Int) (hb:base<=w.heap.size) :
  Calls Tryz.prog 48 #[.int .i64 room] w (NewDisk base w { room:=max room 0,full:=false,now:=[],safe:=[],wait:=[] }):=by
 have hmm:=@run_makeMap Tryz.prog
 have hf:∀ b,foot (w.heap.size+1+1) w.heap.size (w.heap.size+1) (.slice none 0 0) b->w.heap.size<=b:=by
  rintro b (rfl | rfl | rfl | hb)
  ·omega
  ·omega
  ·omega
  ·simp [Value.ownBlock] at hb
 obtain ⟨r,hr⟩:∃ r,r=max room 0:=⟨_,rfl⟩
 rw [<- hr]
 have hd:=new_world w base r hb
 by_cases h0:room<0
 ·obtain rfl:r=0:=by omega
  clear hr
  have HD:=Lib.hid hd
  clear hd
  go_enter Tryz.func48,Tryz.ntmps48
  go_wp2
  go_ret
  exact ⟨_,_,_,_,rfl,HD.out,(((Keep.refl _ _).alloc _).alloc _).alloc _,hf⟩
 ·obtain rfl:r=room:=by omega
  clear hr
  have HD:=Lib.hid hd
  clear hd
  go_enter Tryz.func48,Tryz.ntmps48
  go_wp2
  go_ret
  exact ⟨_,_,_,_,rfl,HD.out,(((Keep.refl _ _).alloc _).alloc _).alloc _,hf⟩
theorem callCells_append (c:Qf) (u:Value):∀ (l:List Qf) (us:List Value),us.length=l.length->Zx (l++[c]) (us++[u])=Zx l us++[.int .u64 c.seg,u,.bool c.drop]:=by
 intro l
 induction l with
 | nil=>intro us h;obtain rfl:=List.eq_nil_of_length_eq_zero h;rfl
 | cons x l ih =>
  intro us h
  cases us with
  | nil=>simp at h
  | cons v us=>simp only [List.cons_append,Zx,ih us (by simpa using h)]
theorem info_call:(Tryz.prog.info? 137).map (fun i=>(i.zero,i.size,i.bytes))=some (some (.agg #[.int .u64 0,.slice none 0 0,.bool false]),3,40):=by kernel_rfl
theorem do_spec [bn:Inhabited Ban] {base:Nat} {w:World} {p n s:Nat} {wv:Value} {d:Qr} (h:Qo base w p n s wv d) (hb:base<=w.heap.size) (c:Qf) {u:Value} (hu:Qv base w u c.p)
  (hm:((mget d.now c.seg).getD []).length+c.p.length<=17592186044416) (hw:d.wait.length<=1000000) :
  Calls Tryz.prog 201 #[.pointer (some ⟨p,0,none⟩),.agg #[.int .u64 c.seg,u,.bool c.drop]] w fun e w'=>e=.returned (.tuple #[]) /\
   ∃ wv',Qo base w' p n s wv' { d with now:=c.done d.now,wait:=d.wait++[c] }/\Keep (foot p n s wv) w w'/\∀ b,wv'.ownBlock=some b->wv.ownBlock=some b\/w.heap.size<=b:=by
 obtain ⟨uo,uc,rfl⟩:=hu.form
 obtain ⟨wo,wc,rfl⟩:=h.wait.form
 have hk0:Keep No w (w.alloc (.cells #[.int .u64 c.seg,.slice uo c.p.length uc,.bool c.drop] 137)):=(Keep.refl _ _).alloc _
 have hbox:=Qy w (.cells #[.int .u64 c.seg,.slice uo c.p.length uc,.bool c.drop] 137)
 have h1:=h.no hk0
 have hu1:=hu.no hk0
 obtain ⟨W,hW⟩:∃ W,W=w.alloc (.cells #[.int .u64 c.seg,.slice uo c.p.length uc,.bool c.drop] 137):=⟨_,rfl⟩
 go_enter Tryz.func201,Tryz.ntmps201
 go_wp2
 rw [<- hW] at hk0 hbox h1 hu1 ⊢
 clear hW
 have hp:w.heap.size≠p:=fun e=>by have:=h.foot_lt p (.inl rfl);omega
 have hpn:n≠p:=fun e=>by have:=h.blk;subst e;obtain ⟨_,_,hb,_⟩:=h.now;rw [this] at hb;cases hb
 refine Ql (fun w'=>w'=W.drew) [0,1,2,3,4] [] [5] (by kernel_rfl) (by kernel_rfl) (fun _ _ _ _ _ h=>h) rfl ?_
 have c0:=Qq hbox 0
 have c1:=Qq hbox 1
 have c2:=Qq hbox 2
 have d2:=Qq h1.blk 2
 simp at c0 c1 c2 d2
 iterate 5 (refine Qk (v:=?_) rfl rfl rfl ?_ ?_;rotate_left;focus (
  rintro w' rfl
  go_simp
  try with_reducible rfl))
 refine Qj (Qh (Qu rfl (Qm ?_)))
 clear c0 c1 c2 d2
 have hdr:Keep No W W.drew:=(Keep.refl _ _).drew
 have h2:=h1.no hdr
 have hu2:=hu1.no hdr
 have hbox2:=hdr.heap hbox (fun h=>h)
 have hks:=hk0.then hdr
 clear h1 hu1 hbox hdr hk0
 obtain ⟨W2,hW2⟩:∃ W2,W2=W.drew:=⟨_,rfl⟩
 rw [<- hW2] at h2 hu2 hbox2 hks ⊢
 clear hW2
 go_wp2_with (go_at_call 53;refine (done_spec c h2.now h.nb hu2 hm).mono ?_;rintro e w2 ⟨rfl,hm2,hk2⟩)
 have hfn:Foot base W2 (·=n):=h2.now.foot h.nb
 have hp2:=hk2.heap h2.blk (fun e=>hpn e.symm)
 have hbox3:=hk2.heap hbox2 (fun e=>by have:=h.now.lt;omega)
 have hu3:=hu2.keep hfn hk2
 have hs3:=h2.safe.keep hfn hk2 (fun e=>h.ns e.symm)
 have hw3:=h2.wait.keep hfn hk2 (fun b hb e=>by
  obtain ⟨us,_,_,_,hq⟩:=h2.wait
  obtain ⟨_,_,hmm,_⟩:=h2.now
  rcases hq with ⟨hq,_⟩ | ⟨g,cap,cur,hq,_,hq2,_⟩
  ·rw [hq] at hb;simp [Value.ownBlock] at hb
  ·rw [hq] at hb;simp [Value.ownBlock] at hb;subst hb;rw [<- e,hq2] at hmm;cases hmm)
 have hkp2:Keep (foot p n s (.slice wo d.wait.length wc)) w w2:=hks.no.trans hk2 (fun _ _ e=>.inr (.inl e))
 clear hfn h2 hu2 hbox2 hks hk2
 have c0:=Qq hbox3 0
 have c1:=Qq hbox3 1
 have c2:=Qq hbox3 2
 have d4:=Qq hp2 4
 simp at c0 c1 c2 d4
 have hkind:=hw3.kind
 have hfo:=hw3.foot
 obtain ⟨us,hus,hub,hown⟩:=hw3
 have hnot:∀ b,(Value.slice wo d.wait.length wc).ownBlock=some b->b≠p/\b≠w.heap.size/\b≠n/\b≠s:=fun b hb=>by
  obtain ⟨_,cur,hq⟩:=hkind b hb
  refine ⟨fun e=>?_,fun e=>?_,fun e=>?_,fun e=>?_⟩
  ·rw [e,hp2] at hq;simp at hq
  ·have:=h.foot_lt b (.inr (.inr (.inr hb)));omega
  ·obtain ⟨_,_,hz⟩:=hm2.kind;rw [e,hz] at hq;cases hq
  ·obtain ⟨_,_,hz⟩:=hs3.kind;rw [e,hz] at hq;cases hq
 refine Ql (fun w'=>Keep (fun b=>(Value.slice wo d.wait.length wc).ownBlock=some b) w2 w') [0,1,2,3,4,5] [6,7] [8,9,10] (by kernel_rfl) (by kernel_rfl) (fun _ _ _ _ _ h=>h) (Keep.refl _ _).drew ?_
 iterate 6 (refine Qk (v:=?_) rfl rfl rfl ?_ ?_;rotate_left;focus (
  intro w' hS
  have c0':=hS.cell c0 (fun e=>(hnot _ e).2.1 rfl)
  have c1':=hS.cell c1 (fun e=>(hnot _ e).2.1 rfl)
  have c2':=hS.cell c2 (fun e=>(hnot _ e).2.1 rfl)
  have d4':=hS.cell d4 (fun e=>(hnot _ e).1 rfl)
  go_simp
  try with_reducible rfl))
 refine Qj ?_
 have hk3:Keep No w2 (w2.alloc (.cells #[.int .u64 c.seg,.slice uo c.p.length uc,.bool c.drop] 137)).drew:=((Keep.refl _ _).alloc _).drew
 refine Qx rfl rfl (fun K hK=>?_)
 go_simp
 refine hK _ _ hk3.no ?_
 clear hK K
 refine Qx rfl rfl (fun K hK=>?_)
 obtain ⟨i0,hi0,hz0,hz1,hz2⟩:=info_parts info_call
 refine wp_append_lies _ _ _ _ rfl base 137 i0 _ 3 40 Tryz.underlying133 hi0 hz0 hz1 hz2 rfl (by omega) _ d.wait.length (Zx d.wait us) rfl ((hown.alloc _).drew)
  ⟨w2.heap.size,0,none⟩ 1 1 [.int .u64 c.seg,.slice uo c.p.length uc,.bool c.drop] rfl rfl (World.news_of_block (cs:=#[.int .u64 c.seg,.slice uo c.p.length uc,.bool c.drop]) (t:=137) (fr:=(0,0)) (heap_alloc_new w2 _)) (by simp [Value.oneCell'])
  (by omega) (by unfold maxLen;omega) (by omega) (by simp;have:=hkp2.size;omega) (w2.heap.size+1) (by simp) ?_
 intro g cap w3 hown3 hgrow hat hlt
 have hkS:Keep (fun b=>(Value.slice wo d.wait.length wc).ownBlock=some b) w2 w3:=hk3.no.grown hgrow (fun k hk=>.inl hk)
 refine hK _ _ hkS ?_
 clear hK K
 refine Qh (Qu rfl (Qu rfl (Qu rfl (Qm ?_))))
 have hp3:=hkS.heap hp2 (fun e=>(hnot _ e).1 rfl)
 have d4':=Qq hp3 4
 have f4':=Qg hp3 4
 simp at d4'
 have hu4:=hu3.keep hfo hkS
 have hm4:=hm2.keep hfo hkS (fun e=>(hnot _ e).2.2.1 rfl)
 have hs4:=hs3.keep hfo hkS (fun e=>(hnot _ e).2.2.2 rfl)
 have hub4:∀ (i:Nat) u c,us[i]?=some u->d.wait[i]?=some c->Qv base w3 u c.p:=fun i u c h1 h2=>(hub i u c h1 h2).keep hfo hkS
 rw [<- callCells_append c _ _ _ hus] at hown3
 have hgne:g≠p/\g≠n/\g≠s:=by
  rcases hown3.2 with ⟨hq,_⟩ | ⟨g',cap',cur',hq,_,hq2,_⟩
  ·cases hq
  ·simp at hq
   obtain ⟨rfl,_⟩:=hq
   refine ⟨fun e=>?_,fun e=>?_,fun e=>?_⟩
   ·rw [e,hp3] at hq2;simp at hq2
   ·obtain ⟨_,_,hz⟩:=hm4.kind;rw [e,hz] at hq2;cases hq2
   ·obtain ⟨_,_,hz⟩:=hs4.kind;rw [e,hz] at hq2;cases hq2
 have hkp3:Keep (foot p n s (.slice wo d.wait.length wc)) w w3:=hkp2.trans hkS (fun _ _ e=>.inr (.inr (.inr e)))
 have hsz:=hkp2.size
 clear hown hub hu3 hm2 hs3 hkS hgrow hk3 hkp2 c0 c1 c2 d4 hbox3 hp2 hfo hkind hnot
 go_wp2
 go_end0
 refine ⟨rfl,.slice (some ⟨g,0,none⟩) (d.wait.length+1) cap,?_,hkp3.setCell (.inl (.inl rfl)) _,fun b hb=>?_⟩
 ·have hF:Foot base w3 (·=p):=by
   rintro b rfl
   exact ⟨h.pb,Qt hp3,fun cs fr e=>by rw [hp3] at e;simp at e⟩
  have hk:Keep (·=p) w3 (w3.setCell ⟨p,4,none⟩ (.slice (some ⟨g,0,none⟩) (d.wait.length+1) cap)):=Keep.setCell (F:=(·=p)) (Keep.refl _ _) (p:=⟨p,4,none⟩) (.inl rfl) _
  refine ⟨?_,hm4.keep hF hk hpn,hs4.keep hF hk (fun e=>?_),?_,h.pb,h.nb,h.sb,h.ns⟩
  ·have:=Qz (i:=4) (u:=.slice (some ⟨g,0,none⟩) (d.wait.length+1) cap) hp3
   simpa using this
  ·obtain ⟨_,_,hz⟩:=hs4.kind;rw [e,hp3] at hz;cases hz
  ·refine Yj.keep ⟨us++[.slice uo c.p.length uc],by simp [hus],?_,by simpa using hown3⟩ hF hk (fun b hb e=>?_)
   ·intro i u c' h1 h2
    by_cases hi:i<us.length
    ·rw [List.getElem?_append_left hi] at h1
     rw [List.getElem?_append_left (by simpa [<- hus] using hi)] at h2
     exact hub4 i u c' h1 h2
    ·rw [List.getElem?_append_right (by omega)] at h1
     rw [List.getElem?_append_right (by omega)] at h2
     rw [hus] at h1
     cases hj:i-d.wait.length with
     | zero=>simp [hj] at h1 h2;subst h1 h2;exact hu4
     | succ j=>simp [hj] at h1
   ·simp [Value.ownBlock] at hb;exact hgne.1 (hb.trans e)
 ·simp [Value.ownBlock] at hb
  subst hb
  rcases hat with hat | hat
  ·exact .inl hat
  ·right;omega
theorem Hb (m:AMap) (k:Int):((mget m k).getD []).length<=msum m:=by
 induction m with
 | nil=>simp [mget,msum]
 | cons e m ih =>
  simp only [mget,List.find?_cons] at ih ⊢
  cases h:(e.1==k) with
  | true=>simp [msum]
  | false=>simp only [msum];exact Nat.le_trans ih (by omega)
def Qr.put (d:Qr) (c:Qf):Qr:={ d with now:=c.done d.now,wait:=d.wait++[c] }
def Qr.append (d:Qr) (seg:Int) (l:Qs):Qr × Int :=
 if d.full then (d,5) else if d.room - (msum d.now:Int)<(l.length:Int) then (d,5) else (d.put ⟨seg,l,false⟩,0)
def Vh [bn:Inhabited Ban] (base:Nat) (w:World) (p:Nat) (F:Nat->Prop) (d':Qr) (v:Value) (e:Ending) (w':World):Prop :=
 e=.returned v/\∃ n s wv,Qo base w' p n s wv d'/\Keep F w w'/\∀ b,foot p n s wv b->F b\/w.heap.size<=b
theorem Vh.of_no [bn:Inhabited Ban] {base:Nat} {w w':World} {p n s:Nat} {wv:Value} {d:Qr} (h:Qo base w p n s wv d) (k:Keep No w w') (v:Value):Vh base w p (foot p n s wv) d v (.returned v) w' :=
 ⟨rfl,n,s,wv,h.no k,k.no,fun _ h=>.inl h⟩
structure Ur (d:Qr):Prop where
 room0:0<=d.room
 room1:d.room<=1099511627776
 used:msum d.now<=1099511627776
 wait:d.wait.length<=1000000
theorem append_gen {bm:Inhabited Ban} [bn:Inhabited Ban] {base:Nat} {w:World} {p n s:Nat} {wv:Value} {d:Qr} (h:Qo base w p n s wv d) (hb:base<=w.heap.size) (hsm:Ur d) (seg:Int) {u:Value} {l:Qs} (hu:Qv (bn:=bm) base w u l)
  (hl:l.length<=1099511627776) (hT:l≠[]->ban (bn:=bn).top<=w.heap.size) :
  Calls Tryz.prog 167 #[.pointer (some ⟨p,0,none⟩),.int .u64 seg,u] w (Vh base w p (foot p n s wv) (d.append seg l).1 (.int .i64 (d.append seg l).2)):=by
 obtain ⟨uo,uc,rfl⟩:=Qv.form (bn:=bm) hu
 obtain ⟨room0,room1,used,hwait⟩:=hsm
 have d0:=Qq h.blk 0
 have d1:=Qq h.blk 1
 simp at d0 d1
 have hmg:=Hb d.now seg
 by_cases hf:d.full=true
 ·have e1:(d.append seg l)=(d,5):=by simp [Qr.append,hf]
  rw [e1]
  rw [hf] at d1
  clear e1 hf
  have HP:=Lib.hid (Vh.of_no h (Keep.refl _ _) (.int .i64 5))
  clear h hu
  go_enter Tryz.func167,Tryz.ntmps167
  go_wp2
  go_ret
  exact HP.out
 ·have hf':d.full=false:=by simpa using hf
  rw [hf'] at d1
  have hd0:(0:Int)<=(msum d.now:Int):=by omega
  have hd1:(msum d.now:Int)<=1099511627776:=by omega
  by_cases hlt:d.room - (msum d.now:Int)<(l.length:Int)
  ·have e1:(d.append seg l)=(d,5):=by simp [Qr.append,hf',hlt]
   rw [e1]
   clear e1 hf hf'
   go_enter Tryz.func167,Tryz.ntmps167
   go_wp2
   refine Ql (fun w'=>Keep No w w') [0,1,2,3,4,5,6] [7,8] [9,10] (by kernel_rfl) (by kernel_rfl) (fun _ _ _ _ _ h=>h) (Keep.refl _ _).drew ?_
   iterate 7 (refine Qk (v:=?_) rfl rfl rfl ?_ ?_;rotate_left;focus (
    intro w' hS
    have d0':=hS.cell d0 (fun e=>e)
    go_simp
    try with_reducible rfl))
   refine Qj (Qx rfl rfl (fun K hK=>?_))
   go_simp
   have hk0:Keep No w w.drew:=(Keep.refl _ _).drew
   refine (used_spec (h.no hk0) hb (by omega)).mono ?_
   rintro e w1 ⟨rfl,hk1⟩
   have hk2:=hk0.then hk1
   refine hK _ _ hk2 ?_
   clear hK K
   refine Qx rfl rfl (fun K hK=>?_)
   go_simp
   refine hK _ _ hk2 ?_
   clear hK K
   refine Qh (Qu rfl (Qu rfl (Qm ?_)))
   have HP:=Lib.hid (Vh.of_no h hk2 (.int .i64 5))
   clear h hu d0 d1 hk0 hk1 hk2 hmg
   go_wp2
   go_ret
   exact HP.out
  ·have e1:(d.append seg l)=(d.put ⟨seg,l,false⟩,0):=by simp [Qr.append,hf',hlt]
   rw [e1]
   clear e1 hf hf'
   go_enter Tryz.func167,Tryz.ntmps167
   go_wp2
   refine Ql (fun w'=>Keep No w w') [0,1,2,3,4,5,6] [7,8] [9,10] (by kernel_rfl) (by kernel_rfl) (fun _ _ _ _ _ h=>h) (Keep.refl _ _).drew ?_
   iterate 7 (refine Qk (v:=?_) rfl rfl rfl ?_ ?_;rotate_left;focus (
    intro w' hS
    have d0':=hS.cell d0 (fun e=>e)
    go_simp
    try with_reducible rfl))
   refine Qj (Qx rfl rfl (fun K hK=>?_))
   go_simp
   have hk0:Keep No w w.drew:=(Keep.refl _ _).drew
   refine (used_spec (h.no hk0) hb (by omega)).mono ?_
   rintro e w1 ⟨rfl,hk1⟩
   have hk2:=hk0.then hk1
   refine hK _ _ hk2 ?_
   clear hK K
   refine Qx rfl rfl (fun K hK=>?_)
   go_simp
   refine hK _ _ hk2 ?_
   clear hK K
   refine Qh (Qu rfl (Qu rfl (Qm ?_)))
   have h1:=h.no hk2
   have hu1:=Qv.no (bn:=bm) hu hk2
   have hT1:l≠[]->ban (bn:=bn).top<=w1.heap.size:=fun hne=>Nat.le_trans (hT hne) hk2.size
   have hb1:base<=w1.heap.size:=Nat.le_trans hb hk2.size
   have hfl:=h.foot_lt
   clear h hu d0 d1 hk0 hk1
   go_wp2_with (first
    | (go_at_call 99;refine (Ju (bn:=bm) hu1 (by omega)).mono ?_;rintro e w2 ⟨v2,rfl,hu2,hk3⟩;obtain ⟨vo,vc,rfl⟩:=hu2.form;have hdo:=Lib.hid (do_spec (h1.no hk3) (Nat.le_trans hb1 hk3.size) ⟨seg,l,false⟩ (OwnB.bytes (bn:=bn) hu2 hT1) (show ((mget d.now seg).getD []).length+l.length<=17592186044416 from by omega) hwait))
    | (go_at_call 201;refine hdo.out.mono ?_;rintro e w3 ⟨rfl,wv',hd,hk4,hwv⟩))
   go_ret
   have hk5:=hk2.then hk3
   refine ⟨rfl,n,s,wv',hd,hk5.no.trans hk4 (fun _ _ h=>h),fun b hb=>?_⟩
   rcases hb with hb | hb | hb | hb
   ·exact .inl (.inl hb)
   ·exact .inl (.inr (.inl hb))
   ·exact .inl (.inr (.inr (.inl hb)))
   ·rcases hwv b hb with hb | hb
    ·exact .inl (.inr (.inr (.inr hb)))
    ·right;have:=hk5.size;omega
theorem append_spec [bn:Inhabited Ban] {base:Nat} {w:World} {p n s:Nat} {wv:Value} {d:Qr} (h:Qo base w p n s wv d) (hb:base<=w.heap.size) (hsm:Ur d) (seg:Int) {u:Value} {l:Qs} (hu:Qv base w u l)
  (hl:l.length<=1099511627776) :
  Calls Tryz.prog 167 #[.pointer (some ⟨p,0,none⟩),.int .u64 seg,u] w (Vh base w p (foot p n s wv) (d.append seg l).1 (.int .i64 (d.append seg l).2)) :=
 append_gen h hb hsm seg hu hl hu.top
theorem run_conv [bn:Inhabited Ban] {base:Nat} {w:World} {v:Value} {l:Qs} (h:Qv base w v l):(convert 59 9 v).run Tryz.prog w=.ok (.string ⟨l.toArray⟩) w:=by
 obtain ⟨ao,cap,rfl,h1,h2,h3,h4⟩:=h
 cases ao with
 | none =>
  obtain rfl:=h3 rfl
  obtain rfl:l=[]:=List.eq_nil_of_length_eq_zero (by omega)
  rw [run_convert_bytes_string w _ _ _ none _ _ Tryz.underlying59 Tryz.underlying5 Tryz.underlying9]
  rfl
 | some ad =>
  refine run_convert_bytes_back w _ _ _ ad cap l Tryz.underlying59 Tryz.underlying5 Tryz.underlying9 (fun j hj=>?_)
  obtain ⟨ad',e,_,hc⟩:=h4 j l[j] (List.getElem?_eq_getElem hj)
  cases e
  exact hc
theorem bequal_spec [bn:Inhabited Ban] {base:Nat} {w:World} {u v:Value} {l m:Qs} (hu:Qv base w u l) (hv:Qv base w v m) :
  Calls Tryz.prog 113 #[u,v] w fun e w'=>e=.returned (.bool (l==m))/\w=w':=by
 have h1:=run_conv hu
 have h2:=run_conv hv
 have e:∀ l:Qs,ByteArray.toList ⟨l.toArray⟩=l:=fun l=>ByteArray.toList_eq _
 have HE:=Lib.hid e
 generalize h3:(⟨l.toArray⟩:ByteArray)=s1 at h1
 generalize h4:(⟨m.toArray⟩:ByteArray)=s2 at h2
 have H34:=Lib.hid (A2 h3 h4)
 clear e hu hv h3 h4
 go_enter Tryz.func113,Tryz.ntmps113
 go_wp2
 go_ret
 refine ⟨?_,rfl⟩
 rw [<- HE.out l,<- HE.out m,H34.out.1,H34.out.2]
 rfl
def Qr.sync (d:Qr):Qr:={ d with safe:=d.now,wait:=[] }
theorem sync_spec [bn:Inhabited Ban] {base:Nat} {w:World} {p n s:Nat} {wv:Value} {d:Qr} (h:Qo base w p n s wv d) (hb:base<=w.heap.size) :
  Calls Tryz.prog 114 #[.pointer (some ⟨p,0,none⟩)] w (Vh base w p (foot p n s wv) d.sync (.int .i64 0)):=by
 have c2:=Qq h.blk 2
 simp at c2
 go_enter Tryz.func114,Tryz.ntmps114
 go_wp2_with fail
 refine (Ks h.now).mono ?_
 rintro e w1 ⟨r,rfl,hm,hr,hsz,hk⟩
 have h1:=h.no hk
 have hpr:p≠r:=fun e=>by have:=h.foot_lt p (.inl rfl);omega
 have hnr:n≠r:=fun e=>by have:=h.foot_lt n (.inr (.inl rfl));omega
 have c3:=Qq h1.blk 3
 have c4:=Qq h1.blk 4
 have f3:=Qg h1.blk 3
 have f4:=Qg h1.blk 4
 simp at c3 c4
 have hblk:=h1.blk
 have hF:Foot base w1 (·=p):=by
  rintro b rfl
  exact ⟨h.pb,Qt hblk,fun cs fr e=>by rw [hblk] at e;simp at e⟩
 have hK:Keep (·=p) w1 ((w1.setCell ⟨p,3,none⟩ (.map (some r))).setCell ⟨p,4,none⟩ (.slice none 0 0)) :=
  Keep.setCell (F:=(·=p)) (Keep.setCell (F:=(·=p)) (Keep.refl _ _) (p:=⟨p,3,none⟩) (.inl rfl) _) (p:=⟨p,4,none⟩) (.inl rfl) _
 have hb2:=Qz (i:=4) (u:=.slice none 0 0) (Qz (i:=3) (u:=.map (some r)) hblk)
 have hn2:=h1.now.keep hF hK (fun e=>by obtain ⟨_,_,hz⟩:=h1.now.kind;rw [e,hblk] at hz;cases hz)
 have hs2:=hm.keep hF hK (fun e=>hpr e.symm)
 have HP:Hid (Vh base w p (foot p n s wv) d.sync (.int .i64 0) (.returned (.int .i64 0)) ((w1.setCell ⟨p,3,none⟩ (.map (some r))).setCell ⟨p,4,none⟩ (.slice none 0 0))):=by
  refine ⟨rfl,n,r,.slice none 0 0,⟨by simpa [Qr.sync] using hb2,hn2,hs2,Yj.nil _ _,h.pb,h.nb,by omega,hnr⟩,hk.no.trans hK (fun _ _ e=>.inl e),?_⟩
  rintro b (rfl | rfl | rfl | hq)
  ·exact .inl (.inl rfl)
  ·exact .inl (.inr (.inl rfl))
  ·right;omega
  ·simp [Value.ownBlock] at hq
 clear h h1 hm hblk hF hK hb2 hn2 hs2 hk hr hsz hpr hnr
 go_wp2
 go_ret
 exact HP.out
def ReadPost [bn:Inhabited Ban] (base:Nat) (w:World) (l:Qs) (c:Int) (e:Ending) (w':World):Prop:=∃ v,e=.returned (.tuple #[v,.int .i64 c])/\Qv base w' v l/\OwnB w' w.heap.size v l/\Keep No w w'
def Qr.read (d:Qr) (seg:Int):Qs × Int:=match mget d.now seg with | some l=>(l,0) | none=>([],4)
theorem read_spec [bn:Inhabited Ban] {base:Nat} {w:World} {p n s:Nat} {wv:Value} {d:Qr} (h:Qo base w p n s wv d) (hu:msum d.now<=1099511627776) (seg:Int) :
  Calls Tryz.prog 81 #[.pointer (some ⟨p,0,none⟩),.int .u64 seg] w (ReadPost base w (d.read seg).1 (d.read seg).2):=by
 have d2:=Qq h.blk 2
 simp at d2
 have hmg:=Hb d.now seg
 obtain ⟨v,hv,hlook⟩:=run_lookup h.now seg
 have hl:=(hlook w rfl).2
 clear hlook
 cases hs:mget d.now seg with
 | none =>
  rw [hs] at hl hv
  have e1:d.read seg=([],4):=by simp [Qr.read,hs]
  rw [e1]
  have HP:Hid (ReadPost base w [] 4 (.returned (.tuple #[.slice none 0 0,.int .i64 4])) w):=⟨_,rfl,Qv.nil _ _,OwnB.nil _ _,Keep.refl _ _⟩
  clear e1 hs h hv
  go_enter Tryz.func81,Tryz.ntmps81
  go_wp2
  go_ret2
  exact HP.out
 | some l =>
  rw [hs] at hl hv hmg
  have e1:d.read seg=(l,0):=by simp [Qr.read,hs]
  rw [e1]
  have hv':Qv base w v l:=hv
  have hlen:l.length<=35184372088832:=by simp at hmg;omega
  clear e1 hs h hv hmg
  go_enter Tryz.func81,Tryz.ntmps81
  go_wp2_with (go_at_call 99;refine (Ju hv' hlen).mono ?_;rintro e w2 ⟨v2,rfl,hu2,hk3⟩)
  go_ret2
  exact ⟨_,rfl,hu2.bytes hv'.top,hu2,hk3⟩
def wsum:List Qf->Nat
 | []=>0
 | c :: l=>c.p.length+wsum l
theorem Jj {l:List Qf} {k:Nat} {c:Qf} (h:l[k]?=some c):wsum (l.take (k+1))=wsum (l.take k)+c.p.length:=by
 induction l generalizing k with
 | nil=>simp at h
 | cons x l ih =>
  cases k with
  | zero=>simp at h;subst h;simp [wsum]
  | succ k=>simp [wsum,ih (by simpa using h)];omega
theorem Xe (l:List Qf) (k:Nat):wsum (l.take k)<=wsum l:=by
 induction l generalizing k with
 | nil=>simp [wsum]
 | cons x l ih =>
  cases k with
  | zero=>simp [wsum]
  | succ k=>simp [wsum];exact ih k
theorem callCells_at:∀ {l:List Qf} {us:List Value},us.length=l.length->∀ {i:Nat} {c:Qf} {u:Value},l[i]?=some c->us[i]?=some u ->
  (Zx l us)[i*3]?=some (.int .u64 c.seg)/\(Zx l us)[i*3+1]?=some u/\(Zx l us)[i*3+2]?=some (.bool c.drop):=by
 intro l
 induction l with
 | nil=>intro us _ i c u h;simp at h
 | cons x l ih =>
  intro us hl i c u h1 h2
  cases us with
  | nil=>simp at hl
  | cons v us =>
   cases i with
   | zero=>simp at h1 h2;subst h1 h2;simp [Zx]
   | succ i =>
    have e:(i+1)*3=i*3+1+1+1:=by omega
    have:=ih (us:=us) (by simpa using hl) (i:=i) (c:=c) (u:=u) (by simpa using h1) (by simpa using h2)
    simp only [Zx,e]
    refine ⟨?_,?_,?_⟩
    ·simpa using this.1
    ·simpa [Nat.add_assoc] using this.2.1
    ·simpa [Nat.add_assoc] using this.2.2
theorem Keep.absorb {F:Nat->Prop} {a b c:World} (h:Keep No a b) (k:Keep F b c) (hF:∀ x,F x->a.heap.size<=x):Keep No a c :=
 h.trans k (fun x hx hf=>by have:=hF x hf;omega)
theorem Qv.of_block [bn:Inhabited Ban] {base:Nat} {w:World} {g:Nat} {fr:Nat × Nat} (l:Qs) (h:w.heap[g]?=some (.cells (l.map u8v).toArray 5 fr)) (hl:l.length<=maxLen) (hT:ban.top<=g) :
  Qv base w (.slice (some ⟨g,0,none⟩) l.length l.length) l:=by
 refine ⟨_,_,rfl,Nat.le_refl _,hl,fun h=>(by cases h),fun i x hx=>⟨_,rfl,⟨Qt h,.inr ⟨_,_,h⟩,fun hz=>?_,?_⟩,?_⟩⟩
 ·have h5:g<ban.top:=ban.lt _ hz
  omega
 ·have:=Qt h
  omega
 rw [Addr.add_lit,Qq h]
 simp [hx]
@[go_sem] theorem eql_nil_calls (w:World) (a:Option Addr) (n c:Nat):(binOp .eql 133 (.slice a n c) (.slice none 0 0)).run Tryz.prog w=.ok (.bool a.isNone) w :=
 Lib.run_eql_slice_nil w _ _ a n c 0 0 Tryz.underlying133
theorem callCells_length:∀ {l:List Qf} {us:List Value},us.length=l.length->(Zx l us).length=l.length*3:=by
 intro l
 induction l with
 | nil=>intro us _;simp [Zx]
 | cons c l ih =>
  intro us h
  cases us with
  | nil=>simp at h
  | cons u us=>simp only [Zx,List.length_cons,ih (us:=us) (by simpa using h)];omega
theorem callCells_one:∀ {l:List Qf} {us:List Value},(∀ u∈us,u.oneCell'=true)->∀ x∈Zx l us,x.oneCell'=true:=by
 intro l
 induction l with
 | nil=>intro us _ x h;simp [Zx] at h
 | cons c l ih =>
  intro us h x hx
  cases us with
  | nil=>simp [Zx] at hx
  | cons u us =>
   simp only [Zx,List.mem_cons] at hx
   rcases hx with rfl | rfl | rfl | hx
   ·rfl
   ·exact h _ (by simp)
   ·rfl
   ·exact ih (fun u hu=>h u (by simp [hu])) x hx
def Vz (w:World) (base:Nat) (e:TypeId) (v:Value) (n:Nat) (xs:List Value):Prop :=
 xs.length=n/\((v=.slice none 0 0/\n=0) \/
  ∃ g off cap cur,v=.slice (some ⟨g,off,none⟩) n cap/\base<=g/\w.heap[g]?=some (.cells cur e (0,0))/\n<=cap/\cap<=maxLen/\off+cap<=cur.size/\(cur.toList.drop off).take n=xs)
theorem tail_nil (w:World) (base:Nat) (e:TypeId):Vz w base e (.slice none 0 0) 0 []:=⟨rfl,.inl ⟨rfl,rfl⟩⟩
theorem tail_of_row {w:World} {base:Nat} {e:TypeId} {v:Value} {n:Nat} {xs:List Value} (h:w.ownsRow base e 1 v n xs):Vz w base e v n xs:=by
 refine ⟨by have:=h.1;omega,?_⟩
 rcases h.2 with h0 | ⟨g,cap,cur,rfl,h1,h2,h3,h4,h5,h6⟩
 ·exact .inl h0
 ·exact .inr ⟨g,0,cap,cur,rfl,h1,h2,h3,h4,by omega,by simpa using h6⟩
theorem tail_form {w:World} {base:Nat} {e:TypeId} {v:Value} {n:Nat} {xs:List Value} (h:Vz w base e v n xs):∃ ao cap,v=.slice ao n cap/\n<=cap/\cap<=maxLen:=by
 rcases h.2 with ⟨rfl,h0⟩ | ⟨g,off,cap,cur,rfl,_,_,h3,h4,_⟩
 ·exact ⟨none,0,by rw [h0],by omega,by decide⟩
 ·exact ⟨_,_,rfl,h3,h4⟩
theorem Vf {w:World} {base:Nat} {e:TypeId} {v:Value} {n:Nat} {xs:List Value} (h:Vz w base e v n xs):∀ b,v.ownBlock=some b->base<=b/\∃ cur,w.heap[b]?=some (.cells cur e (0,0)):=by
 intro b hb
 rcases h.2 with ⟨rfl,h0⟩ | ⟨g,off,cap,cur,rfl,h1,h2,_⟩
 ·simp [Value.ownBlock] at hb
 ·simp [Value.ownBlock] at hb
  subst hb
  exact ⟨h1,cur,h2⟩
theorem tail_keep {w w':World} {base:Nat} {e:TypeId} {v:Value} {n:Nat} {xs:List Value} {F:Nat->Prop} (h:Vz w base e v n xs) (k:Keep F w w') (hn:∀ b,v.ownBlock=some b->¬F b):Vz w' base e v n xs:=by
 refine ⟨h.1,?_⟩
 rcases h.2 with h0 | ⟨g,off,cap,cur,rfl,h1,h2,r⟩
 ·exact .inl h0
 ·exact .inr ⟨g,off,cap,cur,rfl,h1,k.heap h2 (hn g rfl),r⟩
theorem tail_cell {w:World} {base:Nat} {e:TypeId} {n cap:Nat} {ao:Option Addr} {xs:List Value} (h:Vz w base e (.slice ao n cap) n xs) {j:Nat} {x:Value} (hj:xs[j]?=some x) :
  ∃ g off,ao=some ⟨g,off,none⟩/\w.cell? ⟨g,off+j,none⟩=some x:=by
 have hlt:=(List.getElem?_eq_some_iff.1 hj).1
 rcases h.2 with ⟨hq,h0⟩ | ⟨g,off,cap',cur,hq,h1,h2,h3,h4,h5,h6⟩
 ·have:=h.1;omega
 ·simp only [Value.slice.injEq] at hq
  obtain ⟨rfl,_,rfl⟩:=hq
  refine ⟨g,off,rfl,?_⟩
  rw [Qq h2]
  rw [<- h6,List.getElem?_take] at hj
  split at hj
  ·rw [List.getElem?_drop] at hj
   simpa using hj
  ·cases hj
theorem run_append_room_off {P:Program} (w:World) (t ty e:TypeId) (i:TypeInfo) (ht:P.underlying t=some (.slice e)) (hi:P.info? e=some i) (h1s:i.size=1) (g off sLen sCap:Nat) (cur:Array Value) (hg:w.heap[g]?=some (.cells cur e (0,0)))
  (a:Addr) (m c:Nat) (news:List Value) (hl:news.length=m*i.size) (hnews:∀ j u,news[j]?=some u->w.cell? (a.add j)=some u) (h1:∀ u∈news,u.oneCell'=true)
  (hroom:sLen+m<=sCap) (hfit:off+sLen*i.size+news.length<=cur.size) :
  (Builtin.append_ #[t,t] ty #[.slice (some ⟨g,off,none⟩) sLen sCap,.slice (some a) m c]).run P w =
   .ok (.slice (some ⟨g,off,none⟩) (sLen+m) sCap) (w.setRow g (cur.toList.take (off+sLen)++news++cur.toList.drop (off+sLen+m)).toArray):=by
 have hf:=run_firstCells_some (P:=P) w i.size m a m c news hl hnews
 have hst:=run_storeCells_at P g (off+sLen*i.size) e news 0 cur w hg (by simpa using hfit) h1
 simp only [Nat.add_zero] at hst
 rw [hl,h1s,Nat.mul_one,Nat.mul_one] at hst
 rw [h1s] at hf
 simp [Builtin.append_,run_underlying ht,sizeOf,typeInfo,hi,Builtin.lenOf,hroom,hf,Addr.add_lit,hst,h1s]
theorem run_append_tail {P:Program} (w:World) (base:Nat) (t ty e:TypeId) (i:TypeInfo) (z:Value) (bytes:Nat) (ht:P.underlying t=some (.slice e)) (hi:P.info? e=some i) (hz:i.zero=some z)
  (hsize:i.size=1) (hby:i.bytes=bytes) (hzs:z.cells.size=1)
  (v:Value) (n:Nat) (xs:List Value) (hown:Vz w base e v n xs)
  (a:Addr) (m c:Nat) (news:List Value) (hl:news.length=m) (hnews:∀ j u,news[j]?=some u->w.cell? (a.add j)=some u) (h1:∀ u∈news,u.oneCell'=true)
  (h63:n+m<=maxLen) (hbytes:(n+m)*bytes<=140737488355328) (hbase:base<=w.heap.size) (hsome:∃ g off cap,v=.slice (some ⟨g,off,none⟩) n cap) :
  ∃ v' w',(Builtin.append_ #[t,t] ty #[v,.slice (some a) m c]).run P w=.ok v' w'/\Vz w' base e v' (n+m) (xs++news)/\w.grownBy w' v.ownBlock/\(v'.ownBlock=v.ownBlock\/v'.ownBlock=some w.heap.size):=by
 subst hby
 have hsmall:n+m<=9223372036854775807:=by simp only [maxLen] at h63;omega
 obtain ⟨g,off,cap,rfl⟩:=hsome
 rcases hown.2 with ⟨hq,_⟩ | ⟨g',off',cap',cur,hq,hbg,hg,hnc,hcm,hcs,htake⟩
 ·cases hq
 ·simp only [Value.slice.injEq,Option.some.injEq,Addr.mk.injEq,and_true,true_and] at hq
  obtain ⟨⟨rfl,rfl⟩,rfl⟩:=hq
  by_cases hroom:n+m<=cap
  ·have hr:=run_append_room_off (P:=P) w t ty e i ht hi hsize g off n cap cur hg a m c news (by rw [hl,hsize,Nat.mul_one]) hnews h1 hroom (by rw [hsize,hl];omega)
   have hlen1:(cur.toList.take (off+n)).length=off+n:=by rw [List.length_take,Array.length_toList];omega
   refine ⟨_,_,hr,⟨by rw [List.length_append,hown.1,hl],.inr ⟨g,off,cap,_,rfl,hbg,setRow_heap w g cur _ e _ hg,hroom,hcm,?_,?_⟩⟩,⟨rfl,rfl,rfl,by simp,fun k _ hk=>setRow_other w g k _ (fun e=>hk (by simp [Value.ownBlock,e]))⟩,.inl rfl⟩
   ·simp only [List.size_toArray,List.length_append,hlen1,List.length_drop,Array.length_toList]
    omega
   ·have e1:(cur.toList.take (off+n)).drop off=xs:=by rw [<- htake,List.drop_take,Nat.add_sub_cancel_left]
    show ((cur.toList.take (off+n)++news++cur.toList.drop (off+n+m)).drop off).take (n+m)=xs++news
    rw [List.append_assoc,List.drop_append_of_le_length (by rw [hlen1];omega),e1,<- List.append_assoc,List.take_append_of_le_length (by rw [List.length_append,hown.1,hl];exact Nat.le_refl _),List.take_of_length_le (by rw [List.length_append,hown.1,hl];exact Nat.le_refl _)]
  ·have holds:∀ j u,xs[j]?=some u->w.cell? ((⟨g,off,none⟩:Addr).add j)=some u:=fun j u hu=>by
    obtain ⟨g',off',hq,hc⟩:=tail_cell hown hu
    simp at hq
    obtain ⟨rfl,rfl⟩:=hq
    rw [Addr.add_lit];exact hc
   have hr:=run_append_grow (P:=P) w t ty e i z ht hi hz ⟨g,off,none⟩ n cap xs (by rw [hown.1,hsize,Nat.mul_one]) holds a m c news (by rw [hl,hsize,Nat.mul_one]) hnews (by omega) (by omega) (growslice_fits (by omega) hbytes)
   have hge:=grownCap_ge w (n+m) cap e
   have hcm2:grownCap w (n+m) cap e<=maxLen:=grownCap_le_maxLen w (n+m) cap e h63
   refine ⟨_,_,hr,⟨by rw [List.length_append,hown.1,hl],.inr ⟨w.heap.size,0,_,_,rfl,hbase,Go.heap_alloc_new w.drew _,hge,hcm2,?_,?_⟩⟩,⟨rfl,rfl,rfl,by simp,fun k hk _=>Go.heap_alloc_old w.drew _ hk⟩,.inr rfl⟩
   ·simp only [Array.size_append,List.size_toArray,size_zeroCells,hzs,hown.1,hl]
    omega
   ·simp only [Array.toList_append,List.append_assoc,List.drop_zero]
    rw [<- List.append_assoc,List.take_append_of_le_length (by rw [List.length_append,hown.1,hl];exact Nat.le_refl _),List.take_of_length_le (by rw [List.length_append,hown.1,hl];exact Nat.le_refl _)]
end Go.Proofs.YtfdmbomlkpkegaaGreat
