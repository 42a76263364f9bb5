/- Lemmas for ReceiverNil. -/
import Derived.Test.YtfdmbomlkpkegaaGreatS26
import Derived.Test.YtfdmbomlkpkegaaGreatS24
set_option maxRecDepth 100000
set_option maxHeartbeats 8000000
set_option linter.all false
namespace Go.Proofs.YtfdmbomlkpkegaaGreat
open Go Go.RowKit Go.Dr
def told (width:Nat) (ts:List LRec):LedS:=ts.foldl LedS.step (LedS.start width)
def LedS.now (L:LedS):List (Nat × WinS):=L.ag.map (fun g=>(g.floor,g.now))
structure Jc (width:Nat) (ts:List LRec) (L:LedS):Prop where
 inc:L.inc=(told width ts).inc
 recs:L.recs=(told width ts).recs
 now:L.now=(told width ts).now
 can:∀ (k:Nat) r,ts[k]?=some r->(told width (ts.take k)).can r
theorem LedS.win_now (L:LedS) (a:Nat):L.win a=((L.now[a]?).map (·.2)).getD ⟨0,0,[]⟩:=by
 unfold LedS.win LedS.now
 rw [List.getElem?_map]
 cases L.ag[a]? <;> rfl
theorem LedS.floor_now (L:LedS) (a:Nat):L.floor a=((L.now[a]?).map (·.1)).getD 0:=by
 unfold LedS.floor LedS.now
 rw [List.getElem?_map]
 cases L.ag[a]? <;> rfl
theorem LedS.can_of {L T:LedS} (h1:L.inc=T.inc) (h2:L.now=T.now) {r:LRec} (h:L.can r):T.can r:=by
 cases r with
 | inc n=>exact ⟨by rw [<- h1];exact h.1,h.2⟩
 | floor a n=>exact ⟨h.1,by rw [LedS.floor_now,<- h2,<- LedS.floor_now];exact h.2.1,h.2.2⟩
 | put a b l=>exact ⟨h.1,h.2.1,h.2.2.1,h.2.2.2.1,by rw [LedS.win_now,<- h2,<- LedS.win_now];exact h.2.2.2.2⟩
theorem map_modify {α β:Type} (f:α->β) (g:α->α) (g':β->β) (h:∀ x,f (g x)=g' (f x)) (l:List α) (i:Nat):(l.modify i g).map f=(l.map f).modify i g':=by
 apply List.ext_getElem?
 intro j
 rw [List.getElem?_map,List.getElem?_modify,List.getElem?_modify,List.getElem?_map]
 by_cases e:i=j
 ·simp only [if_pos e]
  cases l[j]? with
  | none=>rfl
  | some x=>simp [h]
 ·simp only [if_neg e]
  cases l[j]? <;> simp
theorem LedS.now_step (L:LedS) (r:LRec):(L.step r).now=match r with
  | .inc _=>L.now
  | .floor a n=>L.now.modify a (fun x=>(n,x.2))
  | .put a b l=>L.now.modify a (fun x=>(x.1,(x.2.skip b).putAll l)):=by
 cases r with
 | inc n=>rfl
 | floor a n=>exact map_modify (fun g:AgS=>(g.floor,g.now)) (fun g=>{ g with floor:=n }) (fun x=>(n,x.2)) (fun _=>rfl) L.ag a
 | put a b l=>exact map_modify (fun g:AgS=>(g.floor,g.now)) (fun g=>{ g with now:=(g.now.skip b).putAll l }) (fun x=>(x.1,(x.2.skip b).putAll l)) (fun _=>rfl) L.ag a
theorem Vv (width:Nat) (ts:List LRec) (r:LRec):told width (ts++[r])=(told width ts).step r:=by simp [told]
theorem Jc.push {width:Nat} {ts:List LRec} {L:LedS} (h:Jc width ts L) {r:LRec} (hc:L.can r):Jc width (ts++[r]) (L.step r):=by
 refine ⟨?_,?_,?_,fun k x hx=>?_⟩
 ·rw [Vv]
  cases r <;> simp [LedS.step,h.inc]
 ·rw [Vv]
  cases r <;> simp [LedS.step,h.recs]
 ·rw [Vv,LedS.now_step,LedS.now_step,h.now]
 ·by_cases hk:k<ts.length
  ·rw [List.getElem?_append_left hk] at hx
   rw [List.take_append_of_le_length (by omega)]
   exact h.can k x hx
  ·rw [List.getElem?_append_right (by omega)] at hx
   have h0:=(List.getElem?_eq_some_iff.1 hx).1
   simp at h0
   have hk0:k-ts.length=0:=by omega
   rw [hk0] at hx
   simp at hx
   subst hx
   rw [List.take_append_of_le_length (by omega),List.take_of_length_le (by omega)]
   exact LedS.can_of h.inc h.now hc
theorem Jc.sync {width:Nat} {ts:List LRec} {L:LedS} (h:Jc width ts L):Jc width ts L.sync :=
 ⟨h.inc,h.recs,by rw [<- h.now];simp [LedS.now,LedS.sync],h.can⟩
def Zk (ts:List LRec):List Qs:=ts.map LRec.bytes
section
variable [bn:Inhabited Ban] {base:Nat} {w w':World} {q g m p n s width:Nat} {lv wv sgv rlv:Value} {size:Int} {ss:List SegL} {ts:List LRec} {rs:List Qs} {d:Qr} {L:LedS}
def Qi (q g m:Nat) (lv:Value) (p n s:Nat) (wv sgv rlv:Value):Nat->Prop:=fun b=>Kw q m lv b\/Kx g p n s wv sgv rlv b
end
def Qc.rightB (x:Qc):Bool:=decide (x.n<2305843009213693952) && x.s.right
theorem Qc.rightB_iff (x:Qc):x.rightB=true ↔ x.Right:=by
 unfold Qc.rightB Qc.Right Ys.right Ys.Right
 simp
def Yv (b:Nat) (l:List Qc):Bool:=l.all Qc.rightB && decide (b<2305843009213693952)
theorem Jm (b:Nat) (l:List Qc):Yv b l=true ↔ (∀ x∈l,x.Right)/\b<2305843009213693952:=by
 unfold Yv
 rw [Bool.and_eq_true,List.all_eq_true,decide_eq_true_eq]
 simp only [Qc.rightB_iff]
theorem gRight_spec [bn:Inhabited Ban] {base B:Nat} {w:World} {v:Value} {l:List Qc} (b:Nat) (h:Xr base w B v l) (hl:l.length<=1048576) (hbl:∀ x∈l,x.s.body.length<=1073741824) :
  Calls Tryz.prog 63 #[.int .u64 b,v] w fun e w'=>e=.returned (.bool (Yv b l))/\Keep No w w':=by
 obtain ⟨vo,vc,rfl,_,_⟩:=h.form
 obtain ⟨rb,hrb⟩:∃ rb,rb=Yv b l:=⟨_,rfl⟩
 rw [<- hrb]
 have HH:=Lib.hid (A3 h hbl hrb)
 have hli:(l.length:Int)<=1048576:=by omega
 clear h hl hbl hrb
 go_enter Tryz.func63,Tryz.ntmps63
 go_wp2_with fail
 go_loopw [9] (fun v9 wr=>∃ k,v9=.int .i64 (k:Nat)/\k<=l.length/\(∀ x∈l.take k,x.rightB=true)/\Keep No w wr) (fun v9 _=>l.length - (intOf v9).toNat)
 case atStart=>exact ⟨0,rfl,Nat.zero_le _,fun x hx=>by simp at hx,Keep.refl _ _⟩
 case round =>
  obtain ⟨k,rfl,hk,hall,kr⟩:=hrel
  by_cases hlt:k<l.length
  ·have hx:l[k]?=some l[k]:=List.getElem?_eq_getElem hlt
   have htake:l.take (k+1)=l.take k++[l[k]]:=List.take_succ_eq_append_getElem hlt
   generalize l[k]=z at hx htake
   obtain ⟨gi,ui,hgi,hub,e0,e1,e2⟩:=(HH.out.1.no kr).cell hx
   obtain ⟨uo,uc,rfl⟩:=hub.form
   subst hgi
   have hki:(k:Int)<(l.length:Int):=by omega
   have hzb:=HH.out.2.1 z (List.mem_of_getElem? hx)
   have hmem:=List.mem_of_getElem? hx
   have hsr:=fun (w':World)=>sRight_spec (w:=w') (s:=z.s) (ao:=uo) (cap:=uc) (by omega)
   have kA:=(Keep.refl No wr).alloc (.cells #[.int .u64 z.n,.int .i64 z.s.c,.slice uo z.s.body.length uc] 111)
   by_cases hn:z.n<2305843009213693952
   ·have hni:¬(2305843009213693952:Int)<=(z.n:Int):=by omega
    cases hzs:z.s.right
    ·rw [hzs] at hsr
     have hf:Yv b l=false:=by
      unfold Yv
      have:l.all Qc.rightB=false:=by
       rw [List.all_eq_false]
       exact ⟨z,hmem,by unfold Qc.rightB;simp [hzs]⟩
      rw [this];rfl
     obtain rfl:rb=false:=HH.out.2.2.trans hf
     have HR:=Lib.hid (kr.then kA)
     clear hall hlt hx htake hub hzb hmem kA hzs hf kr hk hn
     go_wp2_with (go_at_call 115;refine (hsr _).mono ?_;rintro e w2 ⟨rfl,k2⟩)
     go_ret
     exact ⟨rfl,HR.out.then k2⟩
    ·rw [hzs] at hsr
     have hz1:z.rightB=true:=by unfold Qc.rightB;simp [hn,hzs]
     have HR:=Lib.hid (A3 (kr.then kA) hlt (show ∀ x∈l.take (k+1),x.rightB=true by
      rw [htake]
      intro x hx
      rcases List.mem_append.1 hx with hx | hx
      ·exact hall x hx
      ·rw [List.mem_singleton.1 hx];exact hz1))
     clear hall hlt hx htake hub hzb hmem kA hzs hz1 kr hk hn
     go_wp2_with (go_at_call 115;refine (hsr _).mono ?_;rintro e w2 ⟨rfl,k2⟩)
     go_roundw
     case rel=>exact ⟨k+1,by congr 1,by have:=HR.out.2.1;omega,HR.out.2.2,HR.out.1.then k2⟩
     case measure=>have:=HR.out.2.1;simp [intOf];omega
   ·have hni:(2305843009213693952:Int)<=(z.n:Int):=by omega
    have hf:Yv b l=false:=by
     unfold Yv
     have:l.all Qc.rightB=false:=by
      rw [List.all_eq_false]
      exact ⟨z,hmem,by unfold Qc.rightB;simp [hn]⟩
     rw [this];rfl
    obtain rfl:rb=false:=HH.out.2.2.trans hf
    have HR:=Lib.hid (kr.then kA)
    clear hall hlt hx htake hub hzb hmem kA hf kr hk hn hsr
    go_wp2_with fail
    go_ret
    exact ⟨rfl,HR.out⟩
  ·have hke:k=l.length:=by omega
   have hki:¬(k:Int)<(l.length:Int):=by omega
   rw [hke,List.take_of_length_le (Nat.le_refl _)] at hall
   have hf:Yv b l=decide (b<2305843009213693952):=by
    unfold Yv
    rw [List.all_eq_true.2 hall]
    rfl
   have HR:=Lib.hid kr
   have hf3:rb=decide (b<2305843009213693952):=HH.out.2.2.trans hf
   clear kr hall hk hlt hke hf
   by_cases hbl:b<2305843009213693952
   ·have hbi:(b:Int)<2305843009213693952:=by omega
    obtain rfl:rb=true:=hf3.trans (decide_eq_true hbl)
    clear hf3 hbl
    go_wp2_with fail
    go_ret
    exact ⟨rfl,HR.out⟩
   ·have hbi:¬(b:Int)<2305843009213693952:=by omega
    obtain rfl:rb=false:=hf3.trans (decide_eq_false hbl)
    clear hf3 hbl
    go_wp2_with fail
    go_ret
    exact ⟨rfl,HR.out⟩
def u64v (n:Nat):Value:=.int .u64 (n:Int)
def OwnN (w:World) (B:Nat) (v:Value) (l:List Nat):Prop:=w.ownsRow B 27 1 v l.length (l.map u64v)
theorem OwnN.nil (w:World) (B:Nat):OwnN w B (.slice none 0 0) []:=World.ownsRow_nil _ _ _ _
theorem OwnN.form {w:World} {B:Nat} {v:Value} {l:List Nat} (h:OwnN w B v l):∃ ao cap,v=.slice ao l.length cap/\l.length<=cap/\cap<=maxLen:=Kj h
theorem OwnN.keep {w w':World} {B:Nat} {v:Value} {l:List Nat} {F:Nat->Prop} (h:OwnN w B v l) (k:Keep F w w') (hF:∀ b,v.ownBlock=some b->¬F b):OwnN w' B v l:=Yu h k hF
theorem OwnN.kind {w:World} {B:Nat} {v:Value} {l:List Nat} (h:OwnN w B v l):∀ b,v.ownBlock=some b->B<=b/\∃ cur,w.heap[b]?=some (.cells cur 27 (0,0)):=Qa h
theorem info_u64n:(Tryz.prog.info? 27).map (fun i=>(i.zero,i.size,i.bytes))=some (some (.int .u64 0),1,8):=by kernel_rfl
theorem wpList_append_num {w:World} {ops:Array Oper} {rest:List Oper} {o:Oper} {a:Act} {Q:Exit->Act->World->Prop} (hg:o.guard=none) (s x:Operand)
  (ho:o.op=.call { callee:=.builtin .append,args:=#[s,x],argTypes:=#[52,52] }) {B:Nat} {v:Value} {l:List Nat} (h:OwnN w B v l) (hs:a.eval s=v) {D n:Nat}
  (hD:w.heap[D]?=some (.cells #[.int .u64 n] 27 (0,0))) (hx:a.eval x=.slice (some ⟨D,0,none⟩) 1 1) (hl:l.length<=1099511627776) (hb:B<=w.heap.size)
  (hK:∀ vo vc w',OwnN w' B (.slice vo (l.length+1) vc) (l++[n])->Keep (fun b=>v.ownBlock=some b) w w'->wpList Tryz.prog ops Q rest (a.put o.dst (.slice vo (l.length+1) vc)) w'):wpList Tryz.prog ops Q (o :: rest) a w:=by
 obtain ⟨i0,hi0,hz0,hz1,hz2⟩:=info_parts info_u64n
 refine wpList_plain hg fun K hK'=>?_
 refine wp_append_lies w s x 52 ho B 27 i0 _ 1 8 Tryz.underlying52 hi0 hz0 hz1 hz2 rfl (by omega) v l.length (l.map u64v) hs h
  ⟨D,0,none⟩ 1 1 [.int .u64 n] hx rfl (World.news_of_block (cs:=#[.int .u64 n]) (t:=27) (fr:=(0,0)) hD) (by simp [Value.oneCell']) (by omega) (by unfold maxLen;omega) (by omega) hb w.heap.size rfl ?_
 intro g cap w' hown hgr hat hlt
 refine hK' _ _ (hK _ _ _ ?_ (Jr hgr))
 unfold OwnN
 rw [List.length_append,List.map_append]
 exact hown
def pick:WinS->List Qc->List Qc
 | _,[]=>[]
 | w,x :: l=>if w.takes x.n=true then x :: pick (w.put x.n) l else pick w l
theorem Kq (w:WinS) (a b:List Qc):w.putAll (a++b)=(w.putAll a).putAll b:=by unfold WinS.putAll;rw [List.foldl_append]
theorem Uw:∀ (w:WinS) (l:List Qc) (z:Qc),pick w (l++[z])=pick w l++(if (w.putAll (pick w l)).takes z.n=true then [z] else [])
 | w,[],z=>by
  show (if w.takes z.n=true then [z] else [])=[]++_
  rfl
 | w,x :: l,z=>by
  show (if w.takes x.n=true then x :: pick (w.put x.n) (l++[z]) else pick w (l++[z]))=(if w.takes x.n=true then x :: pick (w.put x.n) l else pick w l)++_
  by_cases h:w.takes x.n=true
  ·rw [if_pos h,if_pos h,Uw (w.put x.n) l z]
   have e:w.putAll (pick w (x :: l))=(w.put x.n).putAll (pick (w.put x.n) l):=by
    show w.putAll (if w.takes x.n=true then x :: pick (w.put x.n) l else pick w l)=_
    rw [if_pos h];rfl
   rw [e];rfl
  ·rw [if_neg h,if_neg h,Uw w l z]
   have e:pick w (x :: l)=pick w l:=by
    show (if w.takes x.n=true then x :: pick (w.put x.n) l else pick w l)=_
    rw [if_neg h]
   rw [e]
theorem pick_allIn:∀ (w:WinS) (l:List Qc),w.allIn (pick w l)
 | _,[]=>trivial
 | w,x :: l=>by
  show w.allIn (if w.takes x.n=true then x :: pick (w.put x.n) l else pick w l)
  by_cases h:w.takes x.n=true
  ·rw [if_pos h];exact ⟨h,pick_allIn _ l⟩
  ·rw [if_neg h];exact pick_allIn w l
theorem Xi:∀ (w:WinS) (l:List Qc),(pick w l).Sublist l
 | _,[]=>List.Sublist.refl _
 | w,x :: l=>by
  show (if w.takes x.n=true then x :: pick (w.put x.n) l else pick w l).Sublist _
  by_cases h:w.takes x.n=true
  ·rw [if_pos h];exact (Xi _ l).cons_cons x
  ·rw [if_neg h];exact (Xi w l).cons x
def LedS.putR (L:LedS) (a b:Nat) (l:List Qc):Option LRec:=if pick ((L.win a).skip b) l=[]/\(L.win a).skip b=L.win a then none else some (.put a b (pick ((L.win a).skip b) l))
theorem Vo {l:List Qc} {N:Nat} (h:∀ x∈l,x.Right/\x.s.body.length<=N):(Qb l).length<=l.length*(N+21):=by
 induction l with
 | nil=>simp [Qb]
 | cons x l ih =>
  have h1:=ih (fun y hy=>h y (by simp [hy]))
  obtain ⟨hx1,hx2⟩:=h x (by simp)
  have a1:=Qp (n:=x.n) (by have:=hx1.1;omega)
  have a2:=Qp (n:=x.s.body.length) (by have:=hx1.2.2.2;omega)
  have e:Qb (x :: l)=x.bytes++Qb l:=by simp [Qb]
  rw [e,List.length_append]
  have e2:x.bytes.length<=N+21:=by
   unfold Qc.bytes Ys.bytes
   simp only [List.length_append,List.length_cons]
   omega
  rw [List.length_cons,Nat.add_mul]
  omega
theorem LedS.putR_can {a b:Nat} {L:LedS} {l:List Qc} {r:LRec} (ha:a<16) (hr:Yv b l=true) (hl:l.length<=64) (h:L.putR a b l=some r):L.can r:=by
 unfold LedS.putR at h
 split at h
 ·cases h
 ·simp only [Option.some.injEq] at h
  subst h
  obtain ⟨h1,h2⟩:=(Jm b l).1 hr
  exact ⟨ha,h2,Nat.le_trans (Xi _ _).length_le hl,fun x hx=>h1 x ((Xi _ _).subset hx),pick_allIn _ _⟩
structure Rk [bn:Inhabited Ban] (w wr:World) (b11:Nat) (tv pv:Value) (y:WinS) (t:List Qc):Prop where
 nums:OwnN wr w.heap.size tv (t.map (·.n))
 bytes:OwnB wr w.heap.size pv (Qb t)
 box:Xf wr b11 (y.putAll t)
 k:Keep No w wr
 new:w.heap.size<=b11
theorem Rk.no [bn:Inhabited Ban] {w wr w':World} {b11:Nat} {tv pv:Value} {y:WinS} {t:List Qc} (h:Rk w wr b11 tv pv y t) (k:Keep No wr w'):Rk w w' b11 tv pv y t :=
 ⟨h.nums.keep k (fun _ _ e=>e),h.bytes.keep k (fun _ _ e=>e),h.box.keep (Zn.no _) k (fun e=>e),h.k.then k,h.new⟩
theorem Rk.box2 [bn:Inhabited Ban] {w wr w':World} {b11:Nat} {tv pv:Value} {y y':WinS} {t:List Qc} (h:Rk w wr b11 tv pv y t) (_hb:Xf w' b11 y') (k:Keep (·=b11) wr w') :
  OwnN w' w.heap.size tv (t.map (·.n))/\OwnB w' w.heap.size pv (Qb t)/\Keep No w w':=by
 obtain ⟨_,_,hz,_⟩:=h.box
 refine ⟨h.nums.keep k (fun b hb e=>?_),h.bytes.keep k (fun b hb e=>?_),h.k.trans k (fun b hb e=>?_)⟩
 ·obtain ⟨_,cur,e2⟩:=h.nums.kind b hb
  rw [show b=b11 from e,hz] at e2;simp at e2
 ·obtain ⟨_,cur,e2⟩:=Qa h.bytes b hb
  rw [show b=b11 from e,hz] at e2;simp at e2
 ·have e:b=b11:=e
  have:=h.new
  omega
theorem ledCells_set6 {g inc:Nat} {ags:List (List Value)} {lv:Value} {safe m i:Nat} {c:List Value} (u1 u2 u3:Value) (h:∀ a∈ags,a.length=7) (hi:ags[i]?=some c) :
  (((Xq g inc ags lv safe m).set (2+i*7+4) u1).set (2+i*7+5) u2).set (2+i*7+6) u3=Xq g inc (ags.set i (((c.set 4 u1).set 5 u2).set 6 u3)) lv safe m:=by
 have hl:=(List.getElem?_eq_some_iff.1 hi).1
 have hc:=h c (List.mem_of_getElem? hi)
 have h7:∀ d:List Value,d.length=7->∀ a∈ags.set i d,a.length=7:=fun d hd a ha=>by
  rcases List.mem_or_eq_of_mem_set ha with ha | rfl
  ·exact h a ha
  ·exact hd
 rw [Je u1 h hi (by decide),Je (i:=i) (a:=c.set 4 u1) u2 (h7 _ (by simp [hc])) (by simp [hl]) (by decide),List.set_set,
  Je (i:=i) (a:=(c.set 4 u1).set 5 u2) u3 (h7 _ (by simp [hc])) (by simp [hl]) (by decide),List.set_set]
theorem Zv.setSafe [bn:Inhabited Ban] {base:Nat} {w:World} {q g m a:Nat} {lv:Value} {L:LedS} {x:AgS} (h:Zv base w q g m lv L) (ha:L.ag[a]?=some x) (y:WinS) {ao:Option Addr} {cap:Nat} (hr:Zy w (.slice ao y.set.length cap) y.set) :
  Zv base (((w.setCell ⟨q,2+a*7+4,none⟩ (.int .u64 y.low)).setCell ⟨q,2+a*7+5,none⟩ (.int .u64 y.width)).setCell ⟨q,2+a*7+6,none⟩ (.slice ao y.set.length cap)) q g m lv { L with ag:=L.ag.set a { x with safe:=y } } /\
   Keep (·=q) w (((w.setCell ⟨q,2+a*7+4,none⟩ (.int .u64 y.low)).setCell ⟨q,2+a*7+5,none⟩ (.int .u64 y.width)).setCell ⟨q,2+a*7+6,none⟩ (.slice ao y.set.length cap)):=by
 obtain ⟨hF,hR,_⟩:=h.set 0 (.bool true)
 have k:=((Qd (g:=q) (i:=2+a*7+4) w (.int .u64 y.low)).setCell (p:=⟨q,2+a*7+5,none⟩) (.inl rfl) (.int .u64 y.width)).setCell (p:=⟨q,2+a*7+6,none⟩) (.inl rfl) (.slice ao y.set.length cap)
 obtain ⟨ap1,ap2,ap3⟩:=h.apart
 obtain ⟨ags,hz,hag⟩:=h.blk
 obtain ⟨ns,ss,e,h1,h2⟩:=hag.at' a x ha
 refine ⟨⟨⟨ags.set a (Ki { x with safe:=y } ns (.slice ao y.set.length cap)),?_,?_⟩,h.recs.keep hF k (fun b hb e=>ap2 (by rw [hb,show b=q from e])),h.by'.keep k (fun e=>ap1 e.symm),h.qb,h.mb⟩,k⟩
 ·rw [Qz (Qz (Qz hz)),Jq,Jq,Jq,ledCells_set6 _ _ _ hag.seven e]
  rfl
 ·exact (hag.keep hR k).set ha (y:={ x with safe:=y }) (h1.keep hR k) (hr.keep hR k)
theorem Zv.setCount [bn:Inhabited Ban] {base:Nat} {w:World} {q g m:Nat} {lv:Value} {L:LedS} (h:Zv base w q g m lv L) (n:Nat) :
  Zv base (w.setCell ⟨q,115,none⟩ (.int .i64 n)) q g m lv { L with safe:=n }:=by
 obtain ⟨hF,hR,k⟩:=h.set 115 (.int .i64 n)
 obtain ⟨ap1,ap2,ap3⟩:=h.apart
 obtain ⟨ags,hz,ha⟩:=h.blk
 refine ⟨⟨ags,?_,ha.keep hR k⟩,h.recs.keep hF k (fun b hb e=>ap2 (by rw [hb,show b=q from e])),h.by'.keep k (fun e=>ap1 e.symm),h.qb,h.mb⟩
 rw [Qz hz,Jq,ledCells_setS n ha.seven ha.len]
def Sz (g:AgS):AgS:={ g with safe:=g.now }
def LedS.syncK (L:LedS) (k:Nat):LedS:={ L with ag:=(L.ag.take k).map Sz++L.ag.drop k }
theorem syncK_succ {L:LedS} {k:Nat} {x:AgS} (h:L.ag[k]?=some x):(L.syncK k).ag[k]?=some x/\{ L.syncK k with ag:=(L.syncK k).ag.set k { x with safe:=x.now } }=L.syncK (k+1):=by
 obtain ⟨hk,hx⟩:=List.getElem?_eq_some_iff.1 h
 have e:(L.syncK k).ag=(L.ag.take k).map Sz++(x :: L.ag.drop (k+1)):=by
  show (L.ag.take k).map Sz++L.ag.drop k=_
  rw [List.drop_eq_getElem_cons hk,hx]
 have hlen:((L.ag.take k).map Sz).length=k:=by simp;omega
 refine ⟨?_,?_⟩
 ·rw [e,List.getElem?_append_right (by omega),hlen,Nat.sub_self]
  rfl
 ·rw [e,List.set_append_right _ _ (by omega),hlen,Nat.sub_self]
  unfold LedS.syncK
  rw [List.take_succ_eq_append_getElem hk,hx,List.map_append,List.append_assoc]
  rfl
end Go.Proofs.YtfdmbomlkpkegaaGreat
namespace Go.Proofs.YtfdmbomlkpkegaaGreat
end Go.Proofs.YtfdmbomlkpkegaaGreat
namespace Go.Proofs.YtfdmbomlkpkegaaGreat
open Go Go.RowKit
theorem step_recs (L:LedS) (r:LRec):L.recs <+: (L.step r).recs:=by
 cases r with
 | inc n=>exact List.prefix_refl _
 | floor a n=>exact List.prefix_refl _
 | put a b l=>exact List.prefix_append _ _
theorem told_append (width:Nat) (a b:List LRec):told width (a++b)=b.foldl LedS.step (told width a):=by simp [told]
theorem fold_recs:∀ (b:List LRec) (L:LedS),L.recs <+: (b.foldl LedS.step L).recs
 | [],_=>List.prefix_refl _
 | r :: b,L=>(step_recs L r).trans (fold_recs b (L.step r))
theorem Gp (width:Nat) (ts:List LRec) {k k':Nat} (hk:k<=k'):(told width (ts.take k)).recs <+: (told width (ts.take k')).recs:=by
 have e:ts.take k'=ts.take k++(ts.take k').drop k:=by
  have h:=(List.take_append_drop k (ts.take k')).symm
  rw [List.take_take,Nat.min_eq_left hk] at h
  exact h
 rw [e,told_append]
 exact fold_recs _ _
theorem Jc.take {width:Nat} {ts:List LRec} {L:LedS} (h:Jc width ts L) (k:Nat):Jc width (ts.take k) (told width (ts.take k)):=by
 refine ⟨rfl,rfl,rfl,fun i r hi=>?_⟩
 have hlt:=(List.getElem?_eq_some_iff.1 hi).1
 rw [List.length_take] at hlt
 rw [List.getElem?_take,if_pos (by omega)] at hi
 rw [List.take_take,Nat.min_eq_left (by omega)]
 exact h.can i r hi
theorem Gb {width:Nat} (hw:1<=width/\width<=1024):∀ {ts:List LRec},(∀ (k:Nat) r,ts[k]?=some r->(told width (ts.take k)).can r)->(told width ts).Ok width:=by
 intro ts
 induction hn:ts.length generalizing ts with
 | zero=>intro _;rw [List.eq_nil_of_length_eq_zero hn];exact LedS.Ok.start hw
 | succ n ih =>
  intro h
  rcases List.eq_nil_or_concat ts with rfl | ⟨ini,r,rfl⟩
  ·simp at hn
  ·rw [List.concat_eq_append] at h hn ⊢
   have hl:ini.length=n:=by simpa using hn
   have h1:=ih hl (fun k x hk=>by
    have hlt:=(List.getElem?_eq_some_iff.1 hk).1
    have:=h k x (by rw [List.getElem?_append_left hlt];exact hk)
    rwa [List.take_append_of_le_length (by omega)] at this)
   have h2:=h ini.length r (by simp)
   rw [List.take_append_of_le_length (Nat.le_refl _),List.take_length] at h2
   rw [Vv]
   exact h1.step h2
end Go.Proofs.YtfdmbomlkpkegaaGreat
namespace Go.Proofs.YtfdmbomlkpkegaaGreat
open Go Go.RowKit Go.Dr
structure Zc [bn:Inhabited Ban] (base:Nat) (w:World) (q g m:Nat) (lv:Value) (p n s:Nat) (wv sgv rlv:Value) (width:Nat) (size:Int) (ss:List SegL) (ts:List LRec) (d:Qr) (L:LedS):Prop where
 led:Zv base w q g m lv L
 lg:Zd base w g p sgv rlv (logD size ss)
 dk:Qo base w p n s wv d
 ok:L.Ok width
 tl:Jc width ts L
 mn:m≠n
 ms:m≠s
section
variable [bn:Inhabited Ban] {base:Nat} {w w':World} {q g m p n s width:Nat} {lv wv sgv rlv:Value} {size:Int} {ss:List SegL} {ts:List LRec} {d:Qr} {L:LedS} {LG:LogS}
theorem footR_log (hlg:Zd base w g p sgv rlv LG) (hdk:Qo base w p n s wv d):Zn w (Kx g p n s wv sgv rlv):=by
 rintro b (hb | hb) ⟨cs,fr,e⟩
 ·rcases hb with rfl | rfl | rfl | hb
  ·rw [hdk.blk] at e;simp at e
  ·obtain ⟨es,cl,hz,_⟩:=hdk.now;rw [hz] at e;cases e
  ·obtain ⟨es,cl,hz,_⟩:=hdk.safe;rw [hz] at e;cases e
  ·obtain ⟨_,cur,hz⟩:=hdk.wait.kind b hb
   rw [hz] at e;simp at e
 ·obtain ⟨_,cs',t,hz,ht⟩:=hlg.kind hb
  rw [hz] at e;simp at e;obtain ⟨_,rfl,_⟩:=e
  rcases ht with ht | ht | ht <;> simp at ht
theorem foot_log (hlg:Zd base w g p sgv rlv LG) (hdk:Qo base w p n s wv d):Foot base w (Kx g p n s wv sgv rlv):=fun b hb=>by
 rcases hb with hb | hb
 ·exact hdk.foot_ok b hb
 ·exact hlg.foot b hb
theorem apartG (hl:Zv base w q g m lv L) (hlg:Zd base w g p sgv rlv LG) (hdk:Qo base w p n s wv d) (hmn:m≠n) (hms:m≠s):∀ b,Kw q m lv b->¬Kx g p n s wv sgv rlv b:=by
 intro b hb hf
 obtain ⟨_,h3⟩:=hl.kind hb
 rcases h3 with ⟨cs,t,hz,ht⟩ | ⟨es,clock,hz⟩
 ·rcases hf with hf | hf
  ·rcases hf with rfl | rfl | rfl | hf
   ·rw [hdk.blk] at hz;simp at hz;obtain ⟨_,rfl⟩:=hz;rcases ht with ht | ht <;> simp at ht
   ·obtain ⟨_,_,e,_⟩:=hdk.now;rw [hz] at e;cases e
   ·obtain ⟨_,_,e,_⟩:=hdk.safe;rw [hz] at e;cases e
   ·obtain ⟨_,cur,e⟩:=hdk.wait.kind b hf
    rw [hz] at e;simp at e;obtain ⟨_,rfl⟩:=e;rcases ht with ht | ht <;> simp at ht
  ·obtain ⟨_,cs',t',e,ht'⟩:=hlg.kind hf
   rw [hz] at e;simp at e;obtain ⟨_,rfl⟩:=e
   rcases ht with rfl | rfl <;> rcases ht' with ht' | ht' | ht' <;> simp at ht'
 ·have hbm:b=m:=by
   rcases hb with rfl | hb | hb
   ·obtain ⟨_,e,_⟩:=hl.blk;rw [hz] at e;cases e
   ·exact hb
   ·obtain ⟨_,cur,e⟩:=hl.recs.kind b hb;rw [hz] at e;cases e
  subst hbm
  rcases hf with hf | hf
  ·rcases hf with rfl | hf | hf | hf
   ·rw [hdk.blk] at hz;cases hz
   ·exact hmn hf
   ·exact hms hf
   ·obtain ⟨_,cur,e⟩:=hdk.wait.kind b hf
    rw [hz] at e;cases e
  ·obtain ⟨_,cs',t',e,ht'⟩:=hlg.kind hf
   rw [hz] at e;cases e
theorem Zc.apart (h:Zc base w q g m lv p n s wv sgv rlv width size ss ts d L):∀ b,Kw q m lv b->¬Kx g p n s wv sgv rlv b:=apartG h.led h.lg h.dk h.mn h.ms
theorem Zc.footL (h:Zc base w q g m lv p n s wv sgv rlv width size ss ts d L):Foot base w (Kx g p n s wv sgv rlv):=foot_log h.lg h.dk
theorem Zc.footLR (h:Zc base w q g m lv p n s wv sgv rlv width size ss ts d L):Zn w (Kx g p n s wv sgv rlv):=footR_log h.lg h.dk
theorem Zc.no (h:Zc base w q g m lv p n s wv sgv rlv width size ss ts d L) (k:Keep No w w'):Zc base w' q g m lv p n s wv sgv rlv width size ss ts d L:=⟨h.led.no k,h.lg.no k,h.dk.no k,h.ok,h.tl,h.mn,h.ms⟩
theorem Zc.foot (h:Zc base w q g m lv p n s wv sgv rlv width size ss ts d L):Foot base w (Qi q g m lv p n s wv sgv rlv):=fun b hb=>hb.elim (h.led.foot b) (h.footL b)
theorem Zc.keep {F:Nat->Prop} (h:Zc base w q g m lv p n s wv sgv rlv width size ss ts d L) (hF:Foot base w F) (hR:Zn w F) (k:Keep F w w') (hn:∀ b,Qi q g m lv p n s wv sgv rlv b->¬F b):Zc base w' q g m lv p n s wv sgv rlv width size ss ts d L :=
 ⟨h.led.keep hF hR k (fun b hb=>hn b (.inl hb)),h.lg.keep hF k (fun b hb=>hn b (.inr (.inr hb))),h.dk.keep hF k (fun b hb=>hn b (.inr (.inl hb))),h.ok,h.tl,h.mn,h.ms⟩
theorem Zc.lt (h:Zc base w q g m lv p n s wv sgv rlv width size ss ts d L):∀ b,Qi q g m lv p n s wv sgv rlv b->b<w.heap.size:=fun b hb=>(h.foot b hb).2.1
end
def Ga [bn:Inhabited Ban] (base:Nat) (w:World) (q g m:Nat) (p width:Nat) (size:Int) (ss:List SegL) (ts:List LRec) (d:Qr) (L:LedS) (F:Nat->Prop) (w':World):Prop :=
 ∃ lv n s wv sgv rlv,Zc base w' q g m lv p n s wv sgv rlv width size ss ts d L/\Keep F w w'/\∀ b,Qi q g m lv p n s wv sgv rlv b->F b\/w.heap.size<=b
def Ha (c:Int) (size:Int) (ss:List SegL) (ts:List LRec) (d:Qr) (L:LedS) (r:LRec) (ss':List SegL) (ts':List LRec) (d':Qr) (L':LedS):Prop :=
 d.append (appS (logD size ss)).n (appB (logD size ss) r.bytes)=(d',c)/\((c=0/\(logD size ss).append r.bytes=logD size ss'/\ts'=ts++[r]/\L'=L.step r)\/(c=5/\ss'=ss/\ts'=ts/\L'=L))
theorem Ha.code {c:Int} {size:Int} {ss:List SegL} {ts:List LRec} {d:Qr} {L:LedS} {r:LRec} {ss':List SegL} {ts':List LRec} {d':Qr} {L':LedS} (h:Ha c size ss ts d L r ss' ts' d' L'):c=0\/c=5:=h.2.imp (·.1) (·.1)
theorem gWrite_g [bn:Inhabited Ban] {base:Nat} {w:World} {q g m p n s width:Nat} {lv wv sgv rlv pv:Value} {size:Int} {ss ss':List SegL} {ts ts':List LRec} {d d':Qr} {L L':LedS} {r:LRec} {c:Int} {j:Nat} {l:List Qf}
  (h:Zc base w q g m lv p n s wv sgv rlv width size ss ts d L) (hp:Qv base w pv r.bytes) (hc:L.can r) (hlen:r.bytes.length<=1000000) (hg:Good j l ss) (hj:j<=1000) (hsm:Ur d) (hrec:L.recs.length<=1073741824) (hb:base<=w.heap.size) (hT:ban.top<=w.heap.size)
  (hwr:Ha c size ss ts d L r ss' ts' d' L') :
  Calls Tryz.prog 58 #[.pointer (some ⟨q,0,none⟩),pv] w fun e w'=>e=.returned (.int .i64 c)/\Ga base w q g m p width size ss' ts' d' L' (Qi q g m lv p n s wv sgv rlv) w':=by
 obtain ⟨po,pc,rfl⟩:=hp.form
 obtain ⟨_,c0,_⟩:=h.led.incCell
 obtain ⟨hap,hcase⟩:=hwr
 have happ:=lAppend_any h.lg h.dk hb hT hp (by omega) hg hj hsm c (hcase.imp (·.1) (·.1)) (by rw [hap])
 rw [hap] at happ
 obtain ⟨rl,hrl⟩:∃ rl,rl=r.bytes.length:=⟨_,rfl⟩
 rw [<- hrl] at happ ⊢
 have HH:=Lib.hid (A8 h hp hc hlen hrec hb hT hrl)
 clear h hp hc hlen hg hj hsm hrec hb hT hrl hap
 rcases hcase with ⟨rfl,hlg,rfl,rfl⟩ | ⟨rfl,rfl,rfl,rfl⟩
 ·rw [if_pos rfl,if_pos rfl,hlg] at happ
  go_enter Tryz.func58,Tryz.ntmps58
  go_wp2_with fail
  refine happ.mono ?_
  rintro e w1 ⟨rfl,n',s',wv',sv',lv',hlg',hdk',k1,ho1⟩
  clear happ
  have hapart:=HH.out.1.apart
  have hled1:=HH.out.1.led.keep HH.out.1.footL HH.out.1.footLR k1 hapart
  have hp1:=HH.out.2.1.keep HH.out.1.footL k1
  rw [<- HH.out.2.2.2.2.2.2.2] at hp1
  have hd:=gDone_spec (r:=r) hled1 HH.out.1.ok hp1 HH.out.2.2.1 (by have:=HH.out.2.2.2.1;omega) HH.out.2.2.2.2.1 (Nat.le_trans HH.out.2.2.2.2.2.1 k1.size) (Nat.le_trans HH.out.2.2.2.2.2.2.1 k1.size)
  have H1:=Lib.hid (A7 hlg' hdk' k1 ho1 hled1 hapart hlg)
  clear hlg' hdk' k1 ho1 hled1 hapart hp1 hlg
  go_wp2_with fail
  refine hd.mono ?_
  rintro e w2 ⟨rfl,lv2,hl2,k2,ho2⟩
  clear hd
  go_wp2_with fail
  go_ret
  obtain ⟨hlg',hdk',k1,ho1,hled1,hapart,_⟩:=H1.out
  have hmlt:=HH.out.1.led.lt m (.inr (.inl rfl))
  have hmn:m≠n':=fun e=>by
   rcases ho1 n' (.inl (.inr (.inl rfl))) with e2 | e2
   ·exact hapart m (.inr (.inl rfl)) (by rw [e];exact e2)
   ·omega
  have hms:m≠s':=fun e=>by
   rcases ho1 s' (.inl (.inr (.inr (.inl rfl)))) with e2 | e2
   ·exact hapart m (.inr (.inl rfl)) (by rw [e];exact e2)
   ·omega
  have hap2:=apartG hled1 hlg' hdk' hmn hms
  refine ⟨rfl,lv2,n',s',wv',sv',lv',⟨hl2,hlg'.keep hled1.foot k2 (fun b hb hg=>hap2 b hg (.inr hb)),hdk'.keep hled1.foot k2 (fun b hb hg=>hap2 b hg (.inl hb)),HH.out.1.ok.step HH.out.2.2.1,HH.out.1.tl.push HH.out.2.2.1,hmn,hms⟩,(k1.mono (fun b _ e=>.inr e)).trans k2 (fun b _ e=>.inl e),fun b hb=>?_⟩
  rcases hb with hb | hb
  ·rcases hb with rfl | rfl | hb
   ·exact .inl (.inl (.inl rfl))
   ·exact .inl (.inl (.inr (.inl rfl)))
   ·rcases ho2 b hb with e | e
    ·exact .inl (.inl (.inr (.inr e)))
    ·exact .inr (Nat.le_trans k1.size e)
  ·rcases ho1 b hb with e | e
   ·exact .inl (.inr e)
   ·exact .inr e
 ·rw [if_neg (by decide),if_neg (by decide)] at happ
  go_enter Tryz.func58,Tryz.ntmps58
  go_wp2_with fail
  refine happ.mono ?_
  rintro e w1 ⟨rfl,n',s',wv',sv',lv',hlg',hdk',k1,ho1⟩
  clear happ
  have hapart:=HH.out.1.apart
  have hled1:=HH.out.1.led.keep HH.out.1.footL HH.out.1.footLR k1 hapart
  have H1:=Lib.hid (A6 hlg' hdk' k1 ho1 hled1 hapart)
  clear hlg' hdk' k1 ho1 hled1 hapart
  go_wp2_with fail
  go_ret
  obtain ⟨hlg',hdk',k1,ho1,hled1,hapart⟩:=H1.out
  have hmlt:=HH.out.1.led.lt m (.inr (.inl rfl))
  have hmn:m≠n':=fun e=>by
   rcases ho1 n' (.inl (.inr (.inl rfl))) with e2 | e2
   ·exact hapart m (.inr (.inl rfl)) (by rw [e];exact e2)
   ·omega
  have hms:m≠s':=fun e=>by
   rcases ho1 s' (.inl (.inr (.inr (.inl rfl)))) with e2 | e2
   ·exact hapart m (.inr (.inl rfl)) (by rw [e];exact e2)
   ·omega
  refine ⟨rfl,lv,n',s',wv',sv',lv',⟨hled1,hlg',hdk',HH.out.1.ok,HH.out.1.tl,hmn,hms⟩,k1.mono (fun b _ e=>.inr e),fun b hb=>?_⟩
  rcases hb with hb | hb
  ·exact .inl (.inl hb)
  ·rcases ho1 b hb with e | e
   ·exact .inl (.inr e)
   ·exact .inr e
end Go.Proofs.YtfdmbomlkpkegaaGreat
