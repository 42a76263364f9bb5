/- Lemmas for ReceiverNil. -/
import Derived.Test.YtfdmbomlkpkegaaGreatS35
import Derived.Test.YtfdmbomlkpkegaaGreatS34
set_option maxRecDepth 100000
set_option maxHeartbeats 8000000
set_option linter.all false
namespace Go.Proofs.YtfdmbomlkpkegaaGreat
open Go Go.RowKit Go.Dr Go.Shelf
def BRow [bn:Inhabited Ban] {α:Type} (base:Nat) (w:World) (t:TypeId) (c:Nat) (f:α->Value->List Value) (bd:α->List UInt8) (v:Value) (l:List α):Prop :=
 ∃ xs:List (α × Value),xs.map (·.1)=l/\(∀ x∈xs,Qv base w x.2 (bd x.1))/\w.ownsRow base t c v l.length (xs.flatMap fun x=>f x.1 x.2)
theorem flat_at {β:Type} (f:β->List Value) (c:Nat) (hf:∀ x,(f x).length=c):∀ {l:List β} {i j:Nat} {x:β},l[i]?=some x->j<c->(l.flatMap f)[i*c+j]?=(f x)[j]?
 | [],i,j,x,h,_=>by simp at h
 | y :: l,0,j,x,h,hj=>by
  simp at h
  subst h
  rw [List.flatMap_cons,List.getElem?_append_left (by rw [hf];omega)]
  simp
 | y :: l,i+1,j,x,h,hj=>by
  rw [List.getElem?_cons_succ] at h
  have ih:=flat_at f c hf h hj
  rw [List.flatMap_cons,List.getElem?_append_right (by rw [hf,Nat.add_mul];omega),hf,show (i+1)*c+j-c=i*c+j by rw [Nat.add_mul];omega]
  exact ih
section
variable [bn:Inhabited Ban] {α:Type} {base:Nat} {w w':World} {t:TypeId} {c:Nat} {f:α->Value->List Value} {bd:α->List UInt8} {v:Value} {l:List α}
theorem BRow.nil (base:Nat) (w:World) (t:TypeId) (c:Nat) (f:α->Value->List Value) (bd:α->List UInt8):BRow base w t c f bd (.slice none 0 0) []:=⟨[],rfl,fun x hx=>by simp at hx,World.ownsRow_nil _ _ _ _⟩
theorem BRow.form (h:BRow base w t c f bd v l):∃ ao cap,v=.slice ao l.length cap/\l.length<=cap/\cap<=maxLen:=by
 obtain ⟨xs,_,_,h3⟩:=h
 exact Kj h3
theorem BRow.kind (h:BRow base w t c f bd v l):∀ b,v.ownBlock=some b->base<=b/\∃ cur,w.heap[b]?=some (.cells cur t (0,0)):=by
 obtain ⟨xs,_,_,h3⟩:=h
 exact Qa h3
theorem BRow.keep {F:Nat->Prop} (h:BRow base w t c f bd v l) (hF:Foot base w F) (k:Keep F w w') (hn:∀ b,v.ownBlock=some b->¬F b):BRow base w' t c f bd v l:=by
 obtain ⟨xs,h1,h2,h3⟩:=h
 exact ⟨xs,h1,fun x hx=>(h2 x hx).keep hF k,Yu h3 k hn⟩
theorem BRow.no (h:BRow base w t c f bd v l) (k:Keep No w w'):BRow base w' t c f bd v l:=h.keep (Foot.no _ _) k (fun _ _ e=>e)
theorem BRow.block {g:Nat} {cs:Array Value} {t':TypeId} {fr:Nat × Nat} (h:BRow base w t c f bd v l) (hz:w.heap[g]?=some (.cells cs t' fr)) (hb:base<=g) (h8:t'≠5) (ht:t≠t') (k:Keep (·=g) w w'):BRow base w' t c f bd v l :=
 h.keep (fun b e=>by
  have e:b=g:=e
  subst e
  exact ⟨hb,Qt hz,fun cs' fr' e=>by rw [hz] at e;simp at e;exact h8 e.2.1⟩) k (fun b hb' e=>by
  obtain ⟨_,cur,hc⟩:=h.kind b hb'
  have e:b=g:=e
  rw [e,hz] at hc
  simp at hc
  exact ht hc.2.1.symm)
theorem BRow.at' {ao:Option Addr} {n cap i:Nat} {x:α} (h:BRow base w t c f bd (.slice ao n cap) l) (hf:∀ y u,(f y u).length=c) (hi:l[i]?=some x) :
  ∃ g u,ao=some ⟨g,0,none⟩/\Qv base w u (bd x)/\base<=g/\g<w.heap.size/\∀ (j:Nat) z,(f x u)[j]?=some z->w.cell? ⟨g,i*c+j,none⟩=some z:=by
 obtain ⟨xs,rfl,h2,h3,h4⟩:=h
 rw [List.getElem?_map] at hi
 cases hx:xs[i]? with
 | none=>rw [hx] at hi;simp at hi
 | some y =>
  rw [hx] at hi
  simp at hi
  subst hi
  have hi:=(List.getElem?_eq_some_iff.1 hx).1
  have hn:0<(xs.map (·.1)).length:=by rw [List.length_map];omega
  rcases h4 with ⟨_,e⟩ | ⟨g,cap',cur,e,hg,hz,h5,h6,h7,h8⟩
  ·omega
  ·simp only [Value.slice.injEq] at e
   obtain ⟨rfl,_,_⟩:=e
   refine ⟨g,y.2,rfl,h2 y (List.mem_of_getElem? hx),hg,Qt hz,fun j z hj=>?_⟩
   have hjc:j<c:=by rw [<- hf y.1 y.2];exact (List.getElem?_eq_some_iff.1 hj).1
   have h9:=flat_at (fun x:α × Value=>f x.1 x.2) c (fun x=>hf x.1 x.2) hx hjc
   rw [hj,<- h8,List.getElem?_take] at h9
   split at h9
   ·rw [Qq hz]
    simpa using h9
   ·simp at h9
end
section
variable [bn:Inhabited Ban] {α:Type} {base:Nat} {w:World} {te:TypeId} {c:Nat} {f:α->Value->List Value} {bd:α->List UInt8} {v:Value} {l:List α} {ops:Array Oper} {rest:List Oper} {o:Oper} {a:Act} {Q:Exit->Act->World->Prop}
theorem row_up {w:World} {base B:Nat} {te:TypeId} {c n:Nat} {v:Value} {cs:List Value} (h:w.ownsRow base te c v n cs) (hB:∀ b,v.ownBlock=some b->B<=b):w.ownsRow B te c v n cs:=by
 refine ⟨h.1,?_⟩
 rcases h.2 with h | ⟨g,cap,cur,rfl,h1,h2,h3⟩
 ·exact .inl h
 ·exact .inr ⟨g,cap,cur,rfl,hB g rfl,h2,h3⟩
theorem wpList_append_brow (hg:o.guard=none) (s x:Operand) (ts:TypeId) (ho:o.op=.call { callee:=.builtin .append,args:=#[s,x],argTypes:=#[ts,ts] }) (hu:Tryz.prog.underlying ts=some (.slice te)) {z:Value} {bytes:Nat}
  (hi:(Tryz.prog.info? te).map (fun i=>(i.zero,i.size,i.bytes))=some (some z,c,bytes)) (hzs:z.cells.size=c) (hc:0<c) (hby:bytes<=64) (hte:te≠5) (h:BRow base w te c f bd v l) (hs:a.eval s=v) {D:Nat} {y:α} {u:Value} {cy:Array Value}
  (hD:w.heap[D]?=some (.cells cy te (0,0))) (hcy:cy.toList=f y u) (h1:∀ q∈f y u,q.oneCell'=true) (hf:(f y u).length=c) (hx:a.eval x=.slice (some ⟨D,0,none⟩) 1 1) (hub:Qv base w u (bd y)) (hl:l.length<=1099511627776) (hb:base<=w.heap.size) {B:Nat} (hbB:base<=B) (hB:∀ b,v.ownBlock=some b->B<=b) (hBw:B<=w.heap.size)
  (hK:∀ vo vc w',BRow base w' te c f bd (.slice vo (l.length+1) vc) (l++[y])->(∀ b,(Value.slice vo (l.length+1) vc).ownBlock=some b->B<=b)->Keep (fun b=>v.ownBlock=some b) w w'->wpList Tryz.prog ops Q rest (a.put o.dst (.slice vo (l.length+1) vc)) w'):wpList Tryz.prog ops Q (o :: rest) a w:=by
 obtain ⟨xs,h2,h3,h4⟩:=h
 obtain ⟨i0,hi0,hz0,hz1,hz2⟩:=info_parts hi
 refine wpList_plain hg fun K hK'=>?_
 refine wp_append_lies w s x ts ho B te i0 _ c bytes hu hi0 hz0 hz1 hz2 hzs hc v l.length _ hs (row_up h4 hB)
  ⟨D,0,none⟩ 1 1 (f y u) hx (by rw [hf];omega) (by rw [<- hcy];exact World.news_of_block hD) h1 (by omega) (by unfold maxLen;omega) (Nat.le_trans (Nat.mul_le_mul_left _ hby) (by omega)) hBw w.heap.size rfl ?_
 intro g cap w' hown hgr hat hlt
 have k:=Jr hgr
 have hF:=ownRow_foot h4 (Nat.le_refl _) hte
 refine hK' _ _ (hK _ _ _ ⟨xs++[(y,u)],by simp [h2],fun q hq=>?_,?_⟩ (fun b hb=>(Qa hown b hb).1) k)
 ·rcases List.mem_append.1 hq with hq | hq
  ·exact (h3 q hq).keep hF k
  ·rw [List.mem_singleton.1 hq];exact hub.keep hF k
 ·rw [List.flatMap_append,List.length_append]
  have hown':=row_up hown (B:=base) (fun b hb=>Nat.le_trans hbB (Qa hown b hb).1)
  simpa using hown'
theorem wpList_append_all (hg:o.guard=none) (s x:Operand) (ts:TypeId) (ho:o.op=.call { callee:=.builtin .append,args:=#[s,x],argTypes:=#[ts,ts] }) (hu:Tryz.prog.underlying ts=some (.slice te)) {z:Value} {bytes:Nat}
  (hi:(Tryz.prog.info? te).map (fun i=>(i.zero,i.size,i.bytes))=some (some z,c,bytes)) (hzs:z.cells.size=c) (hc:0<c) (hby:bytes<=64) (hte:te≠5) (hf:∀ y u,(f y u).length=c) (h1:∀ y u,u.oneCell'=true->∀ q∈f y u,q.oneCell'=true) {B:Nat} {ve:Value} (he:w.ownsRow B te c ve 0 []) (hB:base<=B) (hBw:B<=w.heap.size) (hs:a.eval s=ve)
  (h:BRow base w te c f bd v l) (hx:a.eval x=v) (hl:l.length<=1099511627776)
  (hK:∀ v' w',BRow base w' te c f bd v' l->(∀ b,v'.ownBlock=some b->B<=b)->Keep (fun b=>ve.ownBlock=some b) w w'->wpList Tryz.prog ops Q rest (a.put o.dst v') w'):wpList Tryz.prog ops Q (o :: rest) a w:=by
 obtain ⟨xs,h2,h3,h4⟩:=h
 obtain ⟨i0,hi0,hz0,hz1,hz2⟩:=info_parts hi
 have hF:Foot base w (fun b=>ve.ownBlock=some b):=fun b hb=>by
  obtain ⟨g1,cur,hz⟩:=Qa he b hb
  exact ⟨by omega,Qt hz,fun cs fr e=>by rw [hz] at e;simp at e;exact hte e.2.1⟩
 refine wpList_plain hg fun K hK'=>?_
 have h4':=h4
 obtain ⟨hcs,hsrc⟩:=h4
 rcases hsrc with ⟨hv,hn⟩ | ⟨g,cap,cur,hv,hgb,hz,hnc,hcm,hcsz,htk⟩
 ·have hl0:l=[]:=List.eq_nil_of_length_eq_zero hn
  subst hl0
  subst hv
  have hrun:=run_append_owned_none (P:=Tryz.prog) w B ts o.type te i0 c hu hi0 ve 0 [] he
  unfold Oper.wp
  simp [execOp,ho,resolve,invoke,builtin,hs,hx,hrun,Result.andThen]
  refine hK' _ _ (hK ve w ⟨[],rfl,fun q hq=>by simp at hq,he.1,?_⟩ (fun b hb=>(Qa he b hb).1) (Keep.refl _ _))
  rcases he.2 with he | ⟨g,cap,cur,e1,e2,e3⟩
  ·exact .inl he
  ·exact .inr ⟨g,cap,cur,e1,by omega,e3⟩
 ·subst hv
  obtain ⟨v',w',hrun,h5,h6,_⟩:=run_append_own (P:=Tryz.prog) w B ts o.type te i0 z c bytes hu hi0 hz0 hz1 hz2 hzs hc ve 0 [] he
   ⟨g,0,none⟩ l.length cap (xs.flatMap fun x=>f x.1 x.2) hcs (fun j y hj=>by
    have hadd:(⟨g,0,none⟩:Addr).add j=⟨g,0+j,none⟩:=by unfold Addr.add;split <;> simp_all
    rw [hadd,Qq hz,Nat.zero_add]
    rw [<- htk,List.getElem?_take] at hj
    split at hj
    ·simpa using hj
    ·simp at hj) (fun q hq=>by
    obtain ⟨x,hx,hq⟩:=List.mem_flatMap.1 hq
    obtain ⟨uo,uc,e⟩:=(h3 x hx).form
    exact h1 x.1 x.2 (by rw [e];rfl) q hq) (by unfold maxLen;omega) (Nat.le_trans (Nat.mul_le_mul_left _ hby) (by omega)) hBw
  unfold Oper.wp
  simp [execOp,ho,resolve,invoke,builtin,hs,hx,hrun,Result.andThen]
  have k:=Jr h6
  refine hK' _ _ (hK v' w' ⟨xs,h2,fun q hq=>(h3 q hq).keep hF k,?_⟩ (fun b hb=>(Qa h5 b hb).1) k)
  have h5':w'.ownsRow B te c v' l.length (xs.flatMap fun x=>f x.1 x.2):=by simpa using h5
  refine ⟨h5'.1,?_⟩
  rcases h5'.2 with he | ⟨g,cap,cur,e1,e2,e3⟩
  ·exact .inl he
  ·exact .inr ⟨g,cap,cur,e1,by omega,e3⟩
end
def ditCell (x:Qc) (u:Value):List Value:=[.int .u64 x.n,.int .i64 x.s.c,u]
def Gs [bn:Inhabited Ban] (base:Nat) (w:World) (v:Value) (l:List Qc):Prop:=BRow base w 206 3 ditCell (·.s.body) v l
def Hy [bn:Inhabited Ban] (base:Nat) (w:World) (v:Value) (l:List RecS):Prop:=BRow base w 175 4 Jd (·.s.body) v l
theorem info_dit:(Tryz.prog.info? 206).map (fun i=>(i.zero,i.size,i.bytes))=some (some (.agg #[.int .u64 0,.int .i64 0,.slice none 0 0]),3,40):=by kernel_rfl
theorem info_drec:(Tryz.prog.info? 175).map (fun i=>(i.zero,i.size,i.bytes))=some (some (.agg #[.int .i64 0,.int .u64 0,.int .i64 0,.slice none 0 0]),4,48):=by kernel_rfl
theorem Hw {cs:Array Value} {j:Nat} {u:Value} (h:∀ (i:Nat) (v:Value),cs[i]?=some v->v.oneCell'=true) (hu:u.oneCell'=true):∀ (i:Nat) (v:Value),(cs.setIfInBounds j u)[i]?=some v->v.oneCell'=true:=fun i v hv=>by
 rw [Array.getElem?_setIfInBounds] at hv
 split at hv
 ·split at hv
  ·simp at hv;subst hv;exact hu
  ·simp at hv
 ·exact h i v hv
theorem Zt {cs:Array Value} {i j:Nat} {u:Value} (h:i≠j):(cs.setIfInBounds j u)[i]?=cs[i]?:=by rw [Array.getElem?_setIfInBounds,if_neg (fun e=>h e.symm)]
theorem Gn {cs:Array Value} {j:Nat} {u:Value} (h:j<cs.size):(cs.setIfInBounds j u)[j]?=some u:=by rw [Array.getElem?_setIfInBounds,if_pos rfl,if_pos h]
structure StAt [bn:Inhabited Ban] (base:Nat) (w:World) (cs:Array Value) (inc:Nat) (now:List (Nat × WinS)) (recs:List RecS) (k:Nat):Prop where
 size:cs.size=66
 one:∀ (i:Nat) (v:Value),cs[i]?=some v->v.oneCell'=true
 len:now.length=16
 inc:cs[0]?=some (u64v inc)
 ags:∀ (a:Nat) g,now[a]?=some g->cs[1+a]?=some (u64v g.1)/\cs[17+a*3]?=some (u64v g.2.low)/\cs[17+a*3+1]?=some (u64v g.2.width)/\∃ v,cs[17+a*3+2]?=some v/\DocW w v g.2 k
 recs:∃ lv,cs[65]?=some lv/\Hy base w lv recs
section
variable [bn:Inhabited Ban] {base:Nat} {w w':World} {cs:Array Value} {inc k:Nat} {now:List (Nat × WinS)} {recs:List RecS}
theorem StAt.no (h:StAt base w cs inc now recs k) (kk:Keep No w w'):StAt base w' cs inc now recs k:=by
 obtain ⟨lv,h1,h2⟩:=h.recs
 refine ⟨h.size,h.one,h.len,h.inc,fun a g hg=>?_,lv,h1,h2.no kk⟩
 obtain ⟨e1,e2,e3,v,e4,e5⟩:=h.ags a g hg
 exact ⟨e1,e2,e3,v,e4,e5.no kk⟩
theorem StAt.keep {F:Nat->Prop} (h:StAt base w cs inc now recs k) (kk:Keep F w w') (hF:∀ x,F x->base<=x/\∃ cs',w.heap[x]?=some (.cells cs' 168 (0,0))):StAt base w' cs inc now recs k:=by
 obtain ⟨lv,h1,h2⟩:=h.recs
 have hFt:Foot base w F:=fun x hx=>by
  obtain ⟨e1,cs',e2⟩:=hF x hx
  exact ⟨e1,Qt e2,fun cs fr e=>by rw [e2] at e;simp at e⟩
 refine ⟨h.size,h.one,h.len,h.inc,fun a g hg=>?_,lv,h1,h2.keep hFt kk (fun b hb hf=>?_)⟩
 ·obtain ⟨e1,e2,e3,v,e4,l,e5,e6,e7⟩:=h.ags a g hg
  refine ⟨e1,e2,e3,v,e4,l,e5.keep kk (fun b hb hf=>?_),e6,e7⟩
  obtain ⟨_,cur,hz⟩:=e5.kind b hb
  obtain ⟨_,cs',hz'⟩:=hF b hf
  rw [hz] at hz'
  simp at hz'
 ·obtain ⟨_,cur,hz⟩:=h2.kind b hb
  obtain ⟨_,cs',hz'⟩:=hF b hf
  rw [hz] at hz'
  simp at hz'
theorem StAt.all (h:StAt base w cs inc now recs k):cs.all (·.oneCell')=true:=by
 rw [Array.all_eq_true]
 intro i hi
 exact h.one i _ (Array.getElem?_eq_getElem hi)
theorem StAt.info (h:StAt base w cs inc now recs k):(Tryz.prog.info? 168).map (·.size)=some cs.size:=by rw [h.size];exact info_state
theorem StAt.setInc (h:StAt base w cs inc now recs k) (n:Nat):StAt base w (cs.setIfInBounds 0 (.int .u64 n)) n now recs k:=by
 obtain ⟨lv,h1,h2⟩:=h.recs
 refine ⟨by simp [h.size],Hw h.one rfl,h.len,Gn (by rw [h.size];decide),fun a g hg=>?_,lv,by rw [Zt (by decide)];exact h1,h2⟩
 obtain ⟨e1,e2,e3,v,e4,e5⟩:=h.ags a g hg
 exact ⟨by rw [Zt (by omega)];exact e1,by rw [Zt (by omega)];exact e2,by rw [Zt (by omega)];exact e3,v,by rw [Zt (by omega)];exact e4,e5⟩
theorem StAt.setFloor (h:StAt base w cs inc now recs k) {a n:Nat} (ha:a<16):StAt base w (cs.setIfInBounds (1+a) (.int .u64 n)) inc (now.modify a (fun x=>(n,x.2))) recs k:=by
 obtain ⟨lv,h1,h2⟩:=h.recs
 refine ⟨by simp [h.size],Hw h.one rfl,by simp [h.len],by rw [Zt (by omega)];exact h.inc,fun b g hg=>?_,lv,by rw [Zt (by omega)];exact h1,h2⟩
 have hb:=(List.getElem?_eq_some_iff.1 hg).1
 rw [List.length_modify,h.len] at hb
 rw [List.getElem?_modify] at hg
 cases hx:now[b]? with
 | none=>rw [hx] at hg;simp at hg
 | some y =>
  rw [hx] at hg
  simp at hg
  obtain ⟨e1,e2,e3,v,e4,e5⟩:=h.ags b y hx
  by_cases hab:a=b
  ·subst hab
   simp at hg
   subst hg
   exact ⟨Gn (by rw [h.size];omega),by rw [Zt (by omega)];exact e2,by rw [Zt (by omega)];exact e3,v,by rw [Zt (by omega)];exact e4,e5⟩
  ·simp [hab] at hg
   subst hg
   exact ⟨by rw [Zt (by omega)];exact e1,by rw [Zt (by omega)];exact e2,by rw [Zt (by omega)];exact e3,v,by rw [Zt (by omega)];exact e4,e5⟩
theorem StAt.setPut (h:StAt base w cs inc now recs k) {a:Nat} (ha:a<16) {y:WinS} {vo:Option Addr} {vn vc:Nat} {lo:Option Addr} {ln lc:Nat} {recs':List RecS} {k':Nat} (hk:k<=k') (hd:DocW w (.slice vo vn vc) y k') (hr:Hy base w (.slice lo ln lc) recs') :
  StAt base w ((((cs.setIfInBounds (17+a*3) (.int .u64 y.low)).setIfInBounds (17+a*3+1) (.int .u64 y.width)).setIfInBounds (17+a*3+2) (.slice vo vn vc)).setIfInBounds 65 (.slice lo ln lc)) inc (now.modify a (fun x=>(x.1,y))) recs' k':=by
 refine ⟨by simp [h.size],Hw (Hw (Hw (Hw h.one rfl) rfl) rfl) rfl,by simp [h.len],by rw [Zt (by omega),Zt (by omega),Zt (by omega),Zt (by omega)];exact h.inc,fun b g hg=>?_,_,Gn (by simp [h.size]),hr⟩
 have hb:=(List.getElem?_eq_some_iff.1 hg).1
 rw [List.length_modify,h.len] at hb
 rw [List.getElem?_modify] at hg
 cases hx:now[b]? with
 | none=>rw [hx] at hg;simp at hg
 | some z =>
  rw [hx] at hg
  simp at hg
  obtain ⟨e1,e2,e3,v,e4,e5⟩:=h.ags b z hx
  by_cases hab:a=b
  ·subst hab
   simp at hg
   subst hg
   refine ⟨by rw [Zt (by omega),Zt (by omega),Zt (by omega),Zt (by omega)];exact e1,by rw [Zt (by omega),Zt (by omega),Zt (by omega),Gn (by rw [h.size];omega)];rfl,by rw [Zt (by omega),Zt (by omega),Gn (by simp [h.size];omega)];rfl,_,by rw [Zt (by omega),Gn (by simp [h.size];omega)],hd⟩
  ·simp [hab] at hg
   subst hg
   exact ⟨by rw [Zt (by omega),Zt (by omega),Zt (by omega),Zt (by omega)];exact e1,by rw [Zt (by omega),Zt (by omega),Zt (by omega),Zt (by omega)];exact e2,by rw [Zt (by omega),Zt (by omega),Zt (by omega),Zt (by omega)];exact e3,v,by rw [Zt (by omega),Zt (by omega),Zt (by omega),Zt (by omega)];exact e4,e5.mono hk⟩
theorem StAt.start (base width:Nat) (w:World) (k:Nat):StAt base w (Yt width 16).toArray 0 (LedS.start width).now [] k:=by
 have hs:(Yt width 16).toArray.size=66:=by have:=stStart_size width 16 (by decide);simpa using this
 have hall:=stStart_one width 16
 rw [Array.all_eq_true] at hall
 refine ⟨hs,fun i v hv=>?_,by simp [LedS.now,LedS.start],rfl,fun a g hg=>?_,.slice none 0 0,rfl,BRow.nil _ _ _ _ _ _⟩
 ·obtain ⟨hi,rfl⟩:=Array.getElem?_eq_some_iff.1 hv
  exact hall i hi
 ·have hm:g=(0,WinS.new width):=by
   unfold LedS.now LedS.start at hg
   rw [List.getElem?_map] at hg
   cases hx:(List.replicate 16 (⟨0,WinS.new width,⟨0,0,[]⟩⟩:AgS))[a]? with
   | none=>rw [hx] at hg;simp at hg
   | some z =>
    rw [hx] at hg
    have:=List.eq_of_mem_replicate (List.mem_of_getElem? hx)
    subst this
    simpa using hg.symm
  have ha:a<16:=by
   have:=(List.getElem?_eq_some_iff.1 hg).1
   simpa [LedS.now,LedS.start] using this
  subst hm
  have hd:=DocW.nil w 0 width k
  match a,ha with
  | 0,_=>exact ⟨rfl,rfl,rfl,_,rfl,hd⟩
  | 1,_=>exact ⟨rfl,rfl,rfl,_,rfl,hd⟩
  | 2,_=>exact ⟨rfl,rfl,rfl,_,rfl,hd⟩
  | 3,_=>exact ⟨rfl,rfl,rfl,_,rfl,hd⟩
  | 4,_=>exact ⟨rfl,rfl,rfl,_,rfl,hd⟩
  | 5,_=>exact ⟨rfl,rfl,rfl,_,rfl,hd⟩
  | 6,_=>exact ⟨rfl,rfl,rfl,_,rfl,hd⟩
  | 7,_=>exact ⟨rfl,rfl,rfl,_,rfl,hd⟩
  | 8,_=>exact ⟨rfl,rfl,rfl,_,rfl,hd⟩
  | 9,_=>exact ⟨rfl,rfl,rfl,_,rfl,hd⟩
  | 10,_=>exact ⟨rfl,rfl,rfl,_,rfl,hd⟩
  | 11,_=>exact ⟨rfl,rfl,rfl,_,rfl,hd⟩
  | 12,_=>exact ⟨rfl,rfl,rfl,_,rfl,hd⟩
  | 13,_=>exact ⟨rfl,rfl,rfl,_,rfl,hd⟩
  | 14,_=>exact ⟨rfl,rfl,rfl,_,rfl,hd⟩
  | 15,_=>exact ⟨rfl,rfl,rfl,_,rfl,hd⟩
  | a+16,ha=>omega
end
theorem r16number_spec [bn:Inhabited Ban] {base:Nat} {w:World} {b:Nat} {pv:Value} {p rest:List UInt8} {at_ n:Nat} (h:DIn base w b pv p at_ (numB n++rest)) (hn:n<2305843009213693952) :
  Calls Tryz.prog 177 #[.pointer (some ⟨b,0,none⟩)] w fun e w'=>e=.returned (.int .u64 n)/\DIn base w' b pv p (at_+(numB n).length) rest/\Keep (·=b) w w':=by
 have hnm:=r2Number_spec h (by omega)
 have q1:((2305843009213693952:Int)<=(n:Int))=False:=eq_false (by omega)
 clear h hn
 go_enter Tryz.func177,Tryz.ntmps177
 go_wp2_with (go_at_call 180;refine hnm.mono ?_;rintro e w1 ⟨rfl,hD,k⟩)
 go_ret
 exact ⟨rfl,hD,k⟩
theorem r16who_spec [bn:Inhabited Ban] {base:Nat} {w:World} {b:Nat} {pv:Value} {p rest:List UInt8} {at_ a:Nat} (h:DIn base w b pv p at_ (numB a++rest)) (ha:a<16) :
  Calls Tryz.prog 179 #[.pointer (some ⟨b,0,none⟩)] w fun e w'=>e=.returned (.int .i64 a)/\DIn base w' b pv p (at_+(numB a).length) rest/\Keep (·=b) w w':=by
 have hnm:=r2Number_spec h (by omega)
 have q1:¬(15:Int)<(a:Int):=by omega
 have q2:IntKind.i64.wrap (a:Int)=(a:Int):=by rw [IntKind.wrap_i64];omega
 clear h ha
 go_enter Tryz.func179,Tryz.ntmps179
 go_wp2_with (go_at_call 180;refine hnm.mono ?_;rintro e w1 ⟨rfl,hD,k⟩)
 go_ret
 exact ⟨rfl,hD,k⟩
theorem StAt.keep_in [bn:Inhabited Ban] {base:Nat} {w w':World} {cs:Array Value} {inc k c:Nat} {now:List (Nat × WinS)} {recs:List RecS} {ci:Array Value} {t:TypeId} (h:StAt base w cs inc now recs k) (kk:Keep (·=c) w w') (hz:w.heap[c]?=some (.cells ci t (0,0))) (hb:base<=c) (h8:t≠5) (h64:t≠27) (hr:175≠t):StAt base w' cs inc now recs k:=by
 obtain ⟨lv,h1,h2⟩:=h.recs
 refine ⟨h.size,h.one,h.len,h.inc,fun a g hg=>?_,lv,h1,BRow.block h2 hz hb h8 hr kk⟩
 obtain ⟨e1,e2,e3,v,e4,e5⟩:=h.ags a g hg
 exact ⟨e1,e2,e3,v,e4,e5.block hz h64 kk⟩
theorem one_done [bn:Inhabited Ban] {base:Nat} {w W:World} {A B:Nat} {cs:Array Value} {inc k:Nat} {now:List (Nat × WinS)} {recs:List RecS} {zs:Array Value} (hk:Keep No w W) (h:StAt base W cs inc now recs k) (_hA:W.heap[A]?=some (.cells cs 168 (0,0))) (hB:W.heap[B]?=some (.cells zs 168 (0,0))) (hwB:w.heap.size<=B) (hb:base<=B) :
  (W.setRow B cs).heap[B]?=some (.cells cs 168 (0,0))/\StAt base (W.setRow B cs) cs inc now recs k/\Keep No w (W.setRow B cs) :=
 ⟨setRow_heap W B _ cs _ _ hB,h.keep (Zi W B cs) (fun x e=>by have e:x=B:=e;subst e;exact ⟨hb,_,hB⟩),hk.absorb (Zi W B cs) (fun x e=>by have e:x=B:=e;omega)⟩
theorem one_blocks [bn:Inhabited Ban] {base:Nat} {w:World} {cs:Array Value} {inc k:Nat} {now:List (Nat × WinS)} {recs:List RecS} {po:Option Addr} {pc:Nat} {p:List UInt8} (h:StAt base w cs inc now recs k) (hp:Qv base w (.slice po p.length pc) p) (hb:base<=w.heap.size) (hl:p.length<=1099511627776) :
  ∃ W,W=((w.alloc (.cells cs 168)).alloc (.cells Tryz.zeroCells168 168)).alloc (.cells #[.slice po p.length pc,.int .i64 0,.int .i64 0] 287)/\Keep No w W/\W.heap.size=w.heap.size+1+1+1/\W.heap[w.heap.size]?=some (.cells cs 168 (0,0)) /\
   W.heap[w.heap.size+1]?=some (.cells Tryz.zeroCells168 168 (0,0))/\DIn base W (w.heap.size+1+1) (.slice po p.length pc) p 0 p/\StAt base W cs inc now recs k:=by
 have kW:Keep No w (((w.alloc (.cells cs 168)).alloc (.cells Tryz.zeroCells168 168)).alloc (.cells #[.slice po p.length pc,.int .i64 0,.int .i64 0] 287)):=(((Keep.refl _ _).alloc _).alloc _).alloc _
 refine ⟨_,rfl,kW,by simp,(((Keep.refl No _).alloc _).alloc _).heap (Qy w _) (fun e=>e),?_,⟨?_,hp.no kW,Nat.zero_le _,rfl,by omega,hl⟩,h.no kW⟩
 ·have:=Qy (w.alloc (.cells cs 168)) (.cells Tryz.zeroCells168 168)
  rw [World.size_alloc] at this
  exact ((Keep.refl No _).alloc _).heap this (fun e=>e)
 ·have:=Qy ((w.alloc (.cells cs 168)).alloc (.cells Tryz.zeroCells168 168)) (.cells #[.slice po p.length pc,.int .i64 0,.int .i64 0] 287)
  rw [World.size_alloc,World.size_alloc] at this
  exact this
theorem r16one_inc [bn:Inhabited Ban] {base:Nat} {w:World} {cs:Array Value} {inc k n:Nat} {now:List (Nat × WinS)} {recs:List RecS} {pv:Value} (h:StAt base w cs inc now recs k) (hp:Qv base w pv (LRec.inc n).bytes) (hi:inc<n) (hn:n<2305843009213693952) (hb:base<=w.heap.size) :
  Calls Tryz.prog 127 #[.agg cs,pv] w fun e w'=>∃ cs',e=.returned (.tuple #[.agg cs',.bool true])/\StAt base w' cs' n now recs k/\Keep No w w':=by
 obtain ⟨po,pc,rfl⟩:=hp.form
 have HH:=Lib.hid (A5 h hp hi hn hb)
 clear h hp hi hn hb
 go_enter Tryz.func127,Tryz.ntmps127
 obtain ⟨W,hW,kW,hsz,hA,hB,hD,hS⟩:=one_blocks HH.out.1 HH.out.2.1 HH.out.2.2.2.2 (by have:=Qp (n:=n) (by have:=HH.out.2.2.2.1;omega);simp [LRec.bytes];omega)
 obtain ⟨A,hAe⟩:∃ A,A=w.heap.size:=⟨_,rfl⟩
 obtain ⟨B,hBe⟩:∃ B,B=w.heap.size+1:=⟨_,rfl⟩
 obtain ⟨C,hCe⟩:∃ C,C=w.heap.size+1+1:=⟨_,rfl⟩
 rw [<- hAe] at hA
 rw [<- hBe] at hB
 rw [<- hCe] at hD
 have hby:=r2Byte_spec hD
 obtain ⟨pl,hpl⟩:∃ pl,pl=(LRec.inc n).bytes.length:=⟨_,rfl⟩
 have hAC:¬A=C:=by omega
 have hBC:¬B=C:=by omega
 have hBA:¬B=A:=by omega
 have HW:=Lib.hid (A8 kW hA hB hS hAe hBe hCe hD)
 have hge:base<=A:=by rw [hAe];exact HH.out.2.2.2.2
 go_upto_region 2 with fail
 rw [<- hW]
 rw [<- hCe,<- hBe,<- hAe]
 clear hW kW hA hB hD hS hsz hCe hBe hAe
 go_upto_region 3 with (go_at_call 176;refine hby.mono ?_;rintro e w1 ⟨rfl,hD1,k1⟩)
 clear hby
 have hnm:=r16number_spec (rest:=[]) (n:=n) (by rw [List.append_nil];exact hD1) HH.out.2.2.2.1
 have H1:=Lib.hid k1
 clear hD1 k1
 go_upto_region 5 with (go_at_call 177;refine hnm.mono ?_;rintro e w2 ⟨rfl,hD2,k2⟩)
 clear hnm
 have hen:=r2End_spec hD2
 have k02:=H1.out.trans k2 (fun _ _ e=>e)
 have hA2:=k02.heap HW.out.2.1 hAC
 have hB2:=k02.heap HW.out.2.2.1 hBC
 have hS2:StAt base w2 cs inc now recs k:=HW.out.2.2.2.1.keep_in k02 HW.out.2.2.2.2.2.2.2.blk HW.out.2.2.2.2.2.2.2.bb (by decide) (by decide) (by decide)
 have H2:=Lib.hid (A4 k02 hA2 hB2 hS2)
 clear hD2 k2 k02 hA2 hB2 hS2
 have q1:(inc:Int)<(n:Int):=by have:=HH.out.2.2.1;omega
 go_upto_region 6 with (go_at_call 178;refine hen.mono ?_;rintro e w3 ⟨rfl,k3⟩;have hA3:=k3.heap H2.out.2.1 (fun e=>e);have a0:=Qq hA3 0;rw [H2.out.2.2.2.inc] at a0;have fA:=Qg hA3;unfold u64v at a0)
 have hS3:=H2.out.2.2.2.no k3
 have hB3:=k3.heap H2.out.2.2.1 (fun e=>e)
 have k4:Keep (·=A) w3 (w3.setCell ⟨A,0,none⟩ (.int .u64 n)):=Qd _ _
 have hA4:=Qz (i:=0) (u:=.int .u64 n) hA3
 have hS4:=(hS3.keep k4 (fun x e=>by have e:x=A:=e;subst e;exact ⟨hge,_,hA3⟩)).setInc n
 have hB4:=k4.heap hB3 hBA
 have hkk:Keep No w (w3.setCell ⟨A,0,none⟩ (.int .u64 n)):=((HW.out.1.absorb H2.out.1 (fun x e=>by have e:x=C:=e;have:=HW.out.2.2.2.2.2.2.1;omega)).then k3).absorb k4 (fun x e=>by have e:x=A:=e;have:=HW.out.2.2.2.2.1;omega)
 have hdn:=one_done hkk hS4 hA4 hB4 (by have:=HW.out.2.2.2.2.2.1;omega) (by have:=HW.out.2.2.2.2.2.1;have:=HH.out.2.2.2.2;omega)
 obtain ⟨W4,hW4⟩:∃ W4,W4=w3.setCell ⟨A,0,none⟩ (.int .u64 n):=⟨_,rfl⟩
 obtain ⟨cs1,hcs1⟩:∃ cs1,cs1=cs.setIfInBounds 0 (.int .u64 n):=⟨_,rfl⟩
 rw [<- hW4,<- hcs1] at hA4 hS4 hdn
 rw [<- hW4] at hB4
 have HX:=Lib.hid hdn
 clear hS3 hB3 k4 hdn hA3 k3 hkk
 go_upto_region 7 with fail
 rw [<- hW4]
 clear hW4 hcs1 fA a0
 go_wp2_with (first | (refine wpList_load_row rfl 168 _ rfl A rfl 168 cs1 (0,0) _ hA4 Tryz.underlying168 rfl hS4.info ?_) | (refine wpList_store_row rfl 168 _ _ rfl B cs1 rfl rfl 168 _ hB4 hS4.info (by rw [hS4.size];rfl) hS4.all ?_))
 refine bodyPost_ret (v:=.tuple #[.agg cs1,.bool true]) (Jl rfl _ _ B 168 cs1 (0,0) _ _ rfl rfl HX.out.1 Tryz.underlying168 rfl hS4.info) rfl ⟨cs1,rfl,HX.out.2.1,HX.out.2.2⟩
theorem r16one_floor [bn:Inhabited Ban] {base:Nat} {w:World} {cs:Array Value} {inc k a n fl:Nat} {wn:WinS} {now:List (Nat × WinS)} {recs:List RecS} {pv:Value} (h:StAt base w cs inc now recs k) (hp:Qv base w pv (LRec.floor a n).bytes) (ha:a<16) (hg:now[a]?=some (fl,wn)) (hi:fl<n) (hn:n<2305843009213693952) (hb:base<=w.heap.size) :
  Calls Tryz.prog 127 #[.agg cs,pv] w fun e w'=>∃ cs',e=.returned (.tuple #[.agg cs',.bool true])/\StAt base w' cs' inc (now.modify a (fun x=>(n,x.2))) recs k/\Keep No w w':=by
 obtain ⟨po,pc,rfl⟩:=hp.form
 have HH:=Lib.hid (A7 h hp hi hn hb ha hg)
 clear h hp hi hn hb ha hg
 go_enter Tryz.func127,Tryz.ntmps127
 obtain ⟨W,hW,kW,hsz,hA,hB,hD,hS⟩:=one_blocks HH.out.1 HH.out.2.1 HH.out.2.2.2.2.1 (by have:=Qp (n:=a) (by have:=HH.out.2.2.2.2.2.1;omega);have:=Qp (n:=n) (by have:=HH.out.2.2.2.1;omega);simp [LRec.bytes];omega)
 obtain ⟨A,hAe⟩:∃ A,A=w.heap.size:=⟨_,rfl⟩
 obtain ⟨B,hBe⟩:∃ B,B=w.heap.size+1:=⟨_,rfl⟩
 obtain ⟨C,hCe⟩:∃ C,C=w.heap.size+1+1:=⟨_,rfl⟩
 rw [<- hAe] at hA
 rw [<- hBe] at hB
 rw [<- hCe] at hD
 have hby:=r2Byte_spec hD
 obtain ⟨pl,hpl⟩:∃ pl,pl=(LRec.floor a n).bytes.length:=⟨_,rfl⟩
 have hAC:¬A=C:=by omega
 have hBC:¬B=C:=by omega
 have hBA:¬B=A:=by omega
 have HW:=Lib.hid (A8 kW hA hB hS hAe hBe hCe hD)
 have hge:base<=A:=by rw [hAe];exact HH.out.2.2.2.2.1
 go_upto_region 2 with fail
 rw [<- hW]
 rw [<- hCe,<- hBe,<- hAe]
 clear hW kW hA hB hD hS hsz hCe hBe hAe
 go_upto_region 3 with (go_at_call 176;refine hby.mono ?_;rintro e w1 ⟨rfl,hD1,k1⟩)
 clear hby
 have hwh:=r16who_spec (rest:=numB n) (a:=a) hD1 HH.out.2.2.2.2.2.1
 have H1:=Lib.hid k1
 clear hD1 k1
 go_upto_region 10 with (go_at_call 179;refine hwh.mono ?_;rintro e w2 ⟨rfl,hD2,k2⟩)
 clear hwh
 have hnm:=r16number_spec (rest:=[]) (n:=n) (by rw [List.append_nil];exact hD2) HH.out.2.2.2.1
 have H1:=Lib.hid (H1.out.trans k2 (fun _ _ e=>e))
 clear hD2 k2
 go_upto_region 11 with (go_at_call 177;refine hnm.mono ?_;rintro e w2 ⟨rfl,hD2,k2⟩)
 clear hnm
 have hen:=r2End_spec hD2
 have k02:=H1.out.trans k2 (fun _ _ e=>e)
 have hA2:=k02.heap HW.out.2.1 hAC
 have hB2:=k02.heap HW.out.2.2.1 hBC
 have hS2:StAt base w2 cs inc now recs k:=HW.out.2.2.2.1.keep_in k02 HW.out.2.2.2.2.2.2.2.blk HW.out.2.2.2.2.2.2.2.bb (by decide) (by decide) (by decide)
 have H2:=Lib.hid (A4 k02 hA2 hB2 hS2)
 clear hD2 k2 k02 hA2 hB2 hS2
 have q1:(fl:Int)<(n:Int):=by have:=HH.out.2.2.1;omega
 have q2:(a:Int)<16:=by have:=HH.out.2.2.2.2.2.1;omega
 go_upto_region 12 with (go_at_call 178;refine hen.mono ?_;rintro e w3 ⟨rfl,k3⟩;have hA3:=k3.heap H2.out.2.1 (fun e=>e);have a0:=Qq hA3 (1+a);rw [(H2.out.2.2.2.ags a _ HH.out.2.2.2.2.2.2).1] at a0;have fA:=Qg hA3;unfold u64v at a0)
 have hS3:=H2.out.2.2.2.no k3
 have hB3:=k3.heap H2.out.2.2.1 (fun e=>e)
 have k4:Keep (·=A) w3 (w3.setCell ⟨A,1+a,none⟩ (.int .u64 n)):=Qd _ _
 have hA4:=Qz (i:=1+a) (u:=.int .u64 n) hA3
 have hS4:=(hS3.keep k4 (fun x e=>by have e:x=A:=e;subst e;exact ⟨hge,_,hA3⟩)).setFloor (a:=a) (n:=n) HH.out.2.2.2.2.2.1
 have hB4:=k4.heap hB3 hBA
 have hkk:Keep No w (w3.setCell ⟨A,1+a,none⟩ (.int .u64 n)):=((HW.out.1.absorb H2.out.1 (fun x e=>by have e:x=C:=e;have:=HW.out.2.2.2.2.2.2.1;omega)).then k3).absorb k4 (fun x e=>by have e:x=A:=e;have:=HW.out.2.2.2.2.1;omega)
 have hdn:=one_done hkk hS4 hA4 hB4 (by have:=HW.out.2.2.2.2.2.1;omega) (by have:=HW.out.2.2.2.2.2.1;have:=HH.out.2.2.2.2.1;omega)
 obtain ⟨W4,hW4⟩:∃ W4,W4=w3.setCell ⟨A,1+a,none⟩ (.int .u64 n):=⟨_,rfl⟩
 obtain ⟨cs1,hcs1⟩:∃ cs1,cs1=cs.setIfInBounds (1+a) (.int .u64 n):=⟨_,rfl⟩
 rw [<- hW4,<- hcs1] at hA4 hS4 hdn
 rw [<- hW4] at hB4
 have HX:=Lib.hid hdn
 clear hS3 hB3 k4 hdn hA3 k3 hkk
 go_upto_region 13 with fail
 rw [<- hW4]
 clear hW4 hcs1 fA a0
 go_wp2_with (first | (refine wpList_load_row rfl 168 _ rfl A rfl 168 cs1 (0,0) _ hA4 Tryz.underlying168 rfl hS4.info ?_) | (refine wpList_store_row rfl 168 _ _ rfl B cs1 rfl rfl 168 _ hB4 hS4.info (by rw [hS4.size];rfl) hS4.all ?_))
 refine bodyPost_ret (v:=.tuple #[.agg cs1,.bool true]) (Jl rfl _ _ B 168 cs1 (0,0) _ _ rfl rfl HX.out.1 Tryz.underlying168 rfl hS4.info) rfl ⟨cs1,rfl,HX.out.2.1,HX.out.2.2⟩
end Go.Proofs.YtfdmbomlkpkegaaGreat
