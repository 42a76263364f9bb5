/- Lemmas for ReceiverNil. -/
import Derived.Test.YtfdmbomlkpkegaaGreatS8
import Derived.Test.YtfdmbomlkpkegaaGreatS12
import Derived.Test.YtfdmbomlkpkegaaGreatS22
set_option maxRecDepth 100000
set_option maxHeartbeats 8000000
set_option linter.all false
namespace Go.Proofs.YtfdmbomlkpkegaaGreat
open Go Go.RowKit
theorem Va:∀ {ags:List (List Value)},(∀ a∈ags,a.length=7)->ags.flatten.length=ags.length*7
 | [],_=>rfl
 | a :: l,h=>by
  rw [List.flatten_cons,List.length_append,h a (by simp),Va (fun b hb=>h b (by simp [hb]))]
  simp
  omega
theorem flat7_get:∀ {ags:List (List Value)} {i f:Nat} {a:List Value},(∀ a∈ags,a.length=7)->ags[i]?=some a->f<7->ags.flatten[i*7+f]?=a[f]?
 | [],i,f,a,_,hi,_=>by simp at hi
 | b :: l,0,f,a,h,hi,hf=>by
  simp at hi
  subst hi
  rw [List.flatten_cons,List.getElem?_append_left (by rw [h b (by simp)];omega)]
  simp
 | b :: l,i+1,f,a,h,hi,hf=>by
  have ih:=flat7_get (ags:=l) (i:=i) (f:=f) (a:=a) (fun b hb=>h b (by simp [hb])) (by simpa using hi) hf
  rw [List.flatten_cons,List.getElem?_append_right (by rw [h b (by simp)];omega),h b (by simp),<- ih]
  congr 1
  omega
theorem flat7_set:∀ {ags:List (List Value)} {i f:Nat} {a:List Value} (u:Value),(∀ a∈ags,a.length=7)->ags[i]?=some a->f<7->ags.flatten.set (i*7+f) u=(ags.set i (a.set f u)).flatten
 | [],i,f,a,_,_,hi,_=>by simp at hi
 | b :: l,0,f,a,u,h,hi,hf=>by
  simp at hi
  subst hi
  rw [List.set_cons_zero,List.flatten_cons,List.flatten_cons,List.set_append_left _ _ (by rw [h b (by simp)];omega)]
  simp
 | b :: l,i+1,f,a,u,h,hi,hf=>by
  have ih:=flat7_set (ags:=l) (i:=i) (f:=f) (a:=a) u (fun b hb=>h b (by simp [hb])) (by simpa using hi) hf
  rw [List.set_cons_succ,List.flatten_cons,List.flatten_cons,List.set_append_right _ _ (by rw [h b (by simp)];omega),h b (by simp),<- ih]
  congr 2
  omega
def Xq (g inc:Nat) (ags:List (List Value)) (lv:Value) (safe m:Nat):List Value:=.pointer (some ⟨g,0,none⟩) :: .int .u64 inc :: (ags.flatten++[lv,.int .i64 safe,.map (some m)])
theorem ledCells_ag {g inc:Nat} {ags:List (List Value)} {lv:Value} {safe m i f:Nat} {a:List Value} (h:∀ a∈ags,a.length=7) (hi:ags[i]?=some a) (hf:f<7):(Xq g inc ags lv safe m)[2+i*7+f]?=a[f]?:=by
 have hl:=(List.getElem?_eq_some_iff.1 hi).1
 rw [show 2+i*7+f=(i*7+f)+1+1 by omega]
 unfold Xq
 rw [List.getElem?_cons_succ,List.getElem?_cons_succ,List.getElem?_append_left (by rw [Va h];omega)]
 exact flat7_get h hi hf
theorem Je {g inc:Nat} {ags:List (List Value)} {lv:Value} {safe m i f:Nat} {a:List Value} (u:Value) (h:∀ a∈ags,a.length=7) (hi:ags[i]?=some a) (hf:f<7) :
  (Xq g inc ags lv safe m).set (2+i*7+f) u=Xq g inc (ags.set i (a.set f u)) lv safe m:=by
 have hl:=(List.getElem?_eq_some_iff.1 hi).1
 rw [show 2+i*7+f=(i*7+f)+1+1 by omega]
 unfold Xq
 rw [List.set_cons_succ,List.set_cons_succ,List.set_append_left _ _ (by rw [Va h];omega),flat7_set u h hi hf]
theorem ledCells_end {g inc:Nat} {ags:List (List Value)} {lv:Value} {safe m:Nat} (h:∀ a∈ags,a.length=7) (hl:ags.length=16) :
  (Xq g inc ags lv safe m)[114]?=some lv/\(Xq g inc ags lv safe m)[115]?=some (.int .i64 safe)/\(Xq g inc ags lv safe m)[116]?=some (.map (some m)):=by
 have hf:=Va h
 rw [hl] at hf
 unfold Xq
 refine ⟨?_,?_,?_⟩ <;>
 ·simp only [List.getElem?_cons_succ]
  rw [List.getElem?_append_right (by omega),hf]
  rfl
theorem ledCells_setL {g inc:Nat} {ags:List (List Value)} {lv:Value} {safe m:Nat} (u:Value) (h:∀ a∈ags,a.length=7) (hl:ags.length=16):(Xq g inc ags lv safe m).set 114 u=Xq g inc ags u safe m:=by
 have hf:=Va h
 rw [hl] at hf
 unfold Xq
 simp only [List.set_cons_succ]
 rw [List.set_append_right _ _ (by omega),hf]
 rfl
theorem ledCells_setS {g inc:Nat} {ags:List (List Value)} {lv:Value} {safe m:Nat} (n:Nat) (h:∀ a∈ags,a.length=7) (hl:ags.length=16):(Xq g inc ags lv safe m).set 115 (.int .i64 n)=Xq g inc ags lv n m:=by
 have hf:=Va h
 rw [hl] at hf
 unfold Xq
 simp only [List.set_cons_succ]
 rw [List.set_append_right _ _ (by omega),hf]
 rfl
def Ki (a:AgS) (ns ss:Value):List Value:=[.int .u64 a.floor,.int .u64 a.now.low,.int .u64 a.now.width,ns,.int .u64 a.safe.low,.int .u64 a.safe.width,ss]
def idV (r:RecS):Value:=.agg #[.int .i64 r.who,.int .u64 r.n]
def Jd (r:RecS) (u:Value):List Value:=[.int .i64 r.who,.int .u64 r.n,.int .i64 r.s.c,u]
def Xu (l:List (RecS × Value)):List Value:=l.flatMap (fun x=>Jd x.1 x.2)
def Yi [bn:Inhabited Ban] (base:Nat) (w:World) (v:Value) (l:List RecS):Prop :=
 ∃ xs:List (RecS × Value),xs.map (·.1)=l/\(∀ x∈xs,Qv base w x.2 x.1.s.body)/\w.ownsRow base 63 4 v l.length (Xu xs)
def ByAt (w:World) (m:Nat) (l:List RecS):Prop :=
 ∃ es clock,w.heap[m]?=some (.map es clock)/\es.size=l.length/\∀ (i:Nat) r,l[i]?=some r->(es[i]?).map (fun e=>(e.key,e.val))=some (idV r,.int .i64 i)
structure Hu (w:World) (ags:List (List Value)) (l:List AgS):Prop where
 len:ags.length=16
 len':l.length=16
 at':∀ (i:Nat) a,l[i]?=some a->∃ ns ss,ags[i]?=some (Ki a ns ss)/\Zy w ns a.now.set/\Zy w ss a.safe.set
structure Zv [bn:Inhabited Ban] (base:Nat) (w:World) (q g m:Nat) (lv:Value) (L:LedS):Prop where
 blk:∃ ags,w.heap[q]?=some (.cells (Xq g L.inc ags lv L.safe m).toArray 126 (0,0))/\Hu w ags L.ag
 recs:Yi base w lv L.recs
 by':ByAt w m L.recs
 qb:base<=q
 mb:base<=m
def Kw (q m:Nat) (lv:Value):Nat->Prop:=fun b=>b=q\/b=m\/lv.ownBlock=some b
theorem Hu.seven {w:World} {ags:List (List Value)} {l:List AgS} (h:Hu w ags l):∀ a∈ags,a.length=7:=by
 intro a ha
 obtain ⟨i,hi,rfl⟩:=List.getElem_of_mem ha
 have hil:i<l.length:=by rw [h.len',<- h.len];exact hi
 obtain ⟨ns,ss,e,_⟩:=h.at' i _ (List.getElem?_eq_getElem hil)
 rw [List.getElem?_eq_getElem hi] at e
 simp at e
 rw [e]
 rfl
theorem Hu.keep {w w':World} {ags:List (List Value)} {l:List AgS} {F:Nat->Prop} (h:Hu w ags l) (hF:Zn w F) (k:Keep F w w'):Hu w' ags l :=
 ⟨h.len,h.len',fun i a hi=>by obtain ⟨ns,ss,e,h1,h2⟩:=h.at' i a hi;exact ⟨ns,ss,e,h1.keep hF k,h2.keep hF k⟩⟩
theorem Yi.keep [bn:Inhabited Ban] {base:Nat} {w w':World} {v:Value} {l:List RecS} {F:Nat->Prop} (h:Yi base w v l) (hF:Foot base w F) (k:Keep F w w') (hn:∀ b,v.ownBlock=some b->¬F b):Yi base w' v l:=by
 obtain ⟨xs,h1,h2,h3⟩:=h
 exact ⟨xs,h1,fun x hx=>(h2 x hx).keep hF k,Yu h3 k hn⟩
theorem Yi.form [bn:Inhabited Ban] {base:Nat} {w:World} {v:Value} {l:List RecS} (h:Yi base w v l):∃ ao cap,v=.slice ao l.length cap/\l.length<=cap/\cap<=maxLen:=by
 obtain ⟨xs,_,_,h3⟩:=h
 exact Kj h3
theorem Yi.kind [bn:Inhabited Ban] {base:Nat} {w:World} {v:Value} {l:List RecS} (h:Yi base w v l):∀ b,v.ownBlock=some b->base<=b/\∃ cur,w.heap[b]?=some (.cells cur 63 (0,0)):=by
 obtain ⟨xs,_,_,h3⟩:=h
 exact Qa h3
theorem ByAt.keep {w w':World} {m:Nat} {l:List RecS} {F:Nat->Prop} (h:ByAt w m l) (k:Keep F w w') (hm:¬F m):ByAt w' m l:=by
 obtain ⟨es,clock,hb,r⟩:=h
 exact ⟨es,clock,k.heap hb hm,r⟩
section
variable [bn:Inhabited Ban] {base:Nat} {w w':World} {q g m:Nat} {lv:Value} {L:LedS}
theorem Zv.kind (h:Zv base w q g m lv L) {b:Nat} (hb:Kw q m lv b):base<=b/\((∃ cs t,w.heap[b]?=some (.cells cs t (0,0))/\(t=126\/t=63))\/∃ es clock,w.heap[b]?=some (.map es clock)):=by
 rcases hb with rfl | rfl | hb
 ·obtain ⟨ags,hz,_⟩:=h.blk
  exact ⟨h.qb,.inl ⟨_,_,hz,.inl rfl⟩⟩
 ·obtain ⟨es,clock,hz,_⟩:=h.by'
  exact ⟨h.mb,.inr ⟨_,_,hz⟩⟩
 ·obtain ⟨h1,cur,hz⟩:=h.recs.kind b hb
  exact ⟨h1,.inl ⟨_,_,hz,.inr rfl⟩⟩
theorem Zv.foot (h:Zv base w q g m lv L):Foot base w (Kw q m lv):=by
 intro b hb
 obtain ⟨h1,h2⟩:=h.kind hb
 rcases h2 with ⟨cs,t,hz,ht⟩ | ⟨es,clock,hz⟩
 ·exact ⟨h1,Qt hz,fun cs fr e=>by rw [hz] at e;simp at e;obtain ⟨_,rfl,_⟩:=e;rcases ht with ht | ht <;> simp at ht⟩
 ·exact ⟨h1,Qt hz,fun cs fr e=>by rw [hz] at e;simp at e⟩
theorem Zv.footR (h:Zv base w q g m lv L):Zn w (Kw q m lv):=by
 intro b hb hr
 obtain ⟨h1,h2⟩:=h.kind hb
 obtain ⟨cs',fr',e⟩:=hr
 rcases h2 with ⟨cs,t,hz,ht⟩ | ⟨es,clock,hz⟩
 ·rw [hz] at e;simp at e;obtain ⟨_,rfl,_⟩:=e;rcases ht with ht | ht <;> simp at ht
 ·rw [hz] at e;simp at e
theorem Zv.keep {F:Nat->Prop} (h:Zv base w q g m lv L) (hF:Foot base w F) (hR:Zn w F) (k:Keep F w w') (hn:∀ b,Kw q m lv b->¬F b):Zv base w' q g m lv L:=by
 obtain ⟨ags,hz,ha⟩:=h.blk
 exact ⟨⟨ags,k.heap hz (hn q (.inl rfl)),ha.keep hR k⟩,h.recs.keep hF k (fun b hb=>hn b (.inr (.inr hb))),h.by'.keep k (hn m (.inr (.inl rfl))),h.qb,h.mb⟩
theorem Zv.no (h:Zv base w q g m lv L) (k:Keep No w w'):Zv base w' q g m lv L:=h.keep (Foot.no _ _) (Zn.no _) k (fun _ _ h=>h)
theorem Zv.lt (h:Zv base w q g m lv L):∀ b,Kw q m lv b->b<w.heap.size:=fun b hb=>(h.foot b hb).2.1
theorem Zv.apart (h:Zv base w q g m lv L):q≠m/\lv.ownBlock≠some q/\lv.ownBlock≠some m:=by
 obtain ⟨ags,hz,_⟩:=h.blk
 obtain ⟨es,clock,hm,_⟩:=h.by'
 refine ⟨fun e=>?_,fun e=>?_,fun e=>?_⟩
 ·subst e;rw [hz] at hm;simp at hm
 ·obtain ⟨_,cur,hr⟩:=h.recs.kind _ e;rw [hz] at hr;simp at hr
 ·obtain ⟨_,cur,hr⟩:=h.recs.kind _ e;rw [hm] at hr;simp at hr
end
end Go.Proofs.YtfdmbomlkpkegaaGreat
namespace Go.Proofs.YtfdmbomlkpkegaaGreat
open Go Go.RowKit Go.Dr
theorem gNumber_spec [bn:Inhabited Ban] {base i:Nat} {w:World} {s:InS} (h:InAt base w i s) (hlen:s.l.length<=1099511627776) (hn:s.num.1<2305843009213693952) :
  Calls Tryz.prog 158 #[.pointer (some ⟨i,0,none⟩)] w fun e w'=>e=.returned (.int .u64 s.num.1)/\InAt base w' i s.num.2/\Keep (·=i) w w':=by
 have hs:=Gm h hlen
 obtain ⟨n,he⟩:∃ n,n=s.num.1:=⟨_,rfl⟩
 rw [<- he] at hs hn ⊢
 have hd:decide (2305843009213693952<=(n:Int))=false:=by simp;omega
 have hni:¬2305843009213693952<=(n:Int):=by omega
 clear h hlen he hn
 go_enter Tryz.func158,Tryz.ntmps158
 go_wp2_with (go_at_call 161;refine hs.mono ?_;rintro e w1 ⟨rfl,hi1,k1⟩)
 go_ret
 exact ⟨rfl,hi1,k1⟩
theorem gWho_spec [bn:Inhabited Ban] {base i:Nat} {w:World} {s:InS} (h:InAt base w i s) (hlen:s.l.length<=1099511627776) (hn:s.num.1<16) :
  Calls Tryz.prog 160 #[.pointer (some ⟨i,0,none⟩)] w fun e w'=>e=.returned (.int .i64 s.num.1)/\InAt base w' i s.num.2/\Keep (·=i) w w':=by
 have hs:=Gm h hlen
 obtain ⟨n,he⟩:∃ n,n=s.num.1:=⟨_,rfl⟩
 rw [<- he] at hs hn ⊢
 have hni:¬16<=(n:Int):=by omega
 have hlt:(n:Int)<=15:=by omega
 clear h hlen he hn
 go_enter Tryz.func160,Tryz.ntmps160
 go_wp2_with (go_at_call 161;refine hs.mono ?_;rintro e w1 ⟨rfl,hi1,k1⟩)
 go_ret
 exact ⟨rfl,hi1,k1⟩
theorem InAt.footR [bn:Inhabited Ban] {base g:Nat} {w:World} {s:InS} (h:InAt base w g s):Zn w (·=g):=by
 obtain ⟨_,v,h2,_⟩:=h
 exact Zn.block h2 (by decide)
theorem Zv.notIn [bn:Inhabited Ban] {base:Nat} {w:World} {q g m i:Nat} {lv:Value} {L:LedS} {s:InS} (h:Zv base w q g m lv L) (hi:InAt base w i s):∀ b,Kw q m lv b->¬b=i:=by
 rintro b hb rfl
 obtain ⟨_,v,h2,_⟩:=hi
 obtain ⟨_,h3⟩:=h.kind hb
 rcases h3 with ⟨cs,t,hz,ht⟩ | ⟨es,clock,hz⟩
 ·rw [hz] at h2;simp at h2;obtain ⟨_,rfl⟩:=h2;rcases ht with ht | ht <;> simp at ht
 ·rw [hz] at h2;simp at h2
theorem Zv.byIn [bn:Inhabited Ban] {base:Nat} {w w':World} {q g m i:Nat} {lv:Value} {L:LedS} {s:InS} (h:Zv base w q g m lv L) (hi:InAt base w i s) (k:Keep (·=i) w w'):Zv base w' q g m lv L :=
 h.keep hi.foot hi.footR k (h.notIn hi)
theorem Zv.set [bn:Inhabited Ban] {base:Nat} {w:World} {q g m:Nat} {lv:Value} {L:LedS} (h:Zv base w q g m lv L) (j:Nat) (u:Value) :
  Foot base w (·=q)/\Zn w (·=q)/\Keep (·=q) w (w.setCell ⟨q,j,none⟩ u):=by
 obtain ⟨ags,hz,_⟩:=h.blk
 refine ⟨?_,Zn.block hz (by decide),Qd _ _⟩
 rintro b rfl
 exact ⟨h.qb,Qt hz,fun cs fr e=>by rw [hz] at e;simp at e⟩
theorem Jq (l:List Value) (j:Nat) (u:Value):l.toArray.setIfInBounds j u=(l.set j u).toArray:=by simp
theorem Zv.setInc [bn:Inhabited Ban] {base:Nat} {w:World} {q g m:Nat} {lv:Value} {L:LedS} (h:Zv base w q g m lv L) (n:Nat) :
  Zv base (w.setCell ⟨q,1,none⟩ (.int .u64 n)) q g m lv { L with inc:=n }:=by
 obtain ⟨hF,hR,k⟩:=h.set 1 (.int .u64 n)
 obtain ⟨ap1,ap2,ap3⟩:=h.apart
 obtain ⟨ags,hz,ha⟩:=h.blk
 refine ⟨⟨ags,?_,ha.keep hR k⟩,h.recs.keep hF k (fun b hb e=>ap2 (by rw [hb,show b=q from e])),h.by'.keep k (fun e=>ap1 e.symm),h.qb,h.mb⟩
 rw [Qz hz,Jq]
 rfl
theorem Zv.incCell [bn:Inhabited Ban] {base:Nat} {w:World} {q g m:Nat} {lv:Value} {L:LedS} (h:Zv base w q g m lv L):w.cell? ⟨q,1,none⟩=some (.int .u64 L.inc)/\w.cell? ⟨q,0,none⟩=some (.pointer (some ⟨g,0,none⟩))/\∀ j,w.frozen? ⟨q,j,none⟩=false:=by
 obtain ⟨ags,hz,ha⟩:=h.blk
 rw [Qq hz,Qq hz]
 exact ⟨by simp [Xq],by simp [Xq],Qg hz⟩
theorem num_one {n:Nat} (hn:n<18446744073709551616):InS.num ⟨numB n,0⟩=(n,⟨[],0⟩):=by
 have:=Gx hn []
 rw [List.append_nil] at this
 exact this
theorem end_nil:InS.end' ⟨[],0⟩=⟨[],0⟩:=by unfold InS.end';rw [if_pos rfl]
theorem gDoneInc_spec [bn:Inhabited Ban] {base:Nat} {w:World} {q g m i n:Nat} {lv:Value} {L:LedS} (h:Zv base w q g m lv L) (hi:InAt base w i ⟨numB n,0⟩) (hn:n<2305843009213693952) (hl:L.inc<n) :
  Calls Tryz.prog 109 #[.pointer (some ⟨q,0,none⟩),.pointer (some ⟨i,0,none⟩)] w fun e w'=>e=.returned (.bool true)/\Zv base w' q g m lv (L.step (.inc n))/\Keep (fun b=>b=q\/b=i) w w':=by
 have hnl:=Qp (n:=n) (by omega)
 have hnum:=num_one (n:=n) (by omega)
 have h1:=gNumber_spec hi (by show (numB n).length<=_;omega) (by rw [hnum];exact hn)
 rw [hnum] at h1
 have hci:¬(n:Int)<=(L.inc:Int):=by omega
 have HH:=Lib.hid (A2 h hi)
 clear h hi hn hl hnl hnum
 go_enter Tryz.func109,Tryz.ntmps109
 go_wp2_with (first
  | (go_at_call 159;refine (iEnd_spec hi1).mono ?_;rw [end_nil];rintro e w2 ⟨rfl,hi2,k2⟩;have hl2:=(HH.out.1.byIn HH.out.2 k1).byIn hi1 k2;obtain ⟨c1,c0,f2⟩:=hl2.incCell)
  | (go_at_call 158;refine h1.mono ?_;rintro e w1 ⟨rfl,hi1,k1⟩))
 go_ret
 refine ⟨rfl,hl2.setInc n,((k1.trans k2 (fun _ _ e=>e)).mono (fun x _ e=>.inr e)).trans (Qd _ _) (fun x hx e=>.inl e)⟩
theorem Zv.agCell [bn:Inhabited Ban] {base:Nat} {w:World} {q g m a:Nat} {lv:Value} {L:LedS} {x:AgS} (h:Zv base w q g m lv L) (ha:L.ag[a]?=some x) :
  ∃ ns ss,Zy w ns x.now.set/\Zy w ss x.safe.set/\w.cell? ⟨q,2+a*7,none⟩=some (.int .u64 x.floor)/\w.cell? ⟨q,2+a*7+1,none⟩=some (.int .u64 x.now.low)/\w.cell? ⟨q,2+a*7+2,none⟩=some (.int .u64 x.now.width) /\
   w.cell? ⟨q,2+a*7+3,none⟩=some ns/\w.cell? ⟨q,2+a*7+4,none⟩=some (.int .u64 x.safe.low)/\w.cell? ⟨q,2+a*7+5,none⟩=some (.int .u64 x.safe.width)/\w.cell? ⟨q,2+a*7+6,none⟩=some ss:=by
 obtain ⟨ags,hz,hag⟩:=h.blk
 obtain ⟨ns,ss,e,h1,h2⟩:=hag.at' a x ha
 have c:=fun (f:Nat) (hf:f<7)=>ledCells_ag (g:=g) (inc:=L.inc) (lv:=lv) (safe:=L.safe) (m:=m) hag.seven e hf
 have c':=fun (f:Nat) (hf:f<7)=>(Qq hz (2+a*7+f)).trans ((List.getElem?_toArray ..).trans (c f hf))
 exact ⟨ns,ss,h1,h2,c' 0 (by decide),c' 1 (by decide),c' 2 (by decide),c' 3 (by decide),c' 4 (by decide),c' 5 (by decide),c' 6 (by decide)⟩
theorem Hu.set {w:World} {ags:List (List Value)} {l:List AgS} {a:Nat} {x y:AgS} (h:Hu w ags l) (ha:l[a]?=some x) {ns ss:Value} (h1:Zy w ns y.now.set) (h2:Zy w ss y.safe.set) :
  Hu w (ags.set a (Ki y ns ss)) (l.set a y):=by
 refine ⟨by simp [h.len],by simp [h.len'],fun i z hz=>?_⟩
 have hal:=(List.getElem?_eq_some_iff.1 ha).1
 rw [List.getElem?_set] at hz ⊢
 by_cases e:a=i
 ·subst e
  rw [if_pos rfl,if_pos hal] at hz
  rw [if_pos rfl,if_pos (by rw [h.len,<- h.len'];exact hal)]
  simp at hz
  subst hz
  exact ⟨ns,ss,rfl,h1,h2⟩
 ·rw [if_neg e] at hz ⊢
  exact h.at' i z hz
theorem Gk {l:List AgS} {a:Nat} {x:AgS} (f:AgS->AgS) (ha:l[a]?=some x):l.modify a f=l.set a (f x):=by
 obtain ⟨hl,rfl⟩:=List.getElem?_eq_some_iff.1 ha
 apply List.ext_getElem?
 intro i
 rw [List.getElem?_modify,List.getElem?_set]
 by_cases e:a=i
 ·subst e
  simp [hl]
 ·simp [e]
theorem Zv.setFloor [bn:Inhabited Ban] {base:Nat} {w:World} {q g m a:Nat} {lv:Value} {L:LedS} {x:AgS} (h:Zv base w q g m lv L) (ha:L.ag[a]?=some x) (n:Nat) :
  Zv base (w.setCell ⟨q,2+a*7,none⟩ (.int .u64 n)) q g m lv (L.step (.floor a n)):=by
 obtain ⟨hF,hR,k⟩:=h.set (2+a*7) (.int .u64 n)
 obtain ⟨ap1,ap2,ap3⟩:=h.apart
 obtain ⟨ags,hz,hag⟩:=h.blk
 obtain ⟨ns,ss,e,h1,h2⟩:=hag.at' a x ha
 have hs:=Je (g:=g) (inc:=L.inc) (lv:=lv) (safe:=L.safe) (m:=m) (f:=0) (.int .u64 n) hag.seven e (by decide)
 refine ⟨⟨ags.set a (Ki { x with floor:=n } ns ss),?_,?_⟩,h.recs.keep hF k (fun b hb e=>ap2 (by rw [hb,show b=q from e])),h.by'.keep k (fun e=>ap1 e.symm),h.qb,h.mb⟩
 ·rw [Qz hz,Jq]
  rw [Nat.add_zero] at hs
  rw [hs]
  rfl
 ·show Hu _ _ (L.ag.modify a (fun g=>{ g with floor:=n }))
  rw [Gk _ ha]
  exact (hag.keep hR k).set ha (y:={ x with floor:=n }) (h1.keep hR k) (h2.keep hR k)
theorem gDoneFloor_spec [bn:Inhabited Ban] {base:Nat} {w:World} {q g m i a n:Nat} {lv:Value} {L:LedS} {x:AgS} (h:Zv base w q g m lv L) (hi:InAt base w i ⟨numB a++numB n,0⟩) (ha:L.ag[a]?=some x) (ha16:a<16) (hn:n<2305843009213693952) (hl:x.floor<n) :
  Calls Tryz.prog 110 #[.pointer (some ⟨q,0,none⟩),.pointer (some ⟨i,0,none⟩)] w fun e w'=>e=.returned (.bool true)/\Zv base w' q g m lv (L.step (.floor a n))/\Keep (fun b=>b=q\/b=i) w w':=by
 have hnl:=Qp (n:=n) (by omega)
 have hal:=Qp (n:=a) (by omega)
 have hnum:=num_one (n:=n) (by omega)
 have hnuma:=Gx (n:=a) (by omega) (numB n)
 have hi0:=hi.no (Keep.refl No w).drew
 have h1:=gWho_spec hi0 (by show (numB a++numB n).length<=_;rw [List.length_append];omega) (by rw [hnuma];exact ha16)
 rw [hnuma] at h1
 have hci:¬(n:Int)<=(x.floor:Int):=by omega
 have hai:(a:Int)<16:=by omega
 have HH:=Lib.hid (A6 (h.no (Keep.refl No w).drew) hi0 hnl hnum hn ha)
 clear h hi hn hl hnl hnum hal hnuma ha hi0 ha16
 go_enter Tryz.func110,Tryz.ntmps110
 go_wp2_with fail
 refine Ql (fun _=>True) [0,1,3,4] [2,5,6] [] (by kernel_rfl) (by kernel_rfl) (fun _ _ _ _ _ h=>h) trivial ?_
 iterate 4 (refine Qk (v:=?_) rfl rfl rfl ?_ ?_;rotate_left;focus (
  intro w' hS
  go_simp
  try with_reducible rfl))
 refine Qj (Qx rfl rfl (fun K hK=>?_))
 go_simp
 refine h1.mono ?_
 rintro e w1 ⟨rfl,hi1,k1⟩
 refine hK _ _ trivial ?_
 clear hK K
 refine Qx rfl rfl (fun K hK=>?_)
 go_simp
 refine hK _ _ trivial ?_
 clear hK K
 refine Qx rfl rfl (fun K hK=>?_)
 go_simp
 refine hK _ _ trivial ?_
 clear hK K
 refine Qh (Qm ?_)
 have h2:=gNumber_spec hi1 (by show (numB n).length<=_;have:=HH.out.2.2.1;omega) (by rw [HH.out.2.2.2.1];exact HH.out.2.2.2.2.1)
 rw [HH.out.2.2.2.1] at h2
 go_wp2_with (first
  | (go_at_call 159;refine (iEnd_spec hi2).mono ?_;rw [end_nil];rintro e w3 ⟨rfl,hi3,k3⟩;have hl3:=((HH.out.1.byIn HH.out.2.1 k1).byIn hi1 k2).byIn hi2 k3;obtain ⟨_,_,_,_,c0,_⟩:=hl3.agCell HH.out.2.2.2.2.2;have f3:=hl3.incCell.2.2)
  | (go_at_call 158;refine h2.mono ?_;rintro e w2 ⟨rfl,hi2,k2⟩))
 go_ret
 exact ⟨rfl,hl3.setFloor HH.out.2.2.2.2.2 n,((((Keep.refl No w).drew.no).trans ((k1.trans k2 (fun _ _ e=>e)).trans k3 (fun _ _ e=>e)) (fun x _ e=>.inr e)).trans (Qd _ _) (fun x hx e=>.inl e))⟩
end Go.Proofs.YtfdmbomlkpkegaaGreat
namespace Go.Proofs.YtfdmbomlkpkegaaGreat
open Go Go.RowKit
theorem check_id (w:World) (em:Bool) (a n:Int):(Instr.checkKey em 10000 58 (.agg #[.int .i64 a,.int .u64 n])).run Tryz.prog w=.ok () w:=by kernel_rfl
theorem equal_id (w:World) (a n b k:Int):(Op.equal 58 (.agg #[.int .i64 a,.int .u64 n]) (.agg #[.int .i64 b,.int .u64 k])).run Tryz.prog w=.ok ((a==b) && (n==k)) w:=by
 have hw:(Op.equal 58 (.agg #[.int .i64 a,.int .u64 n]) (.agg #[.int .i64 b,.int .u64 k])).run Tryz.prog w=(Op.equalIn (9999+1) 58 (.agg #[.int .i64 a,.int .u64 n]) (.agg #[.int .i64 b,.int .u64 k])).run Tryz.prog w:=rfl
 rw [hw]
 cases h1:(a==b) <;> cases h2:(n==k) <;> go_simp
def posR (l:List RecS) (a:Int) (n:Nat):Option Nat:=l.findIdx? (fun r=>((r.who:Int)==a) && ((r.n:Int)==(n:Int)))
theorem findAsking_id (w:World) (a:Int) (n:Nat):∀ (es:List MapEntry) (l:List RecS) (i:Nat),es.length=l.length->(∀ (j:Nat) r,l[j]?=some r->(es[j]?).map (fun e=>(e.key,e.val))=some (idV r,.int .i64 ((i+j:Nat):Int))) ->
  (Instr.findAsking 58 (.agg #[.int .i64 a,.int .u64 n]) es i).run Tryz.prog w=.ok ((posR l a n).map (fun j=>(i+j,.int .i64 ((i+j:Nat):Int)))) w
 | [],[],i,_,_=>rfl
 | [],_ :: _,i,h,_=>by simp at h
 | _ :: _,[],i,h,_=>by simp at h
 | e :: es,r :: l,i,h,hk=>by
  have h0:=hk 0 r rfl
  simp only [List.getElem?_cons_zero,Option.map_some,Option.some.injEq,Prod.mk.injEq] at h0
  have ih:=findAsking_id w a n es l (i+1) (by simpa using h) (fun j x hx=>by
   have:=hk (j+1) x (by simpa using hx)
   simp only [List.getElem?_cons_succ] at this
   rw [this,show i+(j+1)=i+1+j by omega])
  have he:=equal_id w a n (r.who:Int) (r.n:Int)
  have hek:e.key=.agg #[.int .i64 (r.who:Int),.int .u64 (r.n:Int)]:=h0.1
  unfold Instr.findAsking
  rw [hek]
  simp only [Sem.run_bind,he,Result.andThen_ok]
  unfold posR
  rw [List.findIdx?_cons]
  have hsym:(((r.who:Int)==a) && ((r.n:Int)==(n:Int)))=((a==(r.who:Int)) && ((n:Int)==(r.n:Int))):=by
   rw [Bool.eq_iff_iff]
   simp only [Bool.and_eq_true,beq_iff_eq]
   exact ⟨fun h=>⟨h.1.symm,h.2.symm⟩,fun h=>⟨h.1.symm,h.2.symm⟩⟩
  rw [hsym]
  cases hc:((a==(r.who:Int)) && ((n:Int)==(r.n:Int)))
  ·simp only [Bool.false_eq_true,if_false]
   rw [ih]
   unfold posR
   have hfun:(fun j=>(i+1+j,Value.int .i64 ((i+1+j:Nat):Int)))=(fun j=>(i+j,Value.int .i64 ((i+j:Nat):Int))) ∘ (fun j=>j+1):=by
    funext j
    simp only [Function.comp]
    rw [show i+1+j=i+(j+1) by omega]
   rw [Option.map_map,<- hfun]
  ·simp only [if_true,Sem.run_pure,Option.map_some,h0.2,Nat.add_zero]
theorem findKey_id (w:World) (a:Int) (n:Nat) (es:List MapEntry) (l:List RecS) (h:es.length=l.length) (hk:∀ (j:Nat) r,l[j]?=some r->(es[j]?).map (fun e=>(e.key,e.val))=some (idV r,.int .i64 (j:Int))) :
  (Instr.findKey 58 (.agg #[.int .i64 a,.int .u64 n]) es).run Tryz.prog w=.ok ((posR l a n).map (fun j=>(j,.int .i64 (j:Int)))) w:=by
 have h1:=findAsking_id w a n es l 0 h (fun j r hr=>by rw [hk j r hr,Nat.zero_add])
 simp only [Nat.zero_add] at h1
 rw [<- h1]
 unfold Instr.findKey
 cases es with
 | nil=>simp [run_underlying Tryz.underlying58,Instr.findNow,Instr.findAsking]
 | cons e es=>simp [run_underlying Tryz.underlying58,Instr.findNow,Instr.sameNow]
theorem posR_none {l:List RecS} {a n:Nat} (h:∀ x∈l,¬(x.who=a/\x.n=n)):posR l (a:Int) n=none:=by
 unfold posR
 rw [List.findIdx?_eq_none_iff]
 intro x hx
 have:=h x hx
 rw [Bool.eq_false_iff]
 intro hc
 simp at hc
 exact this ⟨by omega,by omega⟩
theorem ByAt.push {w:World} {m:Nat} {l:List RecS} (h:ByAt w m l) (r:RecS) (hn:∀ x∈l,¬(x.who=r.who/\x.n=r.n)) :
  ∃ w',(Instr.mapUpdate 124 (.map (some m)) (.agg #[.int .i64 r.who,.int .u64 r.n]) (.int .i64 (l.length:Int))).run Tryz.prog w=.ok () w'/\ByAt w' m (l++[r])/\Keep (·=m) w w':=by
 obtain ⟨es,clock,hb,hl,hk⟩:=h
 have hlt:=Qt hb
 have hf:=findKey_id w (r.who:Int) r.n es.toList l (by simpa using hl) (fun j r hr=>by have:=hk j r hr;simpa using this)
 rw [posR_none hn] at hf
 refine ⟨_,?_,⟨es.push { key:=idV r,val:=.int .i64 (l.length:Int),born:=clock },clock+1,?_,by simp [hl],fun i x hx=>?_⟩,Keep.setObj (F:=(·=m)) (Keep.refl _ w) (r:=m) (.inl rfl) (.map (es.push { key:=idV r,val:=.int .i64 (l.length:Int),born:=clock }) (clock+1))⟩
 ·unfold Instr.mapUpdate
  simp only [Sem.run_bind,run_underlying Tryz.underlying124,Result.andThen_ok,MapKept.run_getObj_map hb,check_id,hf,Option.map_none,MapKept.run_setObj_map _ hb]
  rfl
 ·simp [hlt]
 ·by_cases hi:i<l.length
  ·rw [List.getElem?_append_left hi] at hx
   have:=hk i x hx
   rw [Array.getElem?_push]
   rw [if_neg (by omega)]
   exact this
  ·rw [List.getElem?_append_right (by omega)] at hx
   have h0:=(List.getElem?_eq_some_iff.1 hx).1
   simp at h0
   have hi0:i-l.length=0:=by omega
   rw [hi0] at hx
   simp at hx
   subst hx
   rw [Array.getElem?_push,if_pos (by omega),show i=l.length by omega]
   rfl
theorem flatMap_at {α:Type} (f:α->List Value) (k:Nat) (hf:∀ x,(f x).length=k):∀ {l:List α} {i j:Nat} {x:α},l[i]?=some x->j<k->(l.flatMap f)[i*k+j]?=(f x)[j]?
 | [],i,j,x,h,_=>by simp at h
 | y :: l,0,j,x,h,hj=>by
  simp at h
  subst h
  rw [List.flatMap_cons,List.getElem?_append_left (by rw [hf];omega)]
  simp
 | y :: l,i+1,j,x,h,hj=>by
  have ih:=flatMap_at f k hf (l:=l) (i:=i) (j:=j) (x:=x) (by simpa using h) hj
  rw [List.flatMap_cons,List.getElem?_append_right (by rw [hf,Nat.add_mul];omega),hf,<- ih]
  congr 1
  rw [Nat.add_mul]
  omega
theorem flatMap_len {α:Type} (f:α->List Value) (k:Nat) (hf:∀ x,(f x).length=k):∀ (l:List α),(l.flatMap f).length=l.length*k
 | []=>by simp
 | y :: l=>by rw [List.flatMap_cons,List.length_append,hf,flatMap_len f k hf l,List.length_cons,Nat.add_mul];omega
def Hr (x:Qc × Value):List Value:=[.int .u64 x.1.n,.int .i64 x.1.s.c,x.2]
def Xr [bn:Inhabited Ban] (base:Nat) (w:World) (B:Nat) (v:Value) (l:List Qc):Prop :=
 ∃ xs:List (Qc × Value),xs.map (·.1)=l/\(∀ x∈xs,Qv base w x.2 x.1.s.body)/\w.ownsRow B 111 3 v l.length (xs.flatMap Hr)
theorem Xr.nil [bn:Inhabited Ban] (base:Nat) (w:World) (B:Nat):Xr base w B (.slice none 0 0) []:=⟨[],rfl,fun x h=>by simp at h,World.ownsRow_nil _ _ _ _⟩
theorem Xr.form [bn:Inhabited Ban] {base B:Nat} {w:World} {v:Value} {l:List Qc} (h:Xr base w B v l):∃ ao cap,v=.slice ao l.length cap/\l.length<=cap/\cap<=maxLen:=by
 obtain ⟨xs,_,_,h3⟩:=h
 exact Kj h3
theorem Xr.kind [bn:Inhabited Ban] {base B:Nat} {w:World} {v:Value} {l:List Qc} (h:Xr base w B v l):∀ b,v.ownBlock=some b->B<=b/\∃ cur,w.heap[b]?=some (.cells cur 111 (0,0)):=by
 obtain ⟨xs,_,_,h3⟩:=h
 exact Qa h3
theorem Xr.keep [bn:Inhabited Ban] {base B:Nat} {w w':World} {v:Value} {l:List Qc} {F:Nat->Prop} (h:Xr base w B v l) (hF:Foot base w F) (k:Keep F w w') (hn:∀ b,v.ownBlock=some b->¬F b):Xr base w' B v l:=by
 obtain ⟨xs,h1,h2,h3⟩:=h
 exact ⟨xs,h1,fun x hx=>(h2 x hx).keep hF k,Yu h3 k hn⟩
theorem Xr.no [bn:Inhabited Ban] {base B:Nat} {w w':World} {v:Value} {l:List Qc} (h:Xr base w B v l) (k:Keep No w w'):Xr base w' B v l:=h.keep (Foot.no _ _) k (fun _ _ e=>e)
theorem Xr.cell [bn:Inhabited Ban] {base B:Nat} {w:World} {ao:Option Addr} {n cap:Nat} {l:List Qc} (h:Xr base w B (.slice ao n cap) l) {i:Nat} {x:Qc} (hi:l[i]?=some x) :
  ∃ g u,ao=some ⟨g,0,none⟩/\Qv base w u x.s.body/\w.cell? ⟨g,i*3,none⟩=some (.int .u64 x.n)/\w.cell? ⟨g,i*3+1,none⟩=some (.int .i64 x.s.c)/\w.cell? ⟨g,i*3+2,none⟩=some u:=by
 obtain ⟨ao',cap',hq,_⟩:=h.form
 simp only [Value.slice.injEq] at hq
 obtain ⟨rfl,rfl,rfl⟩:=hq
 obtain ⟨xs,h1,h2,h3⟩:=h
 have hxs:∃ u,xs[i]?=some (x,u):=by
  rw [<- h1,List.getElem?_map] at hi
  cases hx:xs[i]? with
  | none=>rw [hx] at hi;simp at hi
  | some y=>rw [hx] at hi;simp at hi;exact ⟨y.2,by rw [<- hi]⟩
 obtain ⟨u,hu⟩:=hxs
 have hl:(xs.flatMap Hr).length=l.length*3:=by rw [flatMap_len Hr 3 (fun _=>rfl),<- h1,List.length_map]
 have c:=fun (f:Nat) (hf:f<3) (y:Value) (hy:(Hr (x,u))[f]?=some y)=>Gy h3 (j:=i*3+f) (x:=y) (by rw [flatMap_at Hr 3 (fun _=>rfl) hu hf];exact hy) hl
 obtain ⟨g,rfl,c0⟩:=c 0 (by decide) _ rfl
 refine ⟨g,u,rfl,h2 _ (List.mem_of_getElem? hu),c0,?_,?_⟩
 ·obtain ⟨_,e,h⟩:=c 1 (by decide) _ rfl;simp at e;subst e;exact h
 ·obtain ⟨_,e,h⟩:=c 2 (by decide) _ rfl;simp at e;subst e;exact h
theorem info_item:(Tryz.prog.info? 111).map (fun i=>(i.zero,i.size,i.bytes))=some (some (.agg #[.int .u64 0,.int .i64 0,.slice none 0 0]),3,40):=by kernel_rfl
theorem info_rec:(Tryz.prog.info? 63).map (fun i=>(i.zero,i.size,i.bytes))=some (some (.agg #[.int .i64 0,.int .u64 0,.int .i64 0,.slice none 0 0]),4,48):=by kernel_rfl
theorem ownRow_foot {w:World} {B base size n:Nat} {t:TypeId} {v:Value} {xs:List Value} (h:w.ownsRow B t size v n xs) (hb:base<=B) (ht:t≠5):Foot base w (fun b=>v.ownBlock=some b):=by
 intro b hb'
 obtain ⟨h1,cur,hz⟩:=Qa h b hb'
 exact ⟨Nat.le_trans hb h1,Qt hz,fun cs fr e=>by rw [hz] at e;simp at e;exact ht e.2.1⟩
theorem wpList_append_item [bn:Inhabited Ban] {base:Nat} {w:World} {ops:Array Oper} {rest:List Oper} {o:Oper} {a:Act} {Q:Exit->Act->World->Prop} (hg:o.guard=none) (s x:Operand)
  (ho:o.op=.call { callee:=.builtin .append,args:=#[s,x],argTypes:=#[28,28] }) {B:Nat} {v:Value} {l:List Qc} (h:Xr base w B v l) (hbB:base<=B) (hs:a.eval s=v) {D:Nat} {y:Qc} {uo:Option Addr} {uc:Nat}
  (hD:w.heap[D]?=some (.cells #[.int .u64 y.n,.int .i64 y.s.c,.slice uo y.s.body.length uc] 111 (0,0))) (hx:a.eval x=.slice (some ⟨D,0,none⟩) 1 1) (hu:Qv base w (.slice uo y.s.body.length uc) y.s.body) (hl:l.length<=1099511627776) (hb:B<=w.heap.size)
  (hK:∀ vo vc w',Xr base w' B (.slice vo (l.length+1) vc) (l++[y])->Keep (fun b=>v.ownBlock=some b) w w'->wpList Tryz.prog ops Q rest (a.put o.dst (.slice vo (l.length+1) vc)) w'):wpList Tryz.prog ops Q (o :: rest) a w:=by
 obtain ⟨xs,h1,h2,h3⟩:=h
 obtain ⟨i0,hi0,hz0,hz1,hz2⟩:=info_parts info_item
 refine wpList_plain hg fun K hK'=>?_
 refine wp_append_lies w s x 28 ho B 111 i0 _ 3 40 Tryz.underlying28 hi0 hz0 hz1 hz2 rfl (by omega) v l.length (xs.flatMap Hr) hs h3
  ⟨D,0,none⟩ 1 1 (Hr (y,.slice uo y.s.body.length uc)) hx rfl (World.news_of_block (cs:=#[.int .u64 y.n,.int .i64 y.s.c,.slice uo y.s.body.length uc]) (t:=111) (fr:=(0,0)) hD) (by simp [Hr,Value.oneCell']) (by omega) (by unfold maxLen;omega) (by omega) hb w.heap.size rfl ?_
 intro g cap w' hown hgr hat hlt
 have k:=Jr hgr
 have hF:=ownRow_foot h3 hbB (by decide)
 refine hK' _ _ (hK _ _ _ ⟨xs++[(y,.slice uo y.s.body.length uc)],by simp [h1],fun z hz=>?_,?_⟩ k)
 ·rcases List.mem_append.1 hz with hz | hz
  ·exact (h2 z hz).keep hF k
  ·rw [List.mem_singleton.1 hz];exact hu.keep hF k
 ·rw [List.flatMap_append,List.length_append]
  simpa using hown
theorem recCells_append (a b:List (RecS × Value)):Xu (a++b)=Xu a++Xu b:=by simp [Xu]
theorem wp_append_srec [bn:Inhabited Ban] {base:Nat} {w:World} {o:Oper} {a:Act} {K:Act->World->Prop} {Q:Exit->Act->World->Prop} (s x:Operand)
  (ho:o.op=.call { callee:=.builtin .append,args:=#[s,x],argTypes:=#[31,31] }) {v:Value} {l:List RecS} (h:Yi base w v l) (hs:a.eval s=v) {D:Nat} {y:RecS} {uo:Option Addr} {uc:Nat}
  (hD:w.heap[D]?=some (.cells #[.int .i64 y.who,.int .u64 y.n,.int .i64 y.s.c,.slice uo y.s.body.length uc] 63 (0,0))) (hx:a.eval x=.slice (some ⟨D,0,none⟩) 1 1) (hu:Qv base w (.slice uo y.s.body.length uc) y.s.body) (hl:l.length<=1099511627776) (hb:base<=w.heap.size)
  (hK:∀ vo vc w',Yi base w' (.slice vo (l.length+1) vc) (l++[y])->Keep (fun b=>v.ownBlock=some b) w w'->(∀ b,(Value.slice vo (l.length+1) vc).ownBlock=some b->v.ownBlock=some b\/w.heap.size<=b)->K (a.put o.dst (.slice vo (l.length+1) vc)) w'):o.wp Tryz.prog a w K Q:=by
 obtain ⟨xs,h1,h2,h3⟩:=h
 obtain ⟨i0,hi0,hz0,hz1,hz2⟩:=info_parts info_rec
 refine wp_append_lies w s x 31 ho base 63 i0 _ 4 48 Tryz.underlying31 hi0 hz0 hz1 hz2 rfl (by omega) v l.length (Xu xs) hs h3
  ⟨D,0,none⟩ 1 1 (Jd y (.slice uo y.s.body.length uc)) hx rfl (World.news_of_block (cs:=#[.int .i64 y.who,.int .u64 y.n,.int .i64 y.s.c,.slice uo y.s.body.length uc]) (t:=63) (fr:=(0,0)) hD) (by simp [Jd,Value.oneCell']) (by omega) (by unfold maxLen;omega) (by omega) hb w.heap.size rfl ?_
 intro g cap w' hown hgr hat hlt
 have k:=Jr hgr
 have hF:=ownRow_foot h3 (Nat.le_refl _) (by decide)
 refine hK _ _ _ ⟨xs++[(y,.slice uo y.s.body.length uc)],by simp [h1],fun z hz=>?_,?_⟩ k (fun c hc=>?_)
 ·rcases List.mem_append.1 hz with hz | hz
  ·exact (h2 z hz).keep hF k
  ·rw [List.mem_singleton.1 hz];exact hu.keep hF k
 ·rw [recCells_append,List.length_append]
  have e:Xu [(y,Value.slice uo y.s.body.length uc)]=Jd y (.slice uo y.s.body.length uc):=by simp [Xu]
  rw [e]
  simpa using hown
 ·simp [Value.ownBlock] at hc
  subst hc
  rcases hat with hat | rfl
  ·exact .inl hat
  ·exact .inr (Nat.le_refl _)
end Go.Proofs.YtfdmbomlkpkegaaGreat
