/- Lemmas for ReceiverNil. -/
import Derived.Test.YtfdmbomlkpkegaaGreatS25
import Derived.Test.YtfdmbomlkpkegaaGreatS1
import Derived.Deep.DeepCutAuto
import Derived.Deep.CutBlock
import Derived.Test.YtfdmbomlkpkegaaGreatS2
set_option maxRecDepth 100000
set_option maxHeartbeats 8000000
set_option linter.all false
namespace Go.Proofs.YtfdmbomlkpkegaaGreat
open Go Go.RowKit Go.Dr
def Xf (w:World) (b:Nat) (x:WinS):Prop:=∃ ao cap,w.heap[b]?=some (.cells #[.int .u64 x.low,.int .u64 x.width,.slice ao x.set.length cap] 92 (0,0))/\Zy w (.slice ao x.set.length cap) x.set
theorem Xf.keep {w w':World} {b:Nat} {x:WinS} {F:Nat->Prop} (h:Xf w b x) (hF:Zn w F) (k:Keep F w w') (hb:¬F b):Xf w' b x:=by
 obtain ⟨ao,cap,h1,h2⟩:=h
 exact ⟨ao,cap,k.heap h1 hb,h2.keep hF k⟩
theorem Xf.lt {w:World} {b:Nat} {x:WinS} (h:Xf w b x):b<w.heap.size:=by obtain ⟨_,_,h1,_⟩:=h;exact Qt h1
theorem Xf.footR {w:World} {b:Nat} {x:WinS} (h:Xf w b x):Zn w (·=b):=by obtain ⟨_,_,h1,_⟩:=h;exact Zn.block h1 (by decide)
theorem Xf.foot {w:World} {b base:Nat} {x:WinS} (h:Xf w b x) (hb:base<=b):Foot base w (·=b):=by
 obtain ⟨_,_,h1,_⟩:=h
 rintro c rfl
 exact ⟨hb,Qt h1,fun cs fr e=>by rw [h1] at e;simp at e⟩
theorem Xf.ofV {w:World} {b:Nat} {a0 a1 a2:Value} {x:WinS} {ao:Option Addr} {cap:Nat} (hB:w.heap[b]?=some (.cells #[a0,a1,a2] 92 (0,0))) (hr:Zy w (.slice ao x.set.length cap) x.set) :
  Xf (((w.setCell ⟨b,0,none⟩ (.int .u64 x.low)).setCell ⟨b,1,none⟩ (.int .u64 x.width)).setCell ⟨b,2,none⟩ (.slice ao x.set.length cap)) b x /\
   Keep (·=b) w (((w.setCell ⟨b,0,none⟩ (.int .u64 x.low)).setCell ⟨b,1,none⟩ (.int .u64 x.width)).setCell ⟨b,2,none⟩ (.slice ao x.set.length cap)):=by
 obtain ⟨hZ,kZ⟩:=Rz (.int .u64 x.low) (.int .u64 x.width) (.slice ao x.set.length cap) hB
 exact ⟨⟨ao,cap,hZ,hr.keep (Zn.block hB (by decide)) kZ⟩,kZ⟩
theorem Xr.notIn [bn:Inhabited Ban] {base B i:Nat} {w:World} {v:Value} {l:List Qc} {s:InS} (h:Xr base w B v l) (hi:InAt base w i s):∀ b,v.ownBlock=some b->¬b=i:=by
 rintro b hb rfl
 obtain ⟨_,u,h2,_⟩:=hi
 obtain ⟨_,cur,hz⟩:=h.kind b hb
 rw [hz] at h2
 simp at h2
theorem Xr.byIn [bn:Inhabited Ban] {base B i:Nat} {w w':World} {v:Value} {l:List Qc} {s:InS} (h:Xr base w B v l) (hi:InAt base w i s) (k:Keep (·=i) w w'):Xr base w' B v l:=h.keep hi.foot k (h.notIn hi)
theorem Xf.notIn [bn:Inhabited Ban] {base i b:Nat} {w:World} {x:WinS} {s:InS} (h:Xf w b x) (hi:InAt base w i s):¬b=i:=by
 rintro rfl
 obtain ⟨_,u,h2,_⟩:=hi
 obtain ⟨_,_,hz,_⟩:=h
 rw [hz] at h2
 simp at h2
theorem Xf.byIn [bn:Inhabited Ban] {base i b:Nat} {w w':World} {x:WinS} {s:InS} (h:Xf w b x) (hi:InAt base w i s) (k:Keep (·=i) w w'):Xf w' b x:=h.keep hi.footR k (h.notIn hi)
theorem itemsB_len {l:List Qc} (k:Nat):(Qb (l.drop k)).length<=(Qb l).length:=by
 conv=>rhs;rw [<- List.take_append_drop k l]
 unfold Qb
 rw [List.flatMap_append,List.length_append]
 omega
theorem Xf.cells {w:World} {b:Nat} {x:WinS} (h:Xf w b x):∃ ao cap,w.cell? ⟨b,0,none⟩=some (.int .u64 x.low)/\w.cell? ⟨b,1,none⟩=some (.int .u64 x.width)/\w.cell? ⟨b,2,none⟩=some (.slice ao x.set.length cap)/\(∀ j,w.frozen? ⟨b,j,none⟩=false) /\
  WinV w (.agg #[.int .u64 x.low,.int .u64 x.width,.slice ao x.set.length cap]) x:=by
 obtain ⟨ao,cap,h1,h2⟩:=h
 refine ⟨ao,cap,?_,?_,?_,Qg h1,_,rfl,h2⟩ <;> rw [Qq h1] <;> rfl
theorem Xf.store {w:World} {b:Nat} {x y:WinS} {ao:Option Addr} {cap:Nat} (h:Xf w b x) (hr:Zy w (.slice ao y.set.length cap) y.set) :
  Xf (((w.setCell ⟨b,0,none⟩ (.int .u64 y.low)).setCell ⟨b,1,none⟩ (.int .u64 y.width)).setCell ⟨b,2,none⟩ (.slice ao y.set.length cap)) b y /\
   Keep (·=b) w (((w.setCell ⟨b,0,none⟩ (.int .u64 y.low)).setCell ⟨b,1,none⟩ (.int .u64 y.width)).setCell ⟨b,2,none⟩ (.slice ao y.set.length cap)):=by
 obtain ⟨_,_,h1,_⟩:=h
 exact Xf.ofV h1 hr
theorem Xr.notBox [bn:Inhabited Ban] {base B b:Nat} {w:World} {v:Value} {l:List Qc} {x:WinS} (h:Xr base w B v l) (hb:Xf w b x):∀ c,v.ownBlock=some c->¬c=b:=by
 rintro c hc rfl
 obtain ⟨_,_,h2,_⟩:=hb
 obtain ⟨_,cur,hz⟩:=h.kind c hc
 rw [hz] at h2
 simp at h2
def LedS.part (L:LedS) (a:Nat) (l:List Qc) (k:Nat):LedS:={ L with recs:=L.recs++(l.take k).map (fun x=>⟨a,x.n,x.s⟩) }
theorem Zv.endCells [bn:Inhabited Ban] {base:Nat} {w:World} {q g m:Nat} {lv:Value} {L:LedS} (h:Zv base w q g m lv L) :
  w.cell? ⟨q,114,none⟩=some lv/\w.cell? ⟨q,115,none⟩=some (.int .i64 L.safe)/\w.cell? ⟨q,116,none⟩=some (.map (some m)):=by
 obtain ⟨ags,hz,ha⟩:=h.blk
 obtain ⟨e1,e2,e3⟩:=ledCells_end (g:=g) (inc:=L.inc) (lv:=lv) (safe:=L.safe) (m:=m) ha.seven ha.len
 rw [Qq hz,Qq hz,Qq hz]
 exact ⟨(List.getElem?_toArray ..).trans e1,(List.getElem?_toArray ..).trans e2,(List.getElem?_toArray ..).trans e3⟩
theorem part_new {width a b:Nat} {L:LedS} {l:List Qc} (hok:L.Ok width) (hc:L.can (.put a b l)) {k:Nat} {z:Qc} (hz:l[k]?=some z):∀ r∈(L.part a l k).recs,¬(r.who=a/\r.n=z.n):=by
 have h:=(hok.step hc).once
 obtain ⟨hk,hzz⟩:=List.getElem?_eq_some_iff.1 hz
 have e:(L.step (.put a b l)).recs=(L.part a l k).recs++(⟨a,z.n,z.s⟩ :: (l.drop (k+1)).map (fun x=>⟨a,x.n,x.s⟩)):=by
  have e1:l.map (fun x:Qc=>(⟨a,x.n,x.s⟩:RecS))=(l.take k).map (fun x:Qc=>(⟨a,x.n,x.s⟩:RecS))++(⟨a,z.n,z.s⟩ :: (l.drop (k+1)).map (fun x:Qc=>(⟨a,x.n,x.s⟩:RecS))):=by
   conv=>lhs;rw [<- List.take_append_drop k l,List.drop_eq_getElem_cons hk,hzz,List.map_append,List.map_cons]
  show L.recs++l.map _=(L.recs++_)++_
  rw [e1,List.append_assoc]
 rw [e] at h
 intro r hr
 exact (List.pairwise_append.1 h).2.2 r hr ⟨a,z.n,z.s⟩ List.mem_cons_self
theorem part_succ {a:Nat} {L:LedS} {l:List Qc} {k:Nat} {z:Qc} (hz:l[k]?=some z):L.part a l (k+1)={ L.part a l k with recs:=(L.part a l k).recs++[⟨a,z.n,z.s⟩] }:=by
 obtain ⟨hk,rfl⟩:=List.getElem?_eq_some_iff.1 hz
 unfold LedS.part
 rw [List.take_succ_eq_append_getElem hk,List.map_append,List.append_assoc]
 rfl
theorem Zv.grow [bn:Inhabited Ban] {base:Nat} {w wm wb wa:World} {q g m:Nat} {lv lv2:Value} {L:LedS} {r:RecS} (h:Zv base w q g m lv L) (hm:ByAt wm m (L.recs++[r])) (km:Keep (·=m) w wm) (kb:Keep No wm wb)
  (ha:Yi base wa lv2 (L.recs++[r])) (ka:Keep (fun c=>lv.ownBlock=some c) wb wa) :
  Zv base (wa.setCell ⟨q,114,none⟩ lv2) q g m lv2 { L with recs:=L.recs++[r] }/\Keep (Kw q m lv) w (wa.setCell ⟨q,114,none⟩ lv2):=by
 obtain ⟨ap1,ap2,ap3⟩:=h.apart
 have hFR:=h.footR
 have kall:Keep (Kw q m lv) w wa:=((km.mono (fun x _ e=>.inr (.inl e))).then kb).trans ka (fun x _ e=>.inr (.inr e))
 have hags:=h.blk
 obtain ⟨ags,hz,hag⟩:=hags
 have kq:Keep (fun c=>c=m\/lv.ownBlock=some c) w wa:=((km.mono (fun x _ e=>.inl e)).then kb).trans ka (fun x _ e=>.inr e)
 have hza:=kq.heap hz (fun e=>by rcases e with e | e;exact ap1 e;exact ap2 e)
 have haga:=hag.keep hFR kall
 have hqr:Zn wa (·=q):=Zn.block hza (by decide)
 have hlr:lv2.ownBlock≠some q:=fun e=>by obtain ⟨_,cur,hr⟩:=ha.kind _ e;rw [hza] at hr;simp at hr
 have kz:Keep (·=q) wa (wa.setCell ⟨q,114,none⟩ lv2):=Qd _ _
 refine ⟨⟨⟨ags,?_,haga.keep hqr kz⟩,ha.keep ?_ kz (fun b hb e=>hlr (by rw [hb,show b=q from e])),((hm.keep kb (fun e=>e)).keep ka (fun e=>ap3 e)).keep kz (fun e=>ap1 e.symm),h.qb,h.mb⟩,kall.trans kz (fun x _ e=>.inl e)⟩
 ·rw [Qz hza,Jq,ledCells_setL lv2 hag.seven hag.len]
 ·rintro b rfl
  exact ⟨h.qb,Qt hza,fun cs fr e=>by rw [hza] at e;simp at e⟩
theorem ledCells_set3 {g inc:Nat} {ags:List (List Value)} {lv:Value} {safe m i:Nat} {c:List Value} (u1 u2 u3:Value) (h:∀ a∈ags,a.length=7) (hi:ags[i]?=some c) :
  (((Xq g inc ags lv safe m).set (2+i*7+1) u1).set (2+i*7+2) u2).set (2+i*7+3) u3=Xq g inc (ags.set i (((c.set 1 u1).set 2 u2).set 3 u3)) lv safe m:=by
 have hl:=(List.getElem?_eq_some_iff.1 hi).1
 have hc:=h c (List.mem_of_getElem? hi)
 have h7:∀ d:List Value,d.length=7->∀ a∈ags.set i d,a.length=7:=fun d hd a ha=>by
  rcases List.mem_or_eq_of_mem_set ha with ha | rfl
  ·exact h a ha
  ·exact hd
 rw [Je u1 h hi (by decide),Je (i:=i) (a:=c.set 1 u1) u2 (h7 _ (by simp [hc])) (by simp [hl]) (by decide),List.set_set,
  Je (i:=i) (a:=(c.set 1 u1).set 2 u2) u3 (h7 _ (by simp [hc])) (by simp [hl]) (by decide),List.set_set]
theorem Zv.setNow [bn:Inhabited Ban] {base:Nat} {w:World} {q g m a:Nat} {lv:Value} {L:LedS} {x:AgS} (h:Zv base w q g m lv L) (ha:L.ag[a]?=some x) (y:WinS) {ao:Option Addr} {cap:Nat} (hr:Zy w (.slice ao y.set.length cap) y.set) :
  Zv base (((w.setCell ⟨q,2+a*7+1,none⟩ (.int .u64 y.low)).setCell ⟨q,2+a*7+2,none⟩ (.int .u64 y.width)).setCell ⟨q,2+a*7+3,none⟩ (.slice ao y.set.length cap)) q g m lv { L with ag:=L.ag.modify a (fun g=>{ g with now:=y }) } /\
   Keep (·=q) w (((w.setCell ⟨q,2+a*7+1,none⟩ (.int .u64 y.low)).setCell ⟨q,2+a*7+2,none⟩ (.int .u64 y.width)).setCell ⟨q,2+a*7+3,none⟩ (.slice ao y.set.length cap)):=by
 obtain ⟨hF,hR,_⟩:=h.set 0 (.bool true)
 have k:=((Qd (g:=q) (i:=2+a*7+1) w (.int .u64 y.low)).setCell (p:=⟨q,2+a*7+2,none⟩) (.inl rfl) (.int .u64 y.width)).setCell (p:=⟨q,2+a*7+3,none⟩) (.inl rfl) (.slice ao y.set.length cap)
 obtain ⟨ap1,ap2,ap3⟩:=h.apart
 obtain ⟨ags,hz,hag⟩:=h.blk
 obtain ⟨ns,ss,e,h1,h2⟩:=hag.at' a x ha
 refine ⟨⟨⟨ags.set a (Ki { x with now:=y } (.slice ao y.set.length cap) ss),?_,?_⟩,h.recs.keep hF k (fun b hb e=>ap2 (by rw [hb,show b=q from e])),h.by'.keep k (fun e=>ap1 e.symm),h.qb,h.mb⟩,k⟩
 ·rw [Qz (Qz (Qz hz)),Jq,Jq,Jq,ledCells_set3 _ _ _ hag.seven e]
  rfl
 ·show Hu _ _ (L.ag.modify a (fun g=>{ g with now:=y }))
  rw [Gk _ ha]
  exact (hag.keep hR k).set ha (y:={ x with now:=y }) (hr.keep hR k) (h2.keep hR k)
structure After3 [bn:Inhabited Ban] (base i:Nat) (w wx:World) (b7:Nat) (s:InS) (y:WinS):Prop where
 inp:InAt base wx i s
 box:Xf wx b7 y
 new:w.heap.size<=b7
 k:Keep (·=i) w wx
theorem gDonePut_spec [bn:Inhabited Ban] {base:Nat} {w:World} {q g m i a b width:Nat} {lv:Value} {L:LedS} {l:List Qc} (h:Zv base w q g m lv L) (hok:L.Ok width)
  (hi:InAt base w i ⟨numB a++(numB b++(numB l.length++Qb l)),0⟩) (hc:L.can (.put a b l)) (hlen:(Qb l).length<=1073741824) (hrec:L.recs.length<=1073741824) (hb:base<=w.heap.size) (hT:ban.top<=w.heap.size) :
  Calls Tryz.prog 111 #[.pointer (some ⟨q,0,none⟩),.pointer (some ⟨i,0,none⟩)] w fun e w'=>e=.returned (.bool true)/\∃ lv',Zv base w' q g m lv' (L.step (.put a b l))/\Keep (fun c=>Kw q m lv c\/c=i) w w'/\(∀ c,lv'.ownBlock=some c->lv.ownBlock=some c\/w.heap.size<=c):=by
 obtain ⟨ha16,hb61,hl64,hright,hin⟩:=id hc
 obtain ⟨x,hx,hxo,hxw,_⟩:=hok.at ha16
 rw [hxw] at hin
 have hnl:=Qp (n:=l.length) (by omega)
 have hbl:=Qp (n:=b) (by omega)
 have hal:=Qp (n:=a) (by omega)
 have hn1:=Gx (n:=a) (by omega) (numB b++(numB l.length++Qb l))
 have hn2:=Gx (n:=b) (by omega) (numB l.length++Qb l)
 have hn3:=Gx (n:=l.length) (by omega) (Qb l)
 have hlen1:(numB b++(numB l.length++Qb l)).length<=1099511627776:=by simp only [List.length_append];omega
 have hlen2:(numB l.length++Qb l).length<=1099511627776:=by simp only [List.length_append];omega
 have hlen0:(numB a++(numB b++(numB l.length++Qb l))).length<=1099511627776:=by simp only [List.length_append];omega
 have h1:=gWho_spec hi hlen0 (by rw [hn1];exact ha16)
 rw [hn1] at h1
 have hsk:=hxo.fine.skip (b:=b) (by omega)
 have hpre:=hxo.now.pre
 have hxb:∀ r∈x.now.set,r.2<9223372036854775807:=fun r hr=>by have:=hxo.below _ (hxo.now.set.last hr);omega
 obtain ⟨s1,hs1⟩:∃ s1:InS,s1=⟨numB b++(numB l.length++Qb l),0⟩:=⟨_,rfl⟩
 obtain ⟨s2,hs2⟩:∃ s2:InS,s2=⟨numB l.length++Qb l,0⟩:=⟨_,rfl⟩
 have hnum1:s1.num=(b,s2):=by rw [hs1,hs2];exact hn2
 have hl1:s1.l.length<=1099511627776:=by rw [hs1];exact hlen1
 obtain ⟨y,hy⟩:∃ y,y=x.now.skip b:=⟨_,rfl⟩
 rw [<- hs1] at h1
 rw [<- hy] at hsk hin
 have hai:(a:Int)<16:=by omega
 have HN:=Lib.hid (fun (k:Nat) (z:Qc) (hz:l[k]?=some z)=>part_new hok hc hz)
 have HH:=Lib.hid (A7 h hi hx hb hT hrec hlen)
 have HS:=Lib.hid (A7 hs1 hs2 hnum1 hl1 hn3 hlen2 hb61)
 have HP:=Lib.hid (A7 hsk hin hpre hxb hright hl64 hy)
 clear h hi hx hb hT hrec hlen hs1 hs2 hnum1 hl1 hn3 hlen2 hb61 hsk hin hpre hxb hright hl64 hy hnl hbl hal hn1 hn2 hlen1 hlen0 hxw hok ha16 hc
 go_enter Tryz.func111,Tryz.ntmps111
 go_upto_region 3 with (go_at_call 160;refine h1.mono ?_;rintro e w1 ⟨rfl,hi1,k1⟩)
 clear h1
 go_cut [7] (fun v7 wx=>∃ b7,v7=.pointer (some ⟨b7,0,none⟩)/\After3 base i w wx b7 s2 y)
 case first =>
  obtain ⟨ns,ss,hns,_,_,a1,a2,a3,_⟩:=(HH.out.1.byIn HH.out.2.1 k1).agCell HH.out.2.2.1
  obtain ⟨no,nc,rfl,_,_⟩:=hns.form
  have hii:=HH.out.1.notIn HH.out.2.1 q (.inl rfl)
  have hin1:Zn w1 (·=i):=hi1.footR
  have hnum:=fun (X:World) (hX:InAt base X i s1)=>gNumber_spec hX HS.out.2.2.2.1 (by rw [HS.out.2.2.1];exact HS.out.2.2.2.2.2.2)
  have hskp:=fun (X:World) (kX:Keep (·=i) w1 X)=>wSkip_spec (w:=X) (u:=.agg #[.int .u64 x.now.low,.int .u64 x.now.width,.slice no x.now.set.length nc]) (x:=x.now) ⟨_,rfl,hns.keep hin1 kX⟩ HP.out.2.2.1 HP.out.2.2.2.1 b (by have:=HS.out.2.2.2.2.2.2;omega)
  have HF:=Lib.hid (A4 hnum hskp hi1 k1)
  clear hnum hskp hi1 k1 hns
  have kd:Keep (·=i) w1 w1.drew:=(Keep.refl _ _).drew
  refine wp_drawF (fun w'=>Keep (·=i) w1 w') [0,1,2,3,4] [5,6] [8] 7 (by kernel_rfl) (by kernel_rfl) (fun _ _ _ _ _ h=>h) kd ?_
  iterate 5 (refine Qk (v:=?_) rfl rfl rfl ?_ ?_;rotate_left;focus (
   intro w' hS
   have c1:=hS.cell a1 hii
   have c2:=hS.cell a2 hii
   have c3:=hS.cell a3 hii
   go_simp
   try with_reducible rfl))
  refine Qj ?_
  have hilt:i<w1.heap.size:=(HF.out.2.2.1.foot i rfl).2.1
  refine ⟨?_,?_⟩
  ·refine Qx rfl rfl (fun K hK=>?_)
   go_simp
   have kA:=(kd).alloc (.cells #[.int .u64 0,.int .u64 0,.slice none 0 0] 92)
   have hA:(w1.drew.alloc (.cells #[.int .u64 0,.int .u64 0,.slice none 0 0] 92)).heap[w1.heap.size]?=some (.cells #[.int .u64 0,.int .u64 0,.slice none 0 0] 92 (0,0)):=Qy w1.drew _
   refine hK _ _ kA ?_
   clear hK K
   refine Qx rfl rfl (fun K hK=>?_)
   go_simp
   refine (HF.out.1 _ (HF.out.2.2.1.no (((Keep.refl No w1).drew).alloc (.cells #[.int .u64 0,.int .u64 0,.slice none 0 0] 92)))).mono ?_
   rw [HS.out.2.2.1]
   rintro e w2 ⟨rfl,hi2,k2⟩
   have k12:=(kA).trans k2 (fun _ _ e=>e)
   refine hK _ _ k12 ?_
   clear hK K
   refine Qx rfl rfl (fun K hK=>?_)
   go_simp
   refine (HF.out.2.1 _ (k12)).mono ?_
   rintro e w3 ⟨u3,rfl,hw3,k3⟩
   rw [<- HP.out.2.2.2.2.2.2] at hw3
   obtain ⟨o3,c3,rfl,hr3⟩:=hw3.form
   have k13:=(k12).then k3
   refine hK _ _ k13 ?_
   clear hK K
   have hB:=k3.heap (k2.heap hA (fun e=>by omega)) (fun e=>e)
   have q0:=Qq hB 0
   have q1:=Qq hB 1
   have q2:=Qq hB 2
   have fB:=Qg hB
   simp at q0 q1 q2
   have hin:=hi2.no k3
   have kk:=k13
   refine Qh (Qu rfl (Qm ?_))
   go_wp2_with fail
   go_meet
   obtain ⟨hZ,kZ⟩:=Xf.ofV (x:=y) hB hr3
   have hlt:=hilt
   refine ⟨_,rfl,hin.keepF kZ ?_ (fun e=>by have:=hin.foot _ rfl;omega),hZ,?_,(HF.out.2.2.2.trans kk (fun _ _ e=>e)).trans kZ (fun c hc e=>by have e2:c=_:=e;have:=HF.out.2.2.2.size;omega)⟩
   ·rintro c rfl
    exact ⟨Nat.le_trans hin.at' (by omega),Qt hB,fun cs fr e=>by rw [hB] at e;simp at e⟩
   ·have:=HF.out.2.2.2.size;omega
  ·refine Qx rfl rfl (fun K hK=>?_)
   go_simp
   refine (HF.out.1 _ (HF.out.2.2.1.no (Keep.refl No w1).drew)).mono ?_
   rw [HS.out.2.2.1]
   rintro e w2 ⟨rfl,hi2,k2⟩
   have k12:=(kd).trans k2 (fun _ _ e=>e)
   refine hK _ _ k12 ?_
   clear hK K
   refine Qh ⟨?_,?_⟩
   ·refine Qx rfl rfl (fun K hK=>?_)
    go_simp
    have kA:=(k12).alloc (.cells #[.int .u64 0,.int .u64 0,.slice none 0 0] 92)
    have hA:(w2.alloc (.cells #[.int .u64 0,.int .u64 0,.slice none 0 0] 92)).heap[w2.heap.size]?=some (.cells #[.int .u64 0,.int .u64 0,.slice none 0 0] 92 (0,0)):=Qy w2 _
    refine hK _ _ kA ?_
    clear hK K
    refine Qx rfl rfl (fun K hK=>?_)
    go_simp
    refine (HF.out.2.1 _ (kA)).mono ?_
    rintro e w3 ⟨u3,rfl,hw3,k3⟩
    rw [<- HP.out.2.2.2.2.2.2] at hw3
    obtain ⟨o3,c3,rfl,hr3⟩:=hw3.form
    have k13:=(kA).then k3
    refine hK _ _ k13 ?_
    clear hK K
    have hB:=k3.heap hA (fun e=>e)
    have q0:=Qq hB 0
    have q1:=Qq hB 1
    have q2:=Qq hB 2
    have fB:=Qg hB
    simp at q0 q1 q2
    have hin:=(hi2.no ((Keep.refl No w2).alloc (.cells #[.int .u64 0,.int .u64 0,.slice none 0 0] 92))).no k3
    have kk:=k13
    refine Qh (Qu rfl (Qm ?_))
    go_wp2_with fail
    go_meet
    obtain ⟨hZ,kZ⟩:=Xf.ofV (x:=y) hB hr3
    have hlt:=k12.size
    refine ⟨_,rfl,hin.keepF kZ ?_ (fun e=>by have:=hin.foot _ rfl;omega),hZ,?_,(HF.out.2.2.2.trans kk (fun _ _ e=>e)).trans kZ (fun c hc e=>by have e2:c=_:=e;have:=HF.out.2.2.2.size;omega)⟩
    ·rintro c rfl
     exact ⟨Nat.le_trans hin.at' (by omega),Qt hB,fun cs fr e=>by rw [hB] at e;simp at e⟩
    ·have:=HF.out.2.2.2.size;omega
   ·refine Qx rfl rfl (fun K hK=>?_)
    go_simp
    refine (HF.out.2.1 _ (k12)).mono ?_
    rintro e w3 ⟨u3,rfl,hw3,k3⟩
    rw [<- HP.out.2.2.2.2.2.2] at hw3
    obtain ⟨o3,c3,rfl,hr3⟩:=hw3.form
    have k13:=(k12).then k3
    refine hK _ _ k13 ?_
    clear hK K
    refine Qh ?_
    refine Qx rfl rfl (fun K hK=>?_)
    go_simp
    have kA:=(k13).alloc (.cells #[.int .u64 0,.int .u64 0,.slice none 0 0] 92)
    have hA:(w3.alloc (.cells #[.int .u64 0,.int .u64 0,.slice none 0 0] 92)).heap[w3.heap.size]?=some (.cells #[.int .u64 0,.int .u64 0,.slice none 0 0] 92 (0,0)):=Qy w3 _
    refine hK _ _ kA ?_
    clear hK K
    have hin:=hi2.no k3
    have hlt:=k13.size
    refine Qh (Qu rfl (Qm ?_))
    go_wp2_with fail
    go_meet
    have kY:=(Keep.refl No w3).alloc (.cells #[.int .u64 y.low,.int .u64 y.width,.slice o3 y.set.length c3] 92)
    refine ⟨_,rfl,hin.no kY,⟨o3,c3,Qy _ _,hr3.no kY⟩,?_,(HF.out.2.2.2.trans k13 (fun _ _ e=>e)).then kY⟩
    have:=HF.out.2.2.2.size
    omega
 case rest =>
  obtain ⟨b7,rfl,hA3⟩:=hcut
  have hnum:=Gm hA3.inp (by rw [HS.out.2.1];exact HS.out.2.2.2.2.2.1)
  rw [HS.out.2.1,HS.out.2.2.2.2.1] at hnum
  go_wp2_with fail
  refine hnum.mono ?_
  rintro e w2 ⟨rfl,hi2,k2⟩
  clear hnum
  have h64:(l.length:Int)<=64:=by have:=HP.out.2.2.2.2.2.1;omega
  have HA:=Lib.hid (A3 hA3 k2 hi2)
  have hbw2:base<=w2.heap.size:=Nat.le_trans HH.out.2.2.2.1 (Nat.le_trans hA3.k.size k2.size)
  clear hA3 k2 hi2
  go_wp2_with fail
  go_loopw [8,9] (fun v8 v9 wr=>∃ k,k<=l.length/\v9=.int .u64 ((l.length-k:Nat):Int)/\Xr base wr w2.heap.size v8 (l.take k)/\InAt base wr i ⟨Qb (l.drop k),0⟩/\Keep (·=i) w2 wr) (fun _ v9 _=>(intOf v9).toNat)
  case atStart=>exact ⟨0,Nat.zero_le _,rfl,Xr.nil _ _ _,HA.out.2.2,Keep.refl _ _⟩
  case round =>
   obtain ⟨k,hk,rfl,hits,hin,kr⟩:=hrel
   obtain ⟨vo,vc,rfl,_,_⟩:=hits.form
   obtain ⟨d,hd⟩:∃ d,d=l.length-k:=⟨_,rfl⟩
   rw [<- hd]
   by_cases hlt:k<l.length
   ·have hx:l[k]?=some l[k]:=List.getElem?_eq_getElem hlt
    obtain ⟨z,hz⟩:∃ z,z=l[k]:=⟨_,rfl⟩
    rw [<- hz] at hx
    have hzr:=HP.out.2.2.2.2.1 z (List.mem_of_getElem? hx)
    have hdrop:l.drop k=z :: l.drop (k+1):=by rw [List.drop_eq_getElem_cons hlt,hz]
    have htake:l.take (k+1)=l.take k++[z]:=by rw [List.take_succ_eq_append_getElem hlt,hz]
    have hib:Qb (l.drop k)=z.bytes++Qb (l.drop (k+1)):=by rw [hdrop];simp [Qb]
    have hil:=itemsB_len (l:=l) k
    have hgi:=tGet_spec hin (by show (Qb (l.drop k)).length<=_;have:=HH.out.2.2.2.2.2.2;omega)
    have hit:InS.item ⟨Qb (l.drop k),0⟩=(z,⟨Qb (l.drop (k+1)),0⟩):=by rw [hib];exact item_bytes (by have:=hzr.1;omega) hzr.2 _
    rw [hit] at hgi
    have her:=Vl hin
    have hdpos:(0:Int)<(d:Int):=by omega
    have hdw:IntKind.u64.wrap ((d:Int) - 1)=((d - 1:Nat):Int):=by rw [wraps_u64 _ (by omega) (by omega)];omega
    have hlk:(l.take k).length<=64:=by have:=HP.out.2.2.2.2.2.1;simp;omega
    obtain ⟨tk,htk⟩:∃ tk,tk=l.take k:=⟨_,rfl⟩
    rw [<- htk] at hits htake hlk ⊢
    have HR:=Lib.hid (A7 hits hin kr htake hd hlt hlk)
    obtain ⟨d1,hd1⟩:∃ d1,d1=d - 1:=⟨_,rfl⟩
    rw [<- hd1] at hdw
    have HD:=Lib.hid hd1
    clear hits hin kr htake hd hlt hlk hd1 hx hz hzr hdrop hib hil hit hk htk
    go_wp2_with (go_at_call 156;refine her.mono ?_;rintro e w3 ⟨rfl,hw3⟩;subst hw3)
    refine hgi.mono ?_
    rintro e w4 ⟨v4,rfl,own4,hin4,k4⟩
    clear hgi her
    obtain ⟨o4,c4,rfl⟩:=own4.form
    have hits4:=HR.out.1.byIn HR.out.2.1 k4
    have hB4:=own4.bytes (base:=base) (fun _=>Nat.le_trans HH.out.2.2.2.2.1 (Nat.le_trans HA.out.1.k.size (Nat.le_trans HA.out.2.1.size HR.out.2.2.1.size)))
    have kA:=(Keep.refl No w4).alloc (.cells #[.int .u64 z.n,.int .i64 z.s.c,.slice o4 z.s.body.length c4] 111)
    have hnew:=Qy w4 (.cells #[.int .u64 z.n,.int .i64 z.s.c,.slice o4 z.s.body.length c4] 111)
    have hbs:w2.heap.size<=(w4.alloc (.cells #[.int .u64 z.n,.int .i64 z.s.c,.slice o4 z.s.body.length c4] 111)).heap.size:=by
     have h3:=HR.out.2.2.1.size
     have h4:=k4.size
     have h5:=kA.size
     omega
    have H4:=Lib.hid (A6 (hits4.no kA) (hin4.no kA) (k4.then kA) hnew (hB4.no kA) hbs)
    clear hits4 own4 hin4 k4 hB4 kA hnew hbs
    go_wp2_with (at_builtin;refine wpList_append_item rfl _ _ rfl H4.out.1 hbw2 rfl H4.out.2.2.2.1 rfl H4.out.2.2.2.2.1 (by have:=HR.out.2.2.2.2.2.2;omega) H4.out.2.2.2.2.2 ?_;intro vo5 vc5 w5 hits5 k5)
    go_roundw
    case rel =>
     have hfr:Zn (w4.alloc (.cells #[.int .u64 z.n,.int .i64 z.s.c,.slice o4 z.s.body.length c4] 111)) (fun b=>(Value.slice vo tk.length vc).ownBlock=some b):=fun b hb hr=>by
      obtain ⟨_,cur,hz⟩:=H4.out.1.kind b hb
      obtain ⟨cs,fr,e⟩:=hr
      rw [hz] at e;simp at e
     have hni:=H4.out.1.notIn H4.out.2.1
     have hfo:Foot base (w4.alloc (.cells #[.int .u64 z.n,.int .i64 z.s.c,.slice o4 z.s.body.length c4] 111)) (fun b=>(Value.slice vo tk.length vc).ownBlock=some b):=fun b hb=>by
      obtain ⟨hq,cur,hz⟩:=H4.out.1.kind b hb
      exact ⟨Nat.le_trans hbw2 hq,Qt hz,fun cs fr e=>by rw [hz] at e;simp at e⟩
     refine ⟨k+1,by have:=HR.out.2.2.2.2.2.1;omega,by congr 1;have:=HR.out.2.2.2.2.1;have:=HD.out;omega,?_,H4.out.2.1.keepF k5 hfo (fun e=>hni _ e rfl),?_⟩
     ·rw [HR.out.2.2.2.1]
      exact hits5
     ·refine (HR.out.2.2.1.trans H4.out.2.2.1 (fun _ _ e=>e)).trans k5 (fun c hc e=>?_)
      have:=(H4.out.1.kind c e).1
      omega
    case measure=>have:=HR.out.2.2.2.2.1;have:=HR.out.2.2.2.2.2.1;have:=HD.out;simp [intOf];omega
   ·have hke:k=l.length:=by omega
    have hd0:d=0:=by omega
    subst hd0
    have hdz:¬(0:Int)<((0:Nat):Int):=by omega
    rw [hke,List.take_of_length_le (Nat.le_refl _)] at hits
    rw [hke,List.drop_length] at hin
    have hend:=iEnd_spec hin
    have e0:InS.end' ⟨Qb [],0⟩=⟨[],0⟩:=end_nil
    rw [e0] at hend
    have htl:(l.take k).length=l.length:=by rw [hke,List.take_of_length_le (Nat.le_refl _)]
    rw [htl]
    have HR:=Lib.hid (A3 hits hin kr)
    clear hits hin kr hd hlt hke hk htl
    go_wp2_with fail
    refine hend.mono ?_
    rintro e w3 ⟨rfl,hin3,k3⟩
    clear hend
    have hits3:=HR.out.1.byIn HR.out.2.1 k3
    have hbx2:=HA.out.1.box.byIn HA.out.1.inp HA.out.2.1
    have hbx:=(hbx2.byIn HA.out.2.2 HR.out.2.2).byIn HR.out.2.1 k3
    have kw3:Keep (·=i) w w3:=((HA.out.1.k.trans HA.out.2.1 (fun _ _ e=>e)).trans HR.out.2.2 (fun _ _ e=>e)).trans k3 (fun _ _ e=>e)
    have H3:=Lib.hid (A5 hits3 hbx kw3 hin3 HA.out.1.new)
    clear hits3 hbx2 hbx kw3 hin3 k3
    go_wp2_with fail
    go_loopw [50] (fun v50 wr=>∃ k,v50=.int .i64 (k:Nat)/\k<=l.length/\Xf wr b7 (y.putAll (l.take k))/\Keep (·=b7) w3 wr) (fun v50 _=>l.length - (intOf v50).toNat)
    case atStart=>exact ⟨0,rfl,Nat.zero_le _,H3.out.2.1,Keep.refl _ _⟩
    case round =>
     obtain ⟨k,rfl,hk,hbx,kr⟩:=hrel
     have hitr:=H3.out.1.keep (H3.out.2.1.foot (Nat.le_trans HH.out.2.2.2.1 H3.out.2.2.2.2)) kr (H3.out.1.notBox H3.out.2.1)
     by_cases hlt:k<l.length
     ·have hx:l[k]?=some l[k]:=List.getElem?_eq_getElem hlt
      generalize l[k]=z at hx
      have hzr:=HP.out.2.2.2.2.1 z (List.mem_of_getElem? hx)
      obtain ⟨t,ht⟩:∃ t,t=y.putAll (l.take k):=⟨_,rfl⟩
      have hfine:t.Fine width:=by rw [ht];exact HP.out.1.putAll (fun x hx=>(HP.out.2.2.2.2.1 x (List.mem_of_mem_take hx)).1)
      have htk:t.takes z.n=true:=by rw [ht];exact allIn_at HP.out.2.1 hx
      have hsu:y.putAll (l.take (k+1))=t.put z.n:=by rw [ht];exact putAll_succ y hx
      rw [<- ht] at hbx
      obtain ⟨gi,ui,hgi,hub,e0,e1,e2⟩:=hitr.cell hx
      obtain ⟨uo,uc,rfl⟩:=hub.form
      obtain ⟨bo,bc,b0,b1,b2,fb,hv⟩:=hbx.cells
      have hki:(k:Int)<(l.length:Int):=by omega
      have hz61:¬(2305843009213693952:Int)<=(z.n:Int):=by have:=hzr.1;omega
      have kA:=(Keep.refl No wr).alloc (.cells #[.int .u64 z.n,.int .i64 z.s.c,.slice uo z.s.body.length uc] 111)
      have b0A:=fun o=>((Keep.refl No wr).alloc o).cell b0 (fun e=>e)
      have b1A:=fun o=>((Keep.refl No wr).alloc o).cell b1 (fun e=>e)
      have b2A:=fun o=>((Keep.refl No wr).alloc o).cell b2 (fun e=>e)
      have htks:=wTakes_spec (hv.no kA) hfine.ok.pre z.n
      rw [htk] at htks
      have hput:=fun (w':World) (k:Keep No (wr.alloc (.cells #[.int .u64 z.n,.int .i64 z.s.c,.slice uo z.s.body.length uc] 111)) w')=>wPut_spec ((hv.no kA).no k) hfine.ok z.n (by have:=hzr.1;omega)
      have hbA:=hbx.keep (Zn.no _) kA (fun e=>e)
      have hnewA:=Qy wr (.cells #[.int .u64 z.n,.int .i64 z.s.c,.slice uo z.s.body.length uc] 111)
      subst hgi
      have HR:=Lib.hid (A7 kr kA hbA hput hnewA hsu hlt)
      clear hzr hfine htk hsu hbx hitr hub hv kA hput hbA hnewA hlt ht hx hk kr
      go_wp2_with (first
       | (go_at_call 66;refine (HR.out.2.2.2.1 w6 k6).mono ?_;rintro e w7 ⟨u7,rfl,hv7,k7⟩;obtain ⟨o7,c7,rfl,hr7⟩:=hv7.form;have hb7:=(HR.out.2.2.1.keep (Zn.no _) k6 (fun e=>e)).keep (Zn.no _) k7 (fun e=>e);have r0:=k7.cell p0 (fun e=>e);have r1:=k7.cell p1 (fun e=>e);have r2:=k7.cell p2 (fun e=>e);obtain ⟨_,_,_,_,_,fp,_⟩:=hb7.cells)
       | (go_at_call 65;refine htks.mono ?_;rintro e w6 ⟨rfl,k6⟩;have p0:=k6.cell (b0A _) (fun e=>e);have p1:=k6.cell (b1A _) (fun e=>e);have p2:=k6.cell (b2A _) (fun e=>e);have hn6:=k6.heap HR.out.2.2.2.2.1 (fun e=>e);have n0:=Qq hn6 0;simp at n0))
      obtain ⟨hst,kst⟩:=hb7.store hr7
      refine ⟨⟨k+1,by congr 1,by have:=HR.out.2.2.2.2.2.2;omega,?_,(((HR.out.1.then HR.out.2.1).then k6).then k7).trans kst (fun _ _ e=>e)⟩,by have:=HR.out.2.2.2.2.2.2;simp [intOf];omega⟩
      rw [HR.out.2.2.2.2.2.1]
      exact hst
     ·have hke:k=l.length:=by omega
      have hki:¬(k:Int)<(l.length:Int):=by omega
      rename World=>w8
      rw [hke,List.take_of_length_le (Nat.le_refl _)] at hbx
      have hl3:=HH.out.1.byIn HH.out.2.1 H3.out.2.2.1
      have hnb:∀ c,Kw q m lv c->¬c=b7:=fun c hc e=>by have:=HH.out.1.lt c hc;have:=H3.out.2.2.2.2;omega
      have hl8:=hl3.keep (H3.out.2.1.foot (Nat.le_trans HH.out.2.2.2.1 H3.out.2.2.2.2)) H3.out.2.1.footR kr hnb
      have hw8:w.heap.size<=w8.heap.size:=Nat.le_trans H3.out.2.2.1.size kr.size
      have H8:=Lib.hid (A6 hitr hbx hl8 kr hw8 hnb)
      clear hitr hbx hl8 hl3 kr hw8 hnb hk hlt hke
      go_wp2_with fail
      go_loopw [71] (fun v71 wr=>∃ k lv',v71=.int .i64 (k:Nat)/\k<=l.length/\Zv base wr q g m lv' (L.part a l k)/\Keep (Kw q m lv) w8 wr/\(∀ c,lv'.ownBlock=some c->lv.ownBlock=some c\/w8.heap.size<=c)) (fun v71 _=>l.length - (intOf v71).toNat)
      case atStart=>exact ⟨0,lv,rfl,Nat.zero_le _,by unfold LedS.part;simpa using H8.out.2.2.1,Keep.refl _ _,fun c e=>.inl e⟩
      case round =>
       obtain ⟨k,lv',rfl,hk,hled,kq,how⟩:=hrel
       have hitq:=H8.out.1.keep H8.out.2.2.1.foot kq (fun c hc hf=>by
        obtain ⟨_,cur,hz⟩:=H8.out.1.kind c hc
        obtain ⟨_,h3⟩:=H8.out.2.2.1.kind hf
        rcases h3 with ⟨cs,t,hz2,ht⟩ | ⟨es,clock,hz2⟩
        ·rw [hz] at hz2;simp at hz2;obtain ⟨_,rfl⟩:=hz2;rcases ht with ht | ht <;> simp at ht
        ·rw [hz] at hz2;simp at hz2)
       by_cases hlt:k<l.length
       ·have hx:l[k]?=some l[k]:=List.getElem?_eq_getElem hlt
        generalize l[k]=z at hx
        have hnw:=HN.out k z hx
        have hps:=part_succ (a:=a) (L:=L) hx
        obtain ⟨gi,ui,hgi,hub,e0,e1,e2⟩:=hitq.cell hx
        obtain ⟨uo,uc,rfl⟩:=hub.form
        subst hgi
        have hki:(k:Int)<(l.length:Int):=by omega
        obtain ⟨c114,_,c116⟩:=hled.endCells
        obtain ⟨lo,lc,hlv,hlc1,hlc2⟩:=hled.recs.form
        subst hlv
        have hrl:(L.part a l k).recs.length<=1073741824+64:=by
         have h1:=HH.out.2.2.2.2.2.1
         have h2:=HP.out.2.2.2.2.2.1
         show (L.recs++_).length<=_
         rw [List.length_append,List.length_map,List.length_take]
         omega
        obtain ⟨P,hP⟩:∃ P,P=L.part a l k:=⟨_,rfl⟩
        rw [<- hP] at hled hnw hps hrl c114 hlc1 how
        have hrli:(P.recs.length:Int)<=1073741888:=by omega
        have hfq:=hled.incCell.2.2
        obtain ⟨W2,hW2⟩:∃ W2,W2=(wr.alloc (.cells #[.int .u64 z.n,.int .i64 z.s.c,.slice uo z.s.body.length uc] 111)).alloc (.cells #[.int .i64 a,.int .u64 z.n] 58):=⟨_,rfl⟩
        have k2:Keep No wr W2:=by rw [hW2];exact ((Keep.refl _ _).alloc _).alloc _
        have itA:W2.heap[wr.heap.size]?=some (.cells #[.int .u64 z.n,.int .i64 z.s.c,.slice uo z.s.body.length uc] 111 (0,0)):=by
         rw [hW2]
         exact ((Keep.refl No _).alloc _).heap (Qy _ _) (fun e=>e)
        have idA:W2.heap[wr.heap.size+1]?=some (.cells #[.int .i64 a,.int .u64 z.n] 58 (0,0)):=by
         rw [hW2]
         have:=Qy (wr.alloc (.cells #[.int .u64 z.n,.int .i64 z.s.c,.slice uo z.s.body.length uc] 111)) (.cells #[.int .i64 a,.int .u64 z.n] 58)
         rw [World.size_alloc] at this
         exact this
        obtain ⟨wm,hrun,hby,km⟩:=((hled.no (k2.drew)).by').push ⟨a,z.n,z.s⟩ hnw
        have d114:=k2.cell c114 (fun e=>e)
        have d116:=k2.cell c116 (fun e=>e)
        have i0:=Qq idA 0
        have i1:=Qq idA 1
        simp at i0 i1
        have HR:=Lib.hid (A12 hled kq how hps hlt k2 itA idA hby km hub hrl)
        clear hled kq how hps hlt k2 itA idA hby km hub hrl hitq hnw hP hk hx hlc1 hlc2
        go_wp2_with fail
        rw [<- hW2]
        clear hW2
        have kd:Keep No W2 W2.drew:=(Keep.refl _ _).drew
        refine Ql (fun w'=>Keep No W2 w') [0,1,2,3,4,5,6,7,8,9] [] [10] (by kernel_rfl) (by kernel_rfl) (fun _ _ _ _ _ h=>h) kd ?_
        iterate 10 (refine Qk (v:=?_) rfl rfl rfl ?_ ?_;rotate_left;focus (
         intro w' hS
         have f114:=hS.cell d114 (fun e=>e)
         have f116:=hS.cell d116 (fun e=>e)
         have j0:=hS.cell i0 (fun e=>e)
         have j1:=hS.cell i1 (fun e=>e)
         go_simp
         try with_reducible rfl))
        refine Qj (Qh (Qu rfl (Qm ?_)))
        go_wp2_with fail
        have hrun':=hrun
        clear hrun d114 d116 i0 i1
        obtain ⟨ap1,ap2,ap3⟩:=HR.out.1.apart
        have hmlt:=HR.out.1.lt m (.inr (.inl rfl))
        have hole:=fun c (hc:(Value.slice lo P.recs.length lc).ownBlock=some c)=>HR.out.1.lt c (.inr (.inr hc))
        have km:=HR.out.2.2.2.2.2.2.2.2.2.1
        have kdm:Keep No wr W2.drew:=HR.out.2.2.2.2.2.1.drew
        have m114:=km.cell (kdm.cell c114 (fun e=>e)) (show ¬q=m from ap1)
        have itm:=km.heap (kd.heap HR.out.2.2.2.2.2.2.1 (fun e=>e)) (show ¬wr.heap.size=m by omega)
        have idm:=km.heap (kd.heap HR.out.2.2.2.2.2.2.2.1 (fun e=>e)) (show ¬wr.heap.size+1=m by omega)
        have t1:=Qq itm 1
        have t2:=Qq itm 2
        have i0:=Qq idm 0
        have i1:=Qq idm 1
        simp at t1 t2 i0 i1
        have hFm:Foot base W2.drew (·=m):=by
         rintro c rfl
         obtain ⟨h1,h2⟩:=(HR.out.1.no kdm).kind (b:=c) (.inr (.inl rfl))
         obtain ⟨es,clock,hz,_⟩:=(HR.out.1.no kdm).by'
         exact ⟨h1,Qt hz,fun cs fr e=>by rw [hz] at e;simp at e⟩
        have hRm:=((HR.out.1.no kdm).recs).keep hFm km (fun c hc e=>ap3 (by rw [hc,show c=m from e]))
        have hbm:=((HR.out.2.2.2.2.2.2.2.2.2.2.1).no kdm).keep hFm km
        have hnq:¬(Value.slice lo P.recs.length lc).ownBlock=some q:=ap2
        have hn1:¬(Value.slice lo P.recs.length lc).ownBlock=some wr.heap.size:=fun e=>by have:=hole _ e;omega
        have hn2:¬(Value.slice lo P.recs.length lc).ownBlock=some (wr.heap.size+1):=fun e=>by have:=hole _ e;omega
        have hszm:W2.heap.size<=wm.heap.size:=km.size
        have hsz2:=HR.out.2.2.2.2.2.1.size
        have kd2:Keep (fun c=>(Value.slice lo P.recs.length lc).ownBlock=some c) wm wm.drew:=(Keep.refl _ _).drew
        refine Ql (fun w'=>Keep (fun c=>(Value.slice lo P.recs.length lc).ownBlock=some c) wm w') [0,1,2,3,4,5,6,7,8] [9,10] [11,12,13] (by kernel_rfl) (by kernel_rfl) (fun _ _ _ _ _ h=>h) kd2 ?_
        iterate 9 (refine Qk (v:=?_) rfl rfl rfl ?_ ?_;rotate_left;focus (
         intro w' hS
         have f114:=hS.cell m114 hnq
         have g1:=hS.cell t1 hn1
         have g2:=hS.cell t2 hn1
         have j0:=hS.cell i0 hn2
         have j1:=hS.cell i1 hn2
         go_simp
         try with_reducible rfl))
        refine Qj (Qx rfl rfl (fun K hK=>?_))
        go_simp
        have kB:=(Keep.refl No wm).drew.alloc (.cells #[.int .i64 a,.int .u64 z.n,.int .i64 z.s.c,.slice uo z.s.body.length uc] 63)
        have hnewB:=Qy wm.drew (.cells #[.int .i64 a,.int .u64 z.n,.int .i64 z.s.c,.slice uo z.s.body.length uc] 63)
        refine hK _ _ kB.no ?_
        clear hK K
        refine Qx rfl rfl (fun K hK=>?_)
        refine wp_append_srec (y:=⟨a,z.n,z.s⟩) _ _ rfl (hRm.keep (Foot.no _ _) kB (fun _ _ e=>e)) rfl hnewB rfl (hbm.no kB) (by have:=HR.out.2.2.2.2.2.2.2.2.2.2.2;omega) (Nat.le_trans HH.out.2.2.2.1 (Nat.le_trans H8.out.2.2.2.2.1 (Nat.le_trans HR.out.2.1.size (Nat.le_trans hsz2 (Nat.le_trans hszm kB.size))))) ?_
        intro vo vc wa hra ka hoa
        have ka':Keep (fun c=>(Value.slice lo P.recs.length lc).ownBlock=some c) wm wa:=(kB.no (F:=fun c=>(Value.slice lo P.recs.length lc).ownBlock=some c)).trans ka (fun _ _ e=>e)
        refine hK _ _ ka' ?_
        clear hK K
        have hgrow:=(HR.out.1.no kdm).grow HR.out.2.2.2.2.2.2.2.2.1 km kB hra ka
        have m114a:=ka'.cell m114 hnq
        have hfa:∀ j,wa.frozen? ⟨q,j,none⟩=false:=by
         obtain ⟨ags,hz,_⟩:=(HR.out.1.no kdm).blk
         exact Qg (ka'.heap (km.heap hz (show ¬q=m from ap1)) hnq)
        have HG:=Lib.hid (A6 hgrow kdm hoa hszm hsz2 kB.size)
        clear hgrow kdm hoa hra ka ka' kB hnewB hRm hbm m114 itm idm t1 t2 i0 i1 hFm hole ap1 ap2 ap3 hmlt km hszm hsz2
        refine Qh (Qu rfl (Qu rfl (Qu rfl (Qm ?_))))
        go_wp2_with fail
        refine ⟨⟨k+1,.slice vo (P.recs.length+1) vc,by congr 1,by have:=HR.out.2.2.2.2.1;omega,by rw [HR.out.2.2.2.1];exact HG.out.1.1,?_,?_⟩,by have:=HR.out.2.2.2.2.1;simp [intOf];omega⟩
        ·refine (HR.out.2.1.then HG.out.2.1).trans HG.out.1.2 (fun c hc e=>?_)
         rcases e with e | e | e
         ·exact .inl e
         ·exact .inr (.inl e)
         ·rcases HR.out.2.2.1 c e with e | e
          ·exact .inr (.inr e)
          ·omega
        ·intro c hc
         rcases HG.out.2.2.1 c hc with e | e
         ·exact HR.out.2.2.1 c e
         ·have h1:=HR.out.2.1.size
          have h2:=HG.out.2.2.2.1
          have h3:=HG.out.2.2.2.2.1
          have h4:=HG.out.2.2.2.2.2
          exact .inr (Nat.le_trans h1 (Nat.le_trans h3 (Nat.le_trans h2 (Nat.le_trans h4 e))))
       ·have hke:k=l.length:=by omega
        have hki:¬(k:Int)<(l.length:Int):=by omega
        have hbx:=H8.out.2.1.keep H8.out.2.2.1.footR kq (fun e=>H8.out.2.2.2.2.2 _ e rfl)
        have hag:(L.part a l k).ag[a]?=some x:=HH.out.2.2.1
        obtain ⟨ns,ss,_,_,_,a1,a2,a3,_⟩:=hled.agCell hag
        obtain ⟨bo,bc,b0,b1,b2,_,v,hv1,hv2⟩:=hbx.cells
        simp at hv1
        subst hv1
        have fq:=hled.incCell.2.2
        obtain ⟨hsn,ksn⟩:=hled.setNow hag (y.putAll l) hv2
        have HZ:=Lib.hid (A4 hsn ksn kq how)
        have HK:=Lib.hid hke
        obtain ⟨t,ht⟩:∃ t,t=y.putAll l:=⟨_,rfl⟩
        rw [<- ht] at HZ b0 b1 b2
        have HT:=Lib.hid ht
        clear hsn ksn kq how hbx hled hitq hv2 hk hlt ht hke hag
        go_wp2_with fail
        go_ret
        have hst:L.step (.put a b l)={ L.part a l k with ag:=(L.part a l k).ag.modify a (fun g=>{ g with now:=t }) }:=by
         have hx:=HH.out.2.2.1
         show ({ L with ag:=L.ag.modify a (fun g=>{ g with now:=(g.now.skip b).putAll l }),recs:=L.recs++l.map (fun x=>⟨a,x.n,x.s⟩) }:LedS)={ L with ag:=L.ag.modify a (fun g=>{ g with now:=t }),recs:=L.recs++(l.take k).map (fun x=>⟨a,x.n,x.s⟩) }
         rw [Gk _ hx,Gk _ hx,HK.out,List.take_of_length_le (Nat.le_refl _),HT.out,HP.out.2.2.2.2.2.2]
        refine ⟨rfl,lv',by rw [hst];exact HZ.out.1,?_,?_⟩
        ·refine ((((H3.out.2.2.1.mono (fun c _ e=>.inr e)).trans H8.out.2.2.2.1 (fun c hc e=>?_)).trans HZ.out.2.2.1 (fun c _ e=>.inl e)).trans HZ.out.2.1 (fun c _ e=>.inl (.inl e)))
         have e:c=b7:=e
         have:=H3.out.2.2.2.2
         omega
        ·intro c hc
         rcases HZ.out.2.2.2 c hc with e | e
         ·exact .inl e
         ·exact .inr (Nat.le_trans H8.out.2.2.2.2.1 e)
def DonePost [bn:Inhabited Ban] (base:Nat) (w:World) (q g m:Nat) (lv:Value) (L:LedS) (w':World):Prop :=
 ∃ lv',Zv base w' q g m lv' L/\Keep (Kw q m lv) w w'/\(∀ c,lv'.ownBlock=some c->lv.ownBlock=some c\/w.heap.size<=c)
theorem gDone_spec [bn:Inhabited Ban] {base:Nat} {w:World} {q g m width:Nat} {lv pv:Value} {L:LedS} {r:LRec} (h:Zv base w q g m lv L) (hok:L.Ok width) (hp:Qv base w pv r.bytes) (hc:L.can r)
  (hlen:r.bytes.length<=1073741824) (hrec:L.recs.length<=1073741824) (hb:base<=w.heap.size) (hT:ban.top<=w.heap.size) :
  Calls Tryz.prog 57 #[.pointer (some ⟨q,0,none⟩),pv] w fun e w'=>e=.returned (.bool true)/\DonePost base w q g m lv (L.step r) w':=by
 obtain ⟨po,pc,rfl⟩:=hp.form
 have hof:=pOf_spec hp hb hT (by omega)
 obtain ⟨n,hn⟩:∃ n,n=r.bytes.length:=⟨_,rfl⟩
 rw [<- hn] at hof ⊢
 have HH:=Lib.hid (A7 h hok hc hlen hrec hb hT)
 clear h hok hp hlen hrec hb hT hn
 have fin:∀ {w1 w2 w':World} {i:Nat} {lv':Value} {L':LedS},Keep No w w1->w.heap.size<=i->Keep (·=i) w1 w2->Zv base w' q g m lv' L'->Keep (fun c=>Kw q m lv c\/c=i) w2 w'->(∀ c,lv'.ownBlock=some c->lv.ownBlock=some c\/w2.heap.size<=c)->DonePost base w q g m lv L' w':=by
  intro w1 w2 w' i lv' L' k1 hi k2 hl k3 ho
  refine ⟨lv',hl,((k1.no (F:=Kw q m lv)).trans k2 (fun c hc e=>?_)).trans k3 (fun c hc e=>?_),fun c hcc=>?_⟩
  ·have e:c=i:=e
   omega
  ·rcases e with e | e
   ·exact e
   ·omega
  ·rcases ho c hcc with e | e
   ·exact .inl e
   ·exact .inr (Nat.le_trans (Nat.le_trans k1.size k2.size) e)
 cases r with
 | inc z =>
  have HC:=Lib.hid hc
  clear hc
  go_enter Tryz.func57,Tryz.ntmps57
  go_wp2_with fail
  refine hof.mono ?_
  rintro e w1 ⟨i,rfl,hwi,hi1,k1⟩
  have hby:=iByte_spec hi1
  rw [show (⟨(LRec.inc z).bytes,0⟩:InS).byte=(1,⟨numB z,0⟩) from rfl] at hby
  have H1:=Lib.hid (A3 hwi hi1 k1)
  clear hwi hi1 k1 hof
  go_wp2_with fail
  refine hby.mono ?_
  rintro e w2 ⟨rfl,hi2,k2⟩
  have hl2:=(HH.out.1.no H1.out.2.2).byIn H1.out.2.1 k2
  have hd:=gDoneInc_spec hl2 hi2 HC.out.2 HC.out.1
  have H2:=Lib.hid k2
  clear hby hi2 k2 hl2
  go_wp2_with fail
  refine hd.mono ?_
  rintro e w3 ⟨rfl,hl3,k3⟩
  go_wp2_with fail
  go_ret
  exact ⟨rfl,fin H1.out.2.2 H1.out.1 H2.out hl3 (k3.mono (fun c _ e=>by rcases e with e | e;exact .inl (.inl e);exact .inr e)) (fun c e=>.inl e)⟩
 | floor a z =>
  have HC:=Lib.hid hc
  clear hc
  go_enter Tryz.func57,Tryz.ntmps57
  go_wp2_with fail
  refine hof.mono ?_
  rintro e w1 ⟨i,rfl,hwi,hi1,k1⟩
  have hby:=iByte_spec hi1
  rw [show (⟨(LRec.floor a z).bytes,0⟩:InS).byte=(2,⟨numB a++numB z,0⟩) from rfl] at hby
  have H1:=Lib.hid (A3 hwi hi1 k1)
  clear hwi hi1 k1 hof
  go_wp2_with fail
  refine hby.mono ?_
  rintro e w2 ⟨rfl,hi2,k2⟩
  have hl2:=(HH.out.1.no H1.out.2.2).byIn H1.out.2.1 k2
  obtain ⟨x,hx,_,_,hxf⟩:=HH.out.2.1.at HC.out.1
  have hd:=gDoneFloor_spec hl2 hi2 hx HC.out.1 HC.out.2.2 (by have:=HC.out.2.1;rw [hxf] at this;exact this)
  have H2:=Lib.hid k2
  clear hby hi2 k2 hl2 hxf hx
  go_wp2_with fail
  refine hd.mono ?_
  rintro e w3 ⟨rfl,hl3,k3⟩
  go_wp2_with fail
  go_ret
  exact ⟨rfl,fin H1.out.2.2 H1.out.1 H2.out hl3 (k3.mono (fun c _ e=>by rcases e with e | e;exact .inl (.inl e);exact .inr e)) (fun c e=>.inl e)⟩
 | put a b l =>
  have HC:=Lib.hid hc
  clear hc
  go_enter Tryz.func57,Tryz.ntmps57
  go_wp2_with fail
  refine hof.mono ?_
  rintro e w1 ⟨i,rfl,hwi,hi1,k1⟩
  have hby:=iByte_spec hi1
  rw [show (⟨(LRec.put a b l).bytes,0⟩:InS).byte=(3,⟨numB a++(numB b++(numB l.length++Qb l)),0⟩) from rfl] at hby
  have H1:=Lib.hid (A3 hwi hi1 k1)
  clear hwi hi1 k1 hof
  go_wp2_with fail
  refine hby.mono ?_
  rintro e w2 ⟨rfl,hi2,k2⟩
  have hl2:=(HH.out.1.no H1.out.2.2).byIn H1.out.2.1 k2
  have hsz:w.heap.size<=w2.heap.size:=Nat.le_trans H1.out.2.2.size k2.size
  have hd:=gDonePut_spec hl2 HH.out.2.1 hi2 HC.out (by have:=HH.out.2.2.2.1;simp [LRec.bytes] at this;omega) HH.out.2.2.2.2.1 (Nat.le_trans HH.out.2.2.2.2.2.1 hsz) (Nat.le_trans HH.out.2.2.2.2.2.2 hsz)
  have H2:=Lib.hid k2
  clear hby hi2 k2 hl2 hsz
  go_wp2_with fail
  refine hd.mono ?_
  rintro e w3 ⟨rfl,lv',hl3,k3,ho⟩
  go_wp2_with fail
  go_ret
  exact ⟨rfl,fin H1.out.2.2 H1.out.1 H2.out hl3 k3 ho⟩
theorem Vj {w:World} (q a:Nat) (ha:a<16):Calls Tryz.prog 61 #[.pointer (some ⟨q,0,none⟩),.int .i64 a] w fun e w'=>e=.returned (.pointer (some ⟨q,2+a*7,none⟩))/\w'=w:=by
 have h1:¬(a:Int)<0:=by omega
 have h2:¬16<=(a:Int):=by omega
 have h3:(a:Int)<16:=by omega
 go_enter Tryz.func61,Tryz.ntmps61
 go_wp2_with fail
 go_ret
 exact ⟨rfl,rfl⟩
theorem gAgent_out {w:World} (q:Nat) (a:Int) (ha:a<0\/16<=a):Calls Tryz.prog 61 #[.pointer (some ⟨q,0,none⟩),.int .i64 a] w fun e w'=>e=.returned (.pointer none)/\w'=w:=by
 by_cases h1:a<0
 ·clear ha
  go_enter Tryz.func61,Tryz.ntmps61
  go_wp2_with fail
  go_ret
  exact ⟨rfl,rfl⟩
 ·have h2:16<=a:=by omega
  clear ha
  go_enter Tryz.func61,Tryz.ntmps61
  go_wp2_with fail
  go_ret
  exact ⟨rfl,rfl⟩
theorem Sf [bn:Inhabited Ban] {base:Nat} {w:World} {q g m:Nat} {lv:Value} {L:LedS} (h:Zv base w q g m lv L):Calls Tryz.prog 15 #[.pointer (some ⟨q,0,none⟩)] w fun e w'=>e=.returned (.int .u64 L.inc)/\w'=w:=by
 obtain ⟨c1,_,_⟩:=h.incCell
 clear h
 go_enter Tryz.func15,Tryz.ntmps15
 go_wp2_with fail
 go_ret
 exact ⟨rfl,rfl⟩
theorem gFloor_in [bn:Inhabited Ban] {base:Nat} {w:World} {q g m a:Nat} {lv:Value} {L:LedS} {x:AgS} (h:Zv base w q g m lv L) (ha:a<16) (hx:L.ag[a]?=some x):Calls Tryz.prog 39 #[.pointer (some ⟨q,0,none⟩),.int .i64 a] w fun e w'=>e=.returned (.int .u64 x.floor)/\w'=w:=by
 obtain ⟨_,_,_,_,c0,_⟩:=h.agCell hx
 have hg:=Vj (w:=w) q a ha
 clear h hx ha
 go_enter Tryz.func39,Tryz.ntmps39
 go_wp2_with (go_at_call 61;refine hg.mono ?_;rintro e w' ⟨rfl,rfl⟩)
 go_ret
 exact ⟨rfl,rfl⟩
theorem gSafe_in [bn:Inhabited Ban] {base:Nat} {w:World} {q g m a:Nat} {lv:Value} {L:LedS} {x:AgS} (h:Zv base w q g m lv L) (ha:a<16) (hx:L.ag[a]?=some x):Calls Tryz.prog 77 #[.pointer (some ⟨q,0,none⟩),.int .i64 a] w fun e w'=>∃ u,e=.returned u/\WinV w' u x.safe/\Keep No w w':=by
 obtain ⟨_,ss,_,hr,_,_,_,_,c1,c2,c3⟩:=h.agCell hx
 obtain ⟨ao,cap,rfl,_,_⟩:=hr.form
 have kA:=fun o=>(Keep.refl No w).alloc o
 have c1A:=fun o=>(kA o).cell c1 (fun e=>e)
 have c2A:=fun o=>(kA o).cell c2 (fun e=>e)
 have c3A:=fun o=>(kA o).cell c3 (fun e=>e)
 have hg:=fun (w1:World)=>Vj (w:=w1) q a ha
 have hZ:=Qy w (.cells #[.int .u64 x.safe.low,.int .u64 x.safe.width,.slice ao x.safe.set.length cap] 92)
 have z0:=Qq hZ 0
 have z1:=Qq hZ 1
 have z2:=Qq hZ 2
 simp at z0 z1 z2
 have HH:=Lib.hid (A2 (hr.no (kA (.cells #[.int .u64 x.safe.low,.int .u64 x.safe.width,.slice ao x.safe.set.length cap] 92))) (kA (.cells #[.int .u64 x.safe.low,.int .u64 x.safe.width,.slice ao x.safe.set.length cap] 92)))
 clear h hx ha hr hZ kA
 go_enter Tryz.func77,Tryz.ntmps77
 go_wp2_with (go_at_call 61;refine (hg _).mono ?_;rintro e w' ⟨rfl,rfl⟩)
 refine bodyPost_ret (v:=.agg #[.int .u64 x.safe.low,.int .u64 x.safe.width,.slice ao x.safe.set.length cap]) (by simp [results,Tryz.results77,go_sem]) rfl ?_
 exact ⟨_,rfl,⟨_,rfl,HH.out.1⟩,HH.out.2⟩
end Go.Proofs.YtfdmbomlkpkegaaGreat
