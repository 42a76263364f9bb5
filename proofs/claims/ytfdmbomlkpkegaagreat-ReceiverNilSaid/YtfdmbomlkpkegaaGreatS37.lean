/- Lemmas for ReceiverNil. -/
import Derived.Test.YtfdmbomlkpkegaaGreatS36
import Derived.Test.YtfdmbomlkpkegaaGreatS1
import Derived.Test.YtfdmbomlkpkegaaGreatS32
import Derived.Test.YtfdmbomlkpkegaaGreatS27
import Derived.Test.YtfdmbomlkpkegaaGreatS24
import Derived.Test.YtfdmbomlkpkegaaGreatS30
set_option maxRecDepth 100000
set_option maxHeartbeats 8000000
set_option linter.all false
namespace Go.Proofs.YtfdmbomlkpkegaaGreat
open Go Go.RowKit Go.Dr Go.Shelf
theorem DIn.keepF [bn:Inhabited Ban] {base:Nat} {w w':World} {b at_:Nat} {pv:Value} {p rest:List UInt8} {F:Nat->Prop} (h:DIn base w b pv p at_ rest) (hF:Foot base w F) (k:Keep F w w') (hn:¬F b):DIn base w' b pv p at_ rest:=⟨k.heap h.blk hn,h.bytes.keep hF k,h.le,h.left,h.bb,h.small⟩
theorem BRow.foot [bn:Inhabited Ban] {α:Type} {base:Nat} {w:World} {t:TypeId} {c:Nat} {f:α->Value->List Value} {bd:α->List UInt8} {v:Value} {l:List α} (h:BRow base w t c f bd v l) (ht:t≠5):Foot base w (fun b=>v.ownBlock=some b):=fun b hb=>by
 obtain ⟨g1,cur,hz⟩:=h.kind b hb
 exact ⟨g1,Qt hz,fun cs fr e=>by rw [hz] at e;simp at e;exact ht e.2.1⟩
theorem BRow.notOwn [bn:Inhabited Ban] {α:Type} {base:Nat} {w:World} {t t':TypeId} {c b:Nat} {f:α->Value->List Value} {bd:α->List UInt8} {v:Value} {l:List α} {cs:Array Value} {fr:Nat × Nat} (h:BRow base w t c f bd v l) (hz:w.heap[b]?=some (.cells cs t' fr)) (ht:t≠t'):¬v.ownBlock=some b:=fun e=>by
 obtain ⟨_,cur,hc⟩:=h.kind b e
 rw [hz] at hc
 simp at hc
 exact ht hc.2.1.symm
theorem itemsB_cons (x:Qc) (l:List Qc):Qb (x :: l)=x.bytes++Qb l:=by simp [Qb]
theorem itemsB_drop {l:List Qc} {i:Nat} {x:Qc} (h:l[i]?=some x):Qb (l.drop i)=x.bytes++Qb (l.drop (i+1)):=by
 obtain ⟨hi,rfl⟩:=List.getElem?_eq_some_iff.1 h
 rw [List.drop_eq_getElem_cons hi,itemsB_cons]
theorem itemsB_take {l:List Qc} {i:Nat} {x:Qc} (h:l[i]?=some x):(Qb (l.take (i+1))).length=(Qb (l.take i)).length+x.bytes.length:=by
 obtain ⟨hi,rfl⟩:=List.getElem?_eq_some_iff.1 h
 rw [List.take_succ_eq_append_getElem hi]
 unfold Qb
 rw [List.flatMap_append,List.length_append]
 simp
def DBox (w:World) (b:Nat) (y:WinS) (k:Nat):Prop:=∃ vo vn vc,w.heap[b]?=some (.cells #[.int .u64 y.low,.int .u64 y.width,.slice vo vn vc] 164 (0,0))/\DocW w (.slice vo vn vc) y k
theorem DBox.no {w w':World} {b k:Nat} {y:WinS} (h:DBox w b y k) (kk:Keep No w w'):DBox w' b y k:=by
 obtain ⟨vo,vn,vc,h1,h2⟩:=h
 exact ⟨vo,vn,vc,kk.heap h1 (fun e=>e),h2.no kk⟩
theorem DBox.block {w w':World} {b k g:Nat} {y:WinS} {cs:Array Value} {t:TypeId} (h:DBox w b y k) (hz:w.heap[g]?=some (.cells cs t (0,0))) (ht:t≠27) (hb:¬b=g) (kk:Keep (·=g) w w'):DBox w' b y k:=by
 obtain ⟨vo,vn,vc,h1,h2⟩:=h
 exact ⟨vo,vn,vc,kk.heap h1 hb,h2.block hz ht kk⟩
theorem DocW.keepF {w w':World} {v:Value} {x:WinS} {k:Nat} {F:Nat->Prop} (h:DocW w v x k) (kk:Keep F w w') (hF:∀ b,F b->∃ cs t fr,w.heap[b]?=some (.cells cs t fr)/\t≠27):DocW w' v x k:=by
 obtain ⟨l,h1,h2,h3⟩:=h
 exact ⟨l,h1.keep kk (fun b hb e=>by
  obtain ⟨_,cur,hc⟩:=h1.kind b hb
  obtain ⟨cs,t,fr,hz,ht⟩:=hF b e
  rw [hz] at hc
  simp at hc
  exact ht hc.2.1),h2,h3⟩
theorem modify_at {α:Type} {l:List α} {a:Nat} {g:α} {f f':α->α} (h:l[a]?=some g) (he:f g=f' g):l.modify a f=l.modify a f':=by
 apply List.ext_getElem?
 intro i
 rw [List.getElem?_modify,List.getElem?_modify]
 by_cases hi:a=i
 ·subst hi
  rw [h]
  simp [he]
 ·simp [hi]
theorem DBox.ofV {w:World} {g k n cap:Nat} {a0 a1 a2:Value} {y:WinS} {ao:Option Addr} (hB:w.heap[g]?=some (.cells #[a0,a1,a2] 164 (0,0))) (hr:DocW w (.slice ao n cap) y k) :
  DBox (((w.setCell ⟨g,0,none⟩ (.int .u64 y.low)).setCell ⟨g,1,none⟩ (.int .u64 y.width)).setCell ⟨g,2,none⟩ (.slice ao n cap)) g y k/\Keep (·=g) w (((w.setCell ⟨g,0,none⟩ (.int .u64 y.low)).setCell ⟨g,1,none⟩ (.int .u64 y.width)).setCell ⟨g,2,none⟩ (.slice ao n cap)):=by
 have kZ:=((Qd (g:=g) (i:=0) w (.int .u64 y.low)).setCell (p:=⟨g,1,none⟩) (.inl rfl) (.int .u64 y.width)).setCell (p:=⟨g,2,none⟩) (.inl rfl) (.slice ao n cap)
 exact ⟨⟨ao,n,cap,by rw [Qz (Qz (Qz hB))];rfl,hr.block hB (by decide) kZ⟩,kZ⟩
theorem r16one_put [bn:Inhabited Ban] {base:Nat} {w:World} {cs:Array Value} {inc k a bs fl width:Nat} {wn:WinS} {now:List (Nat × WinS)} {recs:List RecS} {l:List Qc} {pv:Value} (h:StAt base w cs inc now recs k) (hp:Qv base w pv (LRec.put a bs l).bytes) (ha:a<16) (hg:now[a]?=some (fl,wn)) (hbs:bs<2305843009213693952) (hl64:l.length<=64)
  (hr:∀ x∈l,x.Right) (hf:wn.Fine width) (hin:(wn.skip bs).allIn l) (hk:k<=1000000) (hlen:(LRec.put a bs l).bytes.length<=1099511627776) (hrec:recs.length<=1073741824) (hb:base<=w.heap.size) (hT:ban.top<=w.heap.size) :
  Calls Tryz.prog 127 #[.agg cs,pv] w fun e w'=>∃ cs',e=.returned (.tuple #[.agg cs',.bool true])/\StAt base w' cs' inc (now.modify a (fun x=>(x.1,(x.2.skip bs).putAll l))) (recs++l.map (fun x=>⟨a,x.n,x.s⟩)) (k+l.length)/\Keep No w w':=by
 obtain ⟨po,pc,rfl⟩:=hp.form
 obtain ⟨y,hy⟩:∃ y,y=wn.skip bs:=⟨_,rfl⟩
 have hyf:y.Fine width:=by rw [hy];exact hf.skip (by omega)
 have HH:=Lib.hid (A7 h hp hb hT ha hg hrec)
 have HL:=Lib.hid (A8 hl64 hr hf (show y.allIn l by rw [hy];exact hin) hk hbs hyf hy)
 obtain ⟨W,hW,kW,hsz,hA,hB,hD,hS⟩:=one_blocks h hp hb hlen
 clear h hp hb hT hg hbs hl64 hr hf hin hk hlen hyf hy hrec
 obtain ⟨A,hAe⟩:∃ A,A=w.heap.size:=⟨_,rfl⟩
 obtain ⟨B,hBe⟩:∃ B,B=w.heap.size+1:=⟨_,rfl⟩
 obtain ⟨C,hCe⟩:∃ C,C=w.heap.size+1+1:=⟨_,rfl⟩
 rw [<- hAe] at hA
 rw [<- hBe] at hB
 rw [<- hCe] at hD
 have hby:=r2Byte_spec hD
 have hAC:¬A=C:=by omega
 have hBC:¬B=C:=by omega
 have hBA:¬B=A:=by omega
 have hWs:W.heap.size=C+1:=by omega
 have HW:=Lib.hid (A9 kW hA hB hS hAe hBe hCe hD hWs)
 have hge:base<=A:=by rw [hAe];exact HH.out.2.2.1
 have hgeC:base<=C:=by omega
 have hai:(a:Int)<16:=by omega
 go_enter Tryz.func127,Tryz.ntmps127
 go_upto_region 2 with fail
 rw [<- hW]
 rw [<- hCe,<- hBe,<- hAe]
 clear hW kW hA hB hD hS hsz hCe hBe hAe hWs ha
 go_upto_region 3 with (go_at_call 176;refine hby.mono ?_;rintro e w1 ⟨rfl,hD1,k1⟩)
 clear hby
 have hwh:=r16who_spec (rest:=numB bs++(numB l.length++Qb l)) (a:=a) hD1 HH.out.2.2.2.2.1
 have H1:=Lib.hid k1
 clear hD1 k1
 go_upto_region 16 with (go_at_call 179;refine hwh.mono ?_;rintro e w2 ⟨rfl,hD2,k2⟩)
 clear hwh
 have k02:=H1.out.trans k2 (fun _ _ e=>e)
 have hA2:=k02.heap HW.out.2.1 hAC
 have hS2:StAt base w2 cs inc now recs k:=HW.out.2.2.2.1.keep_in k02 HW.out.2.2.2.2.2.2.2.1.blk hgeC (by decide) (by decide) (by decide)
 obtain ⟨_,g1,g2,v,g3,hdw⟩:=hS2.ags a _ HH.out.2.2.2.2.2.1
 obtain ⟨dvo,dvn,dvc,rfl⟩:=hdw.form
 have a0:=Qq hA2 (17+a*3)
 have a1:=Qq hA2 (17+a*3+1)
 have a2:=Qq hA2 (17+a*3+2)
 rw [g1] at a0
 rw [g2] at a1
 rw [g3] at a2
 unfold u64v at a0 a1
 have hnm:=fun (X:World) (k:Keep No w2 X)=>r16number_spec (rest:=numB l.length++Qb l) (n:=bs) (hD2.no k) HL.out.2.2.2.2.2.1
 have hsk:=fun (X:World) (k:Keep (·=C) w2 X)=>dSkip_spec (hdw.block hD2.blk (by decide) k) (by have:=HL.out.2.2.2.2.1;omega) HL.out.2.2.1.ok bs (by have:=HL.out.2.2.2.2.2.1;omega)
 rw [<- HL.out.2.2.2.2.2.2.2] at hsk
 have hyw:y.width=wn.width:=by rw [HL.out.2.2.2.2.2.2.1.width,HL.out.2.2.1.width]
 rw [<- hyw] at hsk
 have H2:=Lib.hid (A6 k02 hS2 hnm hsk hyw hD2)
 rw [<- hyw] at a1
 clear k02 hS2 hnm hsk hdw hD2 k2 hA2 g1 g2 g3 hyw
 go_cut [13] (fun v13 wx=>∃ b13,v13=.pointer (some ⟨b13,0,none⟩)/\DBox wx b13 y k/\DIn base wx C (.slice po (LRec.put a bs l).bytes.length pc) (LRec.put a bs l).bytes (0+1+(numB a).length+(numB bs).length) (numB l.length++Qb l)/\Keep (·=C) w2 wx/\w2.heap.size<=b13)
 case first =>
  have kd:Keep (·=C) w2 w2.drew:=(Keep.refl _ _).drew
  refine wp_drawF (fun w'=>Keep (·=C) w2 w') [0,1,2,3,4] [5,6] [8] 7 (by kernel_rfl) (by kernel_rfl) (fun _ _ _ _ _ h=>h) kd ?_
  iterate 5 (refine Qk (v:=?_) rfl rfl rfl ?_ ?_;rotate_left;focus (
   intro w' hS
   have c0:=hS.cell a0 hAC
   have c1:=hS.cell a1 hAC
   have c2:=hS.cell a2 hAC
   go_simp
   try with_reducible rfl))
  refine Qj ?_
  have hClt:C<w2.heap.size:=Qt H2.out.2.2.2.2.2.blk
  refine ⟨?_,?_⟩
  ·refine Qx rfl rfl (fun K hK=>?_)
   go_simp
   have kA:=kd.alloc (.cells #[.int .u64 0,.int .u64 0,.slice none 0 0] 164)
   have hA:(w2.drew.alloc (.cells #[.int .u64 0,.int .u64 0,.slice none 0 0] 164)).heap[w2.heap.size]?=some (.cells #[.int .u64 0,.int .u64 0,.slice none 0 0] 164 (0,0)):=Qy w2.drew _
   refine hK _ _ kA ?_
   clear hK K
   refine Qx rfl rfl (fun K hK=>?_)
   go_simp
   refine (H2.out.2.2.1 _ (((Keep.refl No w2).drew).alloc (.cells #[.int .u64 0,.int .u64 0,.slice none 0 0] 164))).mono ?_
   rintro e w3 ⟨rfl,hi3,k3⟩
   have k13:=kA.trans k3 (fun _ _ e=>e)
   refine hK _ _ k13 ?_
   clear hK K
   refine Qx rfl rfl (fun K hK=>?_)
   go_simp
   refine (H2.out.2.2.2.1 _ (k13)).mono ?_
   rintro e w4 ⟨u4,rfl,hw4,k4⟩
   obtain ⟨o4,n4,c4,rfl⟩:=hw4.form
   have k14:=(k13).then k4
   refine hK _ _ k14 ?_
   clear hK K
   have hB:=k4.heap (k3.heap hA (fun e=>by omega)) (fun e=>e)
   have kA2:=k14.size
   have q0:=Qq hB 0
   have q1:=Qq hB 1
   have q2:=Qq hB 2
   have fB:=Qg hB
   simp at q0 q1 q2
   have hin:=hi3.no k4
   have kk:=k14
   refine Qh (Qu rfl (Qm ?_))
   go_wp2_with fail
   go_meet
   obtain ⟨hZ,kZ⟩:=DBox.ofV (y:=y) hB hw4
   have hs2:=kA2
   refine ⟨_,rfl,hZ,hin.keepF ?_ kZ (fun e=>by have e2:C=_:=e;omega),kk.trans kZ (fun c hc e=>by have e2:c=_:=e;omega),by omega⟩
   rintro c rfl
   exact ⟨by omega,Qt hB,fun cs fr e=>by rw [hB] at e;simp at e⟩
  ·refine Qx rfl rfl (fun K hK=>?_)
   go_simp
   refine (H2.out.2.2.1 _ ((Keep.refl No w2).drew)).mono ?_
   rintro e w3 ⟨rfl,hi3,k3⟩
   have k13:=kd.trans k3 (fun _ _ e=>e)
   refine hK _ _ k13 ?_
   clear hK K
   refine Qh ⟨?_,?_⟩
   ·refine Qx rfl rfl (fun K hK=>?_)
    go_simp
    have kA:=k13.alloc (.cells #[.int .u64 0,.int .u64 0,.slice none 0 0] 164)
    have hA:(w3.alloc (.cells #[.int .u64 0,.int .u64 0,.slice none 0 0] 164)).heap[w3.heap.size]?=some (.cells #[.int .u64 0,.int .u64 0,.slice none 0 0] 164 (0,0)):=Qy w3 _
    refine hK _ _ kA ?_
    clear hK K
    refine Qx rfl rfl (fun K hK=>?_)
    go_simp
    refine (H2.out.2.2.2.1 _ (kA)).mono ?_
    rintro e w4 ⟨u4,rfl,hw4,k4⟩
    obtain ⟨o4,n4,c4,rfl⟩:=hw4.form
    have k14:=(kA).then k4
    refine hK _ _ k14 ?_
    clear hK K
    have hB:=k4.heap hA (fun e=>e)
    have kA2:=k13.size
    have q0:=Qq hB 0
    have q1:=Qq hB 1
    have q2:=Qq hB 2
    have fB:=Qg hB
    simp at q0 q1 q2
    have hin:=(hi3.no ((Keep.refl No w3).alloc (.cells #[.int .u64 0,.int .u64 0,.slice none 0 0] 164))).no k4
    have kk:=k14
    refine Qh (Qu rfl (Qm ?_))
    go_wp2_with fail
    go_meet
    obtain ⟨hZ,kZ⟩:=DBox.ofV (y:=y) hB hw4
    have hs2:=kA2
    refine ⟨_,rfl,hZ,hin.keepF ?_ kZ (fun e=>by have e2:C=_:=e;omega),kk.trans kZ (fun c hc e=>by have e2:c=_:=e;omega),by omega⟩
    rintro c rfl
    exact ⟨by omega,Qt hB,fun cs fr e=>by rw [hB] at e;simp at e⟩
   ·refine Qx rfl rfl (fun K hK=>?_)
    go_simp
    refine (H2.out.2.2.2.1 _ k13).mono ?_
    rintro e w4 ⟨u4,rfl,hw4,k4⟩
    obtain ⟨o4,n4,c4,rfl⟩:=hw4.form
    have k14:=k13.then k4
    refine hK _ _ k14 ?_
    clear hK K
    refine Qh ?_
    refine Qx rfl rfl (fun K hK=>?_)
    go_simp
    have kA:=k14.alloc (.cells #[.int .u64 0,.int .u64 0,.slice none 0 0] 164)
    have hA:(w4.alloc (.cells #[.int .u64 0,.int .u64 0,.slice none 0 0] 164)).heap[w4.heap.size]?=some (.cells #[.int .u64 0,.int .u64 0,.slice none 0 0] 164 (0,0)):=Qy w4 _
    refine hK _ _ kA ?_
    clear hK K
    have hin:=hi3.no k4
    have hs2:=k14.size
    refine Qh (Qu rfl (Qm ?_))
    go_wp2_with fail
    go_meet
    have kY:=(Keep.refl No w4).alloc (.cells #[.int .u64 y.low,.int .u64 y.width,.slice o4 n4 c4] 164)
    exact ⟨_,rfl,⟨_,_,_,Qy _ _,hw4.no kY⟩,hin.no kY,k14.then kY,hs2⟩
 case rest =>
  obtain ⟨b13,rfl,hbox,hD3,k3,hb13⟩:=hcut
  rename World=>W3
  obtain ⟨at3,hat3⟩:∃ x,x=0+1+(numB a).length+(numB bs).length:=⟨_,rfl⟩
  rw [<- hat3] at hD3
  clear hat3
  have hln:l.length<18446744073709551616:=by have:=HL.out.1;omega
  have hnm:=r2Number_spec hD3 hln
  clear hln
  have H3:=Lib.hid (A4 hbox hD3 k3 hb13)
  clear hbox hD3 k3 hb13 a1
  go_upto_block 1 with (go_at_call 180;refine hnm.mono ?_;rintro e w4 ⟨rfl,hD4,k4⟩)
  clear hnm
  obtain ⟨at4,hat4⟩:∃ x,x=at3+(numB l.length).length:=⟨_,rfl⟩
  rw [<- hat4] at hD4
  clear hat4
  have H4:=Lib.hid (A2 k4 hD4)
  clear k4 hD4
  go_wp2_with fail
  go_loopw [14,15] (fun v14 v15 wr=>∃ i,i<=l.length/\v15=.int .u64 ((l.length-i:Nat):Int)/\Gs base wr v14 (l.take i)/\(∀ b,v14.ownBlock=some b->w4.heap.size<=b)/\DIn base wr C (.slice po (LRec.put a bs l).bytes.length pc) (LRec.put a bs l).bytes (at4+(Qb (l.take i)).length) (Qb (l.drop i))/\Keep (·=C) w4 wr) (fun _ v15 _=>(intOf v15).toNat)
  case atStart=>exact ⟨0,Nat.zero_le _,rfl,BRow.nil _ _ _ _ _ _,fun b e=>by simp [Value.ownBlock] at e,by simpa [Qb] using H4.out.2,Keep.refl _ _⟩
  case round =>
   obtain ⟨i,hi,rfl,hits,hown,hin,kr⟩:=hrel
   obtain ⟨vo,vc,rfl,_,_⟩:=hits.form
   obtain ⟨d,hd⟩:∃ d,d=l.length-i:=⟨_,rfl⟩
   rw [<- hd]
   have e2:=Qq hin.blk 2
   simp at e2
   by_cases hlt:i<l.length
   ·have hx:l[i]?=some l[i]:=List.getElem?_eq_getElem hlt
    generalize l[i]=z at hx
    have hzr:=HL.out.2.1 z (List.mem_of_getElem? hx)
    rw [itemsB_drop hx] at hin
    have htake:l.take (i+1)=l.take i++[z]:=by
     obtain ⟨hi',rfl⟩:=List.getElem?_eq_some_iff.1 hx
     exact List.take_succ_eq_append_getElem hi'
    have hil:=itemsB_take hx
    obtain ⟨tk,htk⟩:∃ tk,tk=l.take i:=⟨_,rfl⟩
    have hlk:(l.take i).length<=64:=by have:=HL.out.1;simp;omega
    rw [<- htk] at hits htake hil hown hin hlk ⊢
    have hbw:base<=wr.heap.size:=by have:=H4.out.2.bb;have:=Qt hin.blk;omega
    have hTr:ban.top<=wr.heap.size:=by have:=HH.out.2.2.2.1;have:=HW.out.1.size;have:=H1.out.size;have:=H2.out.1.size;have:=H3.out.2.2.1.size;have:=H4.out.1.size;have:=kr.size;omega
    have hgi:=r4GetItem_spec hin hzr hbw hTr
    have hdpos:(0:Int)<(d:Int):=by omega
    have h64:=HL.out.1
    have hdw:IntKind.u64.wrap ((d:Int) - 1)=((d - 1:Nat):Int):=by rw [wraps_u64 _ (by omega) (by omega)];omega
    obtain ⟨d1,hd1⟩:∃ d1,d1=d - 1:=⟨_,rfl⟩
    rw [<- hd1] at hdw
    have HR:=Lib.hid (A12 hits hown hin kr htake hd hlt hlk hd1 hbw hTr hil)
    clear hits hown hin kr htake hd hlt hlk hd1 hbw hTr hx hzr hil hi htk
    go_wp2_with fail
    refine hgi.mono ?_
    rintro e w5 ⟨v5,rfl,own5,hin5,k5⟩
    clear hgi
    obtain ⟨o5,c5,rfl⟩:=own5.form
    have hits5:Gs base w5 _ tk:=BRow.block HR.out.1 HR.out.2.2.1.blk HR.out.2.2.1.bb (by decide) (by decide) k5
    have hB5:=own5.bytes (base:=base) (fun _=>HR.out.2.2.2.2.2.2.2.2.2.2.1)
    have kA:=(Keep.refl No w5).alloc (.cells #[.int .u64 z.n,.int .i64 z.s.c,.slice o5 z.s.body.length c5] 206)
    have hnew:=Qy w5 (.cells #[.int .u64 z.n,.int .i64 z.s.c,.slice o5 z.s.body.length c5] 206)
    have hbw5:base<=w5.heap.size:=Nat.le_trans HR.out.2.2.2.2.2.2.2.2.2.1 k5.size
    have hw45:w4.heap.size<=w5.heap.size:=Nat.le_trans HR.out.2.2.2.1.size k5.size
    have H5:=Lib.hid (A8 (BRow.no hits5 kA) (hin5.no kA) k5 hnew (hB5.no kA) hbw5 hw45 kA)
    clear hits5 own5 hin5 k5 hB5 kA hnew hbw5 hw45
    go_wp2_with (at_builtin;refine wpList_append_brow rfl _ _ _ rfl rfl info_dit rfl (by decide) (by decide) (by decide) H5.out.1 rfl H5.out.2.2.2.1 rfl (fun q hq=>by simp [ditCell] at hq;rcases hq with rfl | rfl | rfl <;> rfl) rfl rfl H5.out.2.2.2.2.1 (by have:=HR.out.2.2.2.2.2.2.2.1;omega) (by have:=H5.out.2.2.2.2.2.1;have:=H5.out.2.2.2.2.2.2.2.size;omega) (B:=w4.heap.size) (by have:=HW.out.2.2.2.2.2.2.2.1.bb;have:=H3.out.2.2.1.size;have:=H4.out.1.size;have:=Qt HW.out.2.2.2.2.2.2.2.1.blk;have:=H1.out.size;have:=H2.out.1.size;omega) HR.out.2.1 (by have:=H5.out.2.2.2.2.2.2.1;have:=H5.out.2.2.2.2.2.2.2.size;omega) ?_;intro vo6 vc6 w6 hits6 hown6 k6)
    go_roundw
    case rel =>
     refine ⟨i+1,by have:=HR.out.2.2.2.2.2.2.1;omega,by congr 1;have:=HR.out.2.2.2.2.2.1;have:=HR.out.2.2.2.2.2.2.2.2.1;omega,by rw [HR.out.2.2.2.2.1];exact hits6,hown6,?_,?_⟩
     ·rw [HR.out.2.2.2.2.2.2.2.2.2.2.2,<- Nat.add_assoc]
      exact H5.out.2.1.keepF (BRow.foot H5.out.1 (by decide)) k6 (BRow.notOwn H5.out.1 H5.out.2.1.blk (by decide))
     ·exact ((HR.out.2.2.2.1.trans H5.out.2.2.1 (fun _ _ e=>e)).then H5.out.2.2.2.2.2.2.2).trans k6 (fun c hc e=>by have:=HR.out.2.1 c e;omega)
    case measure=>have:=HR.out.2.2.2.2.2.1;have:=HR.out.2.2.2.2.2.2.1;have:=HR.out.2.2.2.2.2.2.2.2.1;simp [intOf];omega
   ·have hke:i=l.length:=by omega
    have hd0:d=0:=by omega
    subst hd0
    have hdz:¬(0:Int)<((0:Nat):Int):=by omega
    rw [hke,List.take_of_length_le (Nat.le_refl _)] at hits
    rw [hke,List.drop_length] at hin
    have hend:=r2End_spec hin
    have htl:(l.take i).length=l.length:=by rw [hke,List.take_of_length_le (Nat.le_refl _)]
    rw [htl]
    rw [htl] at hown
    rename World=>w5
    have HR:=Lib.hid (A4 hits hown hin kr)
    clear hits hown hin kr hd hlt hke htl hi
    go_upto_region 24 with (go_at_call 178;refine hend.mono ?_;rintro e w6 ⟨rfl,k6⟩)
    clear hend
    have kC:=((H3.out.2.2.1.trans H4.out.1 (fun _ _ e=>e)).trans HR.out.2.2.2 (fun _ _ e=>e)).then k6
    have hA6:=kC.heap (H2.out.1.heap HW.out.2.1 hAC) hAC
    have hB6:=kC.heap (H2.out.1.heap HW.out.2.2.1 hBC) hBC
    have hS6:StAt base w6 cs inc now recs k:=H2.out.2.1.keep_in kC H2.out.2.2.2.2.2.blk hgeC (by decide) (by decide) (by decide)
    have hits6:Gs base w6 _ l:=HR.out.1.no k6
    have hbCb:¬b13=C:=by have:=H3.out.2.2.2;have:=Qt H2.out.2.2.2.2.2.blk;omega
    have hbox6:DBox w6 b13 y k:=((H3.out.1.block H3.out.2.1.blk (by decide) hbCb H4.out.1).block H4.out.2.blk (by decide) hbCb HR.out.2.2.2).no k6
    obtain ⟨lv,hl1,hl2⟩:=hS6.recs
    obtain ⟨lo,lc,rfl,_,_⟩:=hl2.form
    have l65:=Qq hA6 65
    rw [hl1] at l65
    have h26:w2.heap.size<=w6.heap.size:=kC.size
    have hb6:base<=w6.heap.size:=by have:=Qt hA6;omega
    have H6:=Lib.hid (A12 kC hA6 hB6 hS6 hits6 hbox6 hl2 h26 hb6 hl1 hbCb HR.out.2.1)
    clear kC hA6 hB6 hS6 hits6 hbox6 hl2 h26 hb6 hl1 hbCb k6 HR
    have l65A:=fun o=>((Keep.refl No w6).alloc o).cell l65 (fun e=>e)
    clear l65
    have hz6:=Qy w6 (.cells #[] 175)
    have kz6:=(Keep.refl No w6).alloc (.cells #[] 175)
    have he6:(w6.alloc (.cells #[] 175)).ownsRow w6.heap.size 175 4 (.slice (some ⟨w6.heap.size,0,none⟩) 0 0) 0 []:=⟨by simp,.inr ⟨_,0,#[],rfl,Nat.le_refl _,hz6,by simp⟩⟩
    have hB6:w6.heap.size<=(w6.alloc (.cells #[] 175)).heap.size:=kz6.size
    have hl26:Hy base (w6.alloc (.cells #[] 175)) _ recs:=H6.out.2.2.2.2.2.2.1.no kz6
    have HZ:=Lib.hid (A4 kz6 hl26 hB6 he6)
    clear hz6 kz6 he6 hB6 hl26
    go_upto_region 25 with (at_builtin;refine wpList_append_all rfl _ _ _ rfl rfl info_drec rfl (by decide) (by decide) (by decide) (fun _ _=>rfl) (fun y u hu q hq=>by simp [Jd] at hq;rcases hq with rfl | rfl | rfl | rfl <;> first | rfl | exact hu) HZ.out.2.2.2 H6.out.2.2.2.2.2.2.2.2.1 HZ.out.2.2.1 rfl HZ.out.2.1 rfl (by have:=HH.out.2.2.2.2.2.2;omega) ?_;intro v7 w7 hr7 hown7 k7)
    obtain ⟨so7,sc7,rfl,_,_⟩:=hr7.form
    have k67:Keep No w6 w7:=HZ.out.1.absorb k7 (fun c e=>by simp [Value.ownBlock] at e;omega)
    have H7:=Lib.hid (A3 hr7 hown7 k67)
    clear hr7 hown7 k7 k67 HZ l65A
    go_wp2_with fail
    go_loopw [16,103] (fun v16 v103 wr=>∃ i,v103=.int .i64 (i:Nat)/\i<=l.length/\Hy base wr v16 (recs++(l.take i).map (fun x=>⟨a,x.n,x.s⟩))/\(∀ b,v16.ownBlock=some b->w6.heap.size<=b)/\DBox wr b13 (y.putAll (l.take i)) (k+i)/\Keep (·=b13) w6 wr) (fun _ v103 _=>l.length - (intOf v103).toNat)
    case atStart=>exact ⟨0,rfl,Nat.zero_le _,by simpa [Hy] using H7.out.1,H7.out.2.1,H6.out.2.2.2.2.2.1.no H7.out.2.2,(Keep.refl _ _).then H7.out.2.2⟩
    case round =>
     obtain ⟨i,rfl,hi,hrw,hown,hbox,kr⟩:=hrel
     obtain ⟨ro,rc,rfl,_,_⟩:=hrw.form
     obtain ⟨N,hN⟩:∃ N,N=(recs++(l.take i).map (fun x=>(⟨a,x.n,x.s⟩:RecS))).length:=⟨_,rfl⟩
     rw [<- hN] at hrw hown ⊢
     have hb13b:base<=b13:=by have:=Qt HW.out.2.2.2.2.2.2.2.1.blk;have:=H1.out.size;have:=H2.out.1.size;have:=H3.out.2.2.2;have:=HW.out.2.2.2.2.2.2.2.1.bb;omega
     obtain ⟨xo,xn,xc,hbz,hbd⟩:=hbox
     obtain ⟨yo,yn,yc,ez6,_⟩:=H6.out.2.2.2.2.2.1
     have hitr:Gs base wr _ l:=BRow.block H6.out.2.2.2.2.1 ez6 hb13b (by decide) (by decide) kr
     by_cases hlt:i<l.length
     ·have hx:l[i]?=some l[i]:=List.getElem?_eq_getElem hlt
      generalize l[i]=z at hx
      have hzr:=HL.out.2.1 z (List.mem_of_getElem? hx)
      obtain ⟨t,ht⟩:∃ t,t=y.putAll (l.take i):=⟨_,rfl⟩
      have hfine:t.Fine width:=by rw [ht];exact HL.out.2.2.2.2.2.2.1.putAll (fun x hx=>(HL.out.2.1 x (List.mem_of_mem_take hx)).1)
      have htk:t.takes z.n=true:=by rw [ht];exact allIn_at HL.out.2.2.2.1 hx
      have hsu:y.putAll (l.take (i+1))=t.put z.n:=by rw [ht];exact putAll_succ y hx
      rw [<- ht] at hbz hbd
      obtain ⟨gi,ui,hgi,hub,hgb,hgl,hcs⟩:=BRow.at' hitr (fun _ _=>rfl) hx
      have e0:=hcs 0 _ rfl
      rw [Nat.add_zero] at e0
      have e1:=hcs 1 _ rfl
      have e2:=hcs 2 _ rfl
      obtain ⟨uo,uc,rfl⟩:=hub.form
      have hki:(i:Int)<(l.length:Int):=by omega
      have hz61:¬(2305843009213693952:Int)<=(z.n:Int):=by have:=hzr.1;omega
      have kA:=(Keep.refl No wr).alloc (.cells #[.int .u64 z.n,.int .i64 z.s.c,.slice uo z.s.body.length uc] 206)
      have b0:=Qq hbz 0
      have b1:=Qq hbz 1
      have b2:=Qq hbz 2
      simp at b0 b1 b2
      have b0A:=fun o=>((Keep.refl No wr).alloc o).cell b0 (fun e=>e)
      have b1A:=fun o=>((Keep.refl No wr).alloc o).cell b1 (fun e=>e)
      have b2A:=fun o=>((Keep.refl No wr).alloc o).cell b2 (fun e=>e)
      have h64:=HL.out.1
      have hkm:=HL.out.2.2.2.2.1
      have htks:=dTakes_spec (hbd.no kA) (by omega) hfine.ok z.n
      rw [htk] at htks
      have hput:=fun (w':World) (kk:Keep No (wr.alloc (.cells #[.int .u64 z.n,.int .i64 z.s.c,.slice uo z.s.body.length uc] 206)) w')=>dPut_spec ((hbd.no kA).no kk) (by omega) hfine.ok z.n (by have:=hzr.1;omega) htk
      have hnewA:=Qy wr (.cells #[.int .u64 z.n,.int .i64 z.s.c,.slice uo z.s.body.length uc] 206)
      have hbzA:=kA.heap hbz (fun e=>e)
      have h13:=Qt hbz
      have hwd:(t.put z.n).width=t.width:=by rw [(hfine.put hzr.1).width,hfine.width]
      subst hgi
      have hNl:N<=1099511627776:=by have:=HH.out.2.2.2.2.2.2;rw [hN,List.length_append,List.length_map,List.length_take];omega
      have HR:=Lib.hid (A16 kr kA hrw hown hput hnewA hbzA hsu hlt hx hub hN hb13b hNl hwd h13)
      clear hzr hfine htk hsu hitr hub hbd hbz kA hput hnewA hlt ht hx hi kr hrw hown hcs hbzA hN hb13b hNl hkm h64 b0 b1 b2 hwd h13
      go_upto_region 31 with (first
       | (go_at_call 123;refine (HR.out.2.2.2.2.1 w8 k8).mono ?_;rintro e w9 ⟨u9,rfl,hd9,k9⟩;obtain ⟨o9,n9,c9,rfl⟩:=hd9.form;have hb9:=k9.heap hb8 (fun e=>e);have hn9:=k9.heap hn8 (fun e=>e);have p0:=Qq hb9 0;have p1:=Qq hb9 1;have p2:=Qq hb9 2;simp at p0 p1 p2;have fp:=Qg hb9)
       | (go_at_call 122;refine htks.mono ?_;rintro e w8 ⟨rfl,k8⟩;have hb8:=k8.heap HR.out.2.2.2.2.2.2.1 (fun e=>e);have q0:=Qq hb8 0;have q1:=Qq hb8 1;have q2:=Qq hb8 2;have hn8:=k8.heap HR.out.2.2.2.2.2.1 (fun e=>e);have n0:=Qq hn8 0;simp at n0 q0 q1 q2))
      obtain ⟨hrkr,hrkA,hrrw,hrown,_,_,_,hrsu,hrlt,hrx,hrub,hrN,hrb,hrNl,hrwd,hr13⟩:=HR.out
      obtain ⟨hst,kst⟩:=DBox.ofV (y:=t.put z.n) hb9 hd9
      rw [hrwd] at hst kst
      have k09:=(hrkA.then k8).then k9
      have kal:=(((Keep.refl (·=b13) wr).then hrkA).then (k8.then k9)).trans kst (fun _ _ e=>e)
      have hn10:=kst.heap hn9 (fun e=>by have e:wr.heap.size=b13:=e;omega)
      have m0:=Qq hn10 0
      have m1:=Qq hn10 1
      have m2:=Qq hn10 2
      have hrw10:Hy base _ _ _:=BRow.block (BRow.no hrrw k09) hb9 hrb (by decide) (by decide) kst
      have hub10:=(hrub.no k09).keep (F:=(·=b13)) (fun c hc=>by have hc:c=b13:=hc;subst hc;exact ⟨hrb,Qt hb9,fun cs fr e=>by rw [hb9] at e;simp at e⟩) kst
      obtain ⟨W10,hW10⟩:∃ W10,W10=(((w9.setCell ⟨b13,0,none⟩ (.int .u64 (t.put z.n).low)).setCell ⟨b13,1,none⟩ (.int .u64 t.width)).setCell ⟨b13,2,none⟩ (.slice o9 n9 c9)):=⟨_,rfl⟩
      rw [<- hW10] at hst kst kal hn10 m0 m1 m2 hrw10 hub10 ⊢
      simp at m0 m1 m2
      have kR:=(Keep.refl No W10).alloc (.cells #[.int .i64 a,.int .u64 z.n,.int .i64 z.s.c,.slice uo z.s.body.length uc] 175)
      have hnR:=Qy W10 (.cells #[.int .i64 a,.int .u64 z.n,.int .i64 z.s.c,.slice uo z.s.body.length uc] 175)
      have hwr:w6.heap.size<=W10.heap.size:=Nat.le_trans hrkr.size kal.size
      have HX:=Lib.hid (A7 (hst.no kR) (kal.then kR) (BRow.no hrw10 kR) hnR (hub10.no kR) kR.size hwr)
      have HY:=Lib.hid (A7 hrkr hrown hrsu hrlt hrx hrN hrNl)
      have hi64:(l.length:Int)<=64:=by have:=HL.out.1;omega
      clear hst kst k09 kal hn10 hrw10 hub10 hW10 kR hnR hwr hrkr hrkA hrrw hrown hrsu hrlt hrx hrub hrN hrb hrNl hrwd hr13 HR k8 k9 hb8 hn8 hb9 hn9 hd9 n0 q0 q1 q2 p0 p1 p2 fp b0A b1A b2A htks
      go_wp2_with (at_builtin;refine wpList_append_brow rfl _ _ _ rfl rfl info_drec rfl (by decide) (by decide) (by decide) HX.out.2.2.1 rfl HX.out.2.2.2.1 rfl (y:=⟨a,z.n,z.s⟩) (fun q hq=>by simp [Jd] at hq;rcases hq with rfl | rfl | rfl | rfl <;> rfl) rfl rfl HX.out.2.2.2.2.1 (by rw [<- HY.out.2.2.2.2.2.1];exact HY.out.2.2.2.2.2.2) (by have:=H6.out.2.2.2.2.2.2.2.2.1;have:=HX.out.2.2.2.2.2.1;have:=HX.out.2.2.2.2.2.2;omega) (B:=w6.heap.size) H6.out.2.2.2.2.2.2.2.2.1 HY.out.2.1 (by have:=HX.out.2.2.2.2.2.1;have:=HX.out.2.2.2.2.2.2;omega) ?_;intro vo11 vc11 w11 hr11 hown11 k11;rw [<- HY.out.2.2.2.2.2.1] at hr11 hown11 ⊢)
      refine ⟨⟨i+1,by congr 1,by have:=HY.out.2.2.2.1;omega,?_,hown11,?_,?_⟩,by have:=HY.out.2.2.2.1;simp [intOf];omega⟩
      ·obtain ⟨hi',hz⟩:=List.getElem?_eq_some_iff.1 HY.out.2.2.2.2.1
       rw [List.take_succ_eq_append_getElem hi',hz,List.map_append,<- List.append_assoc]
       exact hr11
      ·rw [HY.out.2.2.1,<- Nat.add_assoc]
       obtain ⟨zo,zn,zc,hz1,hz2⟩:=HX.out.1
       exact ⟨zo,zn,zc,k11.heap hz1 (BRow.notOwn HX.out.2.2.1 hz1 (by decide)),hz2.keepF k11 (fun b hb=>by obtain ⟨_,cur,hc⟩:=BRow.kind HX.out.2.2.1 b hb;exact ⟨_,_,_,hc,by decide⟩)⟩
      ·exact (HY.out.1.trans HX.out.2.1 (fun _ _ e=>e)).trans k11 (fun c hc e=>by have:=HY.out.2.1 c e;omega)
     ·have hke:i=l.length:=by omega
      have hki:¬(i:Int)<(l.length:Int):=by omega
      rename World=>w8
      rw [hke,List.take_of_length_le (Nat.le_refl _)] at hrw hbz hbd
      clear hke
      have hlC:=Qt H2.out.2.2.2.2.2.blk
      have hnA:¬A=b13:=by have:=H3.out.2.2.2;have:=HW.out.2.2.2.2.1;have:=HW.out.2.2.2.2.2.2.1;omega
      have hnB:¬B=b13:=by have:=H3.out.2.2.2;have:=HW.out.2.2.2.2.2.1;have:=HW.out.2.2.2.2.2.2.1;omega
      have hA8:=kr.heap H6.out.2.1 hnA
      have hB8:=kr.heap H6.out.2.2.1 hnB
      have hS8:StAt base w8 cs inc now recs k:=H6.out.2.2.2.1.keep_in kr ez6 hb13b (by decide) (by decide) (by decide)
      obtain ⟨_,g1,g2,v,g3,hdw⟩:=hS8.ags a _ HH.out.2.2.2.2.2.1
      have a0:=Qq hA8 (17+a*3)
      have a1:=Qq hA8 (17+a*3+1)
      have a2:=Qq hA8 (17+a*3+2)
      have a65:=Qq hA8 65
      rw [g1] at a0
      rw [g2] at a1
      rw [g3] at a2
      rw [H6.out.2.2.2.2.2.2.2.2.2.1] at a65
      unfold u64v at a0 a1
      have fA:=Qg hA8
      have b0:=Qq hbz 0
      have b1:=Qq hbz 1
      have b2:=Qq hbz 2
      simp at b0 b1 b2
      obtain ⟨z,hz⟩:∃ z,z=y.putAll l:=⟨_,rfl⟩
      rw [<- hz] at hbz hbd b0 b1
      have k33:=(((Qd (g:=A) (i:=17+a*3) w8 (.int .u64 z.low)).setCell (p:=⟨A,17+a*3+1,none⟩) (.inl rfl) (.int .u64 z.width)).setCell (p:=⟨A,17+a*3+2,none⟩) (.inl rfl) (.slice xo xn xc)).setCell (p:=⟨A,65,none⟩) (.inl rfl) (.slice ro N rc)
      have hA33:=Qz (i:=65) (u:=.slice ro N rc) (Qz (i:=17+a*3+2) (u:=.slice xo xn xc) (Qz (i:=17+a*3+1) (u:=.int .u64 z.width) (Qz (i:=17+a*3) (u:=.int .u64 z.low) hA8)))
      have hB33:=k33.heap hB8 hBA
      have hS33:=(hS8.keep k33 (fun x e=>by have e:x=A:=e;subst e;exact ⟨hge,_,hA8⟩)).setPut HH.out.2.2.2.2.1 (Nat.le_add_right k l.length) (hbd.block hA8 (by decide) k33) (BRow.block hrw hA8 hge (by decide) (by decide) k33)
      have hkk:Keep No w _:=((((HW.out.1.absorb H2.out.1 (fun x e=>by have e:x=C:=e;have:=HW.out.2.2.2.2.2.2.1;omega)).absorb H6.out.1 (fun x e=>by have e:x=C:=e;have:=HW.out.2.2.2.2.2.2.1;omega)).absorb kr (fun x e=>by have e:x=b13:=e;have:=H3.out.2.2.2;have:=HW.out.2.2.2.2.2.2.1;omega))).absorb k33 (fun x e=>by have e:x=A:=e;have:=HW.out.2.2.2.2.1;omega)
      have hmod:now.modify a (fun x=>(x.1,z))=now.modify a (fun x=>(x.1,(x.2.skip bs).putAll l)):=modify_at HH.out.2.2.2.2.2.1 (by rw [hz,HL.out.2.2.2.2.2.2.2])
      have hdn:=one_done hkk hS33 hA33 hB33 (by have:=HW.out.2.2.2.2.2.1;omega) (by have:=HW.out.2.2.2.2.2.1;have:=HH.out.2.2.1;omega)
      rw [hmod] at hdn hS33
      obtain ⟨W4,hW4⟩:∃ W4,W4=((((w8.setCell ⟨A,17+a*3,none⟩ (.int .u64 z.low)).setCell ⟨A,17+a*3+1,none⟩ (.int .u64 z.width)).setCell ⟨A,17+a*3+2,none⟩ (.slice xo xn xc)).setCell ⟨A,65,none⟩ (.slice ro N rc)):=⟨_,rfl⟩
      rw [<- hW4] at hA33 hS33 hdn hB33
      obtain ⟨cs1,hcs1⟩:∃ cs1,cs1=((((cs.setIfInBounds (17+a*3) (.int .u64 z.low)).setIfInBounds (17+a*3+1) (.int .u64 z.width)).setIfInBounds (17+a*3+2) (.slice xo xn xc)).setIfInBounds 65 (.slice ro N rc)):=⟨_,rfl⟩
      rw [<- hcs1] at hA33 hS33 hdn
      have HX:=Lib.hid hdn
      clear hA8 hB8 hS8 hdw g1 g2 g3 k33 hkk hdn hmod hbz hbd hrw hown kr hitr ez6 hz hi hlt hN hb13b hcs1 hlC hnA hnB
      go_upto_region 34 with fail
      rw [<- hW4]
      clear hW4 fA a0 a1 a2 a65 b0 b1 b2
      go_wp2_with (first | (refine wpList_load_row rfl 168 _ rfl A rfl 168 cs1 (0,0) _ hA33 Tryz.underlying168 rfl hS33.info ?_) | (refine wpList_store_row rfl 168 _ _ rfl B cs1 rfl rfl 168 _ hB33 hS33.info (by rw [hS33.size];rfl) hS33.all ?_))
      refine bodyPost_ret (v:=.tuple #[.agg cs1,.bool true]) (Jl rfl _ _ B 168 cs1 (0,0) _ _ rfl rfl HX.out.1 Tryz.underlying168 rfl hS33.info) rfl ⟨cs1,rfl,HX.out.2.1,HX.out.2.2⟩
theorem now_modify {l:List AgS} {a:Nat} {f:AgS->AgS} {h:Nat × WinS->Nat × WinS} (e:∀ g,((f g).floor,(f g).now)=h (g.floor,g.now)):(l.modify a f).map (fun g=>(g.floor,g.now))=(l.map (fun g=>(g.floor,g.now))).modify a h:=by
 apply List.ext_getElem?
 intro i
 rw [List.getElem?_map,List.getElem?_modify,List.getElem?_modify,List.getElem?_map]
 cases l[i]? with
 | none=>rfl
 | some g =>
  by_cases hi:a=i
  ·simp [hi,e]
  ·simp [hi]
theorem told_many (width:Nat) (ts:List LRec) (h:∀ (k:Nat) r,ts[k]?=some r->(told width (ts.take k)).can r):∀ k,(told width (ts.take k)).recs.length<=64*k:=by
 intro k
 induction k with
 | zero=>simp [told,LedS.start]
 | succ k ih =>
  by_cases hk:k<ts.length
  ·rw [List.take_succ_eq_append_getElem hk,Vv]
   have hc:=h k _ (List.getElem?_eq_getElem hk)
   generalize ts[k]=r at hc
   cases r with
   | inc n=>show (told width (ts.take k)).recs.length<=_;omega
   | floor a n=>show (told width (ts.take k)).recs.length<=_;omega
   | put a b l =>
    show ((told width (ts.take k)).recs++l.map _).length<=_
    have:=hc.2.2.1
    rw [List.length_append,List.length_map]
    omega
  ·rw [List.take_of_length_le (by omega)] at ih ⊢
   omega
def StOf [bn:Inhabited Ban] (base:Nat) (w:World) (cs:Array Value) (L:LedS):Prop:=StAt base w cs L.inc L.now L.recs L.recs.length
theorem r16one_rec [bn:Inhabited Ban] {base width:Nat} {w:World} {cs:Array Value} {L:LedS} {r:LRec} {pv:Value} (h:StOf base w cs L) (hp:Qv base w pv r.bytes) (hok:L.Ok width) (hc:L.can r) (hlen:r.bytes.length<=1099511627776) (hrec:L.recs.length<=1000000) (hb:base<=w.heap.size) (hT:ban.top<=w.heap.size) :
  Calls Tryz.prog 127 #[.agg cs,pv] w fun e w'=>∃ cs',e=.returned (.tuple #[.agg cs',.bool true])/\StOf base w' cs' (L.step r)/\Keep No w w':=by
 cases r with
 | inc n=>exact r16one_inc h hp hc.1 hc.2 hb
 | floor a n =>
  obtain ⟨ha,hlt,hn⟩:=hc
  obtain ⟨x,hx,hxo,hxw,hxf⟩:=hok.at ha
  have hg:L.now[a]?=some (x.floor,x.now):=by unfold LedS.now;rw [List.getElem?_map,hx];rfl
  refine (r16one_floor h hp ha hg (by rw [hxf] at hlt;exact hlt) hn hb).mono ?_
  rintro e w' ⟨cs',e1,e2,e3⟩
  refine ⟨cs',e1,?_,e3⟩
  show StAt base w' cs' L.inc ((L.ag.modify a (fun g=>{ g with floor:=n })).map (fun g=>(g.floor,g.now))) L.recs L.recs.length
  rw [now_modify (h:=fun x=>(n,x.2)) (fun g=>rfl)]
  exact e2
 | put a b l =>
  obtain ⟨ha,hb61,hl,hr,hin⟩:=hc
  obtain ⟨x,hx,hxo,hxw,hxf⟩:=hok.at ha
  have hg:L.now[a]?=some (x.floor,x.now):=by unfold LedS.now;rw [List.getElem?_map,hx];rfl
  rw [hxw] at hin
  refine (r16one_put h hp ha hg hb61 hl hr hxo.fine hin hrec hlen (by omega) hb hT).mono ?_
  rintro e w' ⟨cs',e1,e2,e3⟩
  refine ⟨cs',e1,?_,e3⟩
  show StAt base w' cs' L.inc ((L.ag.modify a (fun g=>{ g with now:=(g.now.skip b).putAll l })).map (fun g=>(g.floor,g.now))) (L.recs++l.map (fun x=>⟨a,x.n,x.s⟩)) (L.recs++l.map (fun x=>(⟨a,x.n,x.s⟩:RecS))).length
  rw [now_modify (h:=fun x=>(x.1,(x.2.skip b).putAll l)) (fun g=>rfl),List.length_append,List.length_map]
  exact e2
theorem r16Told_at [bn:Inhabited Ban] {base:Nat} {w:World} {p q:Nat} {lv:Value} {x:Qn} {width:Nat} {size safe:Int} {ss:List SegL} {ts:List LRec} (h:Jg base w p q lv x width size safe) (hb:base<=w.heap.size) (hT:ban.top<=w.heap.size)
  (hl:x.l.length<=1000) (hs:wsum x.l<=1099511627776) (hm:segs6 x.l=segMap ss) (ho:Hs ss) (hr:Qw ss=ts.map LRec.bytes) (hw:1<=width/\width<=1024) (hts:ts.length<=10000) (hlen:∀ r∈ts,r.bytes.length<=1000)
  (hc:∀ (k:Nat) r,ts[k]?=some r->(told width (ts.take k)).can r) (n:Int) (hn:-9223372036854775808<=n/\n<=9223372036854775807) :
  Calls Tryz.prog 74 #[.pointer (some ⟨p,0,none⟩),.int .i64 n] w fun e w'=>∃ cs,e=.returned (.tuple #[.agg cs,.int .i64 0])/\StOf base w' cs (told width (ts.take (Ra n ts.length)))/\Keep No w w':=by
 have hll:(Qw ss).length=ts.length:=by rw [hr,List.length_map]
 have:=r16Told_spec (St:=fun k w cs=>StOf base w cs (told width (ts.take k))) h hb hT hl hs hm ho (by omega) n hn ⟨fun k w cs h=>⟨h.size,h.all⟩,fun k a b cs F h kk hF=>StAt.keep h kk hF⟩
  (fun w' _=>StAt.start base width w' _) (fun k r w' cs pv hk kw hst hpv=>by
   rw [hr,List.getElem?_map] at hk
   cases ht:ts[k]? with
   | none=>rw [ht] at hk;simp at hk
   | some t =>
    rw [ht] at hk
    simp at hk
    subst hk
    have hkl:=(List.getElem?_eq_some_iff.1 ht).1
    have hmany:=told_many width ts hc k
    have hlt:=hlen t (List.mem_of_getElem? ht)
    refine (r16one_rec hst hpv (Gb hw (fun k' r' hk'=>((Jc.mk rfl rfl rfl hc:Jc width ts (told width ts)).take k).can k' r' hk')) (hc k t ht) (by omega) (by omega) (Nat.le_trans hb kw.size) (Nat.le_trans hT kw.size)).mono ?_
    rintro e w2 ⟨cs',e1,e2,e3⟩
    refine ⟨cs',e1,?_,e3⟩
    rw [List.take_succ_eq_append_getElem hkl,Vv]
    obtain ⟨_,e⟩:=List.getElem?_eq_some_iff.1 ht
    rw [e]
    exact e2)
 rw [hll] at this
 exact this
structure RR [bn:Inhabited Ban] (base:Nat) (w:World) (p q:Nat) (lv:Value) (x:Qn) (width:Nat) (size safe:Int) (ss:List SegL) (ts:List LRec) (L:LedS) (j cnt:Nat) (d:Qr):Prop where
 mem:Jg base w p q lv x width size safe
 lg7:Log7 j cnt (Zk ts) ss d x
 jle:j<=450
 tls:Jc width ts L
 okL:L.Ok width
 few:∀ r∈ts,r.bytes.length<=1000
section
variable [bn:Inhabited Ban] {base:Nat} {w w':World} {p q width j cnt:Nat} {lv:Value} {x:Qn} {size safe:Int} {ss:List SegL} {ts:List LRec} {L:LedS} {d:Qr}
theorem RR.no (h:RR base w p q lv x width size safe ss ts L j cnt d) (k:Keep No w w'):RR base w' p q lv x width size safe ss ts L j cnt d:=⟨h.mem.no k,h.lg7,h.jle,h.tls,h.okL,h.few⟩
theorem RR.many (h:RR base w p q lv x width size safe ss ts L j cnt d):ts.length<=900:=by
 have h1:=h.lg7.good.next
 have h2:=h.lg7.next
 have h3:=h.jle
 have e:(Zk ts).length=ts.length:=by simp [Zk]
 omega
theorem RR.told (h:RR base w p q lv x width size safe ss ts L j cnt d) (hb:base<=w.heap.size) (hT:ban.top<=w.heap.size) :
  Calls Tryz.prog 74 #[.pointer (some ⟨p,0,none⟩),.int .i64 (-1)] w fun e w'=>∃ cs,e=.returned (.tuple #[.agg cs,.int .i64 0])/\StOf base w' cs L/\Keep No w w':=by
 have hm:=h.many
 have hg:=h.lg7.good
 have hlen:=hg.len
 have hsum:=hg.sum
 have hj:=h.jle
 refine (r16Told_at h.mem hb hT (by omega) (by omega) hg.map (hg.segsOk (by omega)) h.lg7.recs h.okL.wide (by omega) h.few h.tls.can (-1) (by decide)).mono ?_
 rintro e w' ⟨cs,e1,e2,k⟩
 refine ⟨cs,e1,?_,k⟩
 have ht:Ra (-1) ts.length=ts.length:=rfl
 rw [ht,List.take_length] at e2
 unfold StOf at e2 ⊢
 rw [h.tls.inc,h.tls.now,h.tls.recs]
 exact e2
theorem RR.app (h:RR base w p q lv x width size safe ss ts L j cnt d) (hb:base<=w.heap.size) (hT:ban.top<=w.heap.size) {pv:Value} {r:Qs} (hp:Qv base w pv r) (hr:r.length<=1048576) :
  Calls Tryz.prog 96 #[.pointer (some ⟨q,0,none⟩),.int .i64 size,pv] w (R7App base w q lv (max (Zz 0 ss) 1) (x.append (appS (logD size ss)).n (appB (logD size ss) r))):=by
 have hg:=h.lg7.good
 have hlen:=hg.len
 have hsum:=hg.sum
 have hj:=h.jle
 have hnx:=hg.next
 exact rAppend7_spec h.mem.rdisk hb hT (by omega) (by omega) hg.map (hg.segsOk (by omega)) (fun s hs=>by have:=hg.pos s hs;omega) size hp hr (by omega)
def Ho [bn:Inhabited Ban] (base:Nat) (w:World) (p q:Nat) (lv:Value) (x':Qn) (width:Nat) (size safe:Int) (w':World):Prop :=
 ∃ lv',Jg base w' p q lv' x' width size safe/\Keep (·=q) w w'/\∀ b,lv'.ownBlock=some b->lv.ownBlock=some b\/w.heap.size<=b
theorem RR.wrote {w2 w3:World} {lv':Value} {x':Qn} (h:RR base w p q lv x width size safe ss ts L j cnt d) (k:Keep No w w2) (hx:Zs base w3 q lv' x') (k3:Keep (·=q) w2 w3) (ho:∀ b,lv'.ownBlock=some b->lv.ownBlock=some b\/w2.heap.size<=b):Ho base w p q lv x' width size safe w3 :=
 ⟨lv',⟨k3.heap (k.heap h.mem.blk (fun e=>e)) (fun e=>h.mem.ne e.symm),hx,h.mem.pb⟩,k.no.trans k3 (fun _ _ e=>e),fun b hb=>(ho b hb).imp id (fun e=>Nat.le_trans k.size e)⟩
end
end Go.Proofs.YtfdmbomlkpkegaaGreat
