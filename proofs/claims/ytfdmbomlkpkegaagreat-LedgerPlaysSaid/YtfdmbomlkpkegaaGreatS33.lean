/- Lemmas for LedgerPlays. -/
import Derived.Test.YtfdmbomlkpkegaaGreatS16
import Derived.Test.YtfdmbomlkpkegaaGreatS25
set_option maxRecDepth 100000
set_option maxHeartbeats 8000000
set_option linter.all false
namespace Go.Proofs.YtfdmbomlkpkegaaGreat
open Go Go.RowKit Go.ChangeShapes Go.WideShapes Go.ChangeAt Go.Deep
structure Ue where
 dop:Int
 agent:Int
 bas:Nat
 epoch:Nat
 items:List Qc
 on:Bool
 keep:Int
 torn:Int
def ItIn [bn:Inhabited Ban] (base:Nat) (w:World) (g o:Nat) (x:Qc):Prop :=
 x.n<18446744073709551616/\∃ u,Qv base w u x.s.body/\w.cell? ⟨g,o,none⟩=some (.int .u64 x.n)/\w.cell? ⟨g,o+1,none⟩=some (.int .i64 x.s.c)/\w.cell? ⟨g,o+2,none⟩=some u
def Gu {α:Type} (base:Nat) (c:Nat) (R:Nat->Nat->α->Prop) (v:Value) (l:List α):Prop :=
 ∃ ao cap,v=.slice ao l.length cap/\l.length<=cap/\cap<=maxLen/\(l=[]\/∃ g o,g<base/\ao=some ⟨g,o,none⟩/\∀ (i:Nat) a,l[i]?=some a->R g (o+i*c) a)
def Rw [bn:Inhabited Ban] (base:Nat) (w:World) (v:Value) (l:List Qc):Prop:=Gu base 3 (ItIn base w) v l
structure Hx [bn:Inhabited Ban] (base:Nat) (w:World) (g o:Nat) (a:Ue):Prop where
 bas:a.bas<18446744073709551616
 epoch:a.epoch<18446744073709551616
 dop0:0<=a.dop/\a.dop<=255
 kept:a.keep<=9223372036854775807
 cells:∃ u,Rw base w u a.items/\w.cell? ⟨g,o,none⟩=some (.int .u8 a.dop)/\w.cell? ⟨g,o+1,none⟩=some (.int .i64 a.agent)/\w.cell? ⟨g,o+2,none⟩=some (.int .u64 a.bas)/\w.cell? ⟨g,o+3,none⟩=some (.int .u64 a.epoch) /\
  w.cell? ⟨g,o+4,none⟩=some u/\w.cell? ⟨g,o+5,none⟩=some (.bool a.on)/\w.cell? ⟨g,o+6,none⟩=some (.int .i64 a.keep)/\w.cell? ⟨g,o+7,none⟩=some (.int .i64 a.torn)
def Ux [bn:Inhabited Ban] (base:Nat) (w:World) (v:Value) (l:List Ue):Prop:=Gu base 8 (Hx base w) v l
theorem ItIn.no [bn:Inhabited Ban] {base:Nat} {w w':World} {g o:Nat} {x:Qc} (h:ItIn base w g o x) (k:Keep No w w'):ItIn base w' g o x:=by
 obtain ⟨h0,u,hb,c0,c1,c2⟩:=h
 exact ⟨h0,u,hb.no k,k.cell c0 (fun e=>e),k.cell c1 (fun e=>e),k.cell c2 (fun e=>e)⟩
theorem Gu.mono {α:Type} {base c:Nat} {R R':Nat->Nat->α->Prop} {v:Value} {l:List α} (h:Gu base c R v l) (hR:∀ g o a,R g o a->R' g o a):Gu base c R' v l:=by
 obtain ⟨ao,cap,h1,h2,h3,h4⟩:=h
 refine ⟨ao,cap,h1,h2,h3,?_⟩
 rcases h4 with h4 | ⟨g,o,hg,ho,hh⟩
 ·exact .inl h4
 ·exact .inr ⟨g,o,hg,ho,fun i a ha=>hR _ _ _ (hh i a ha)⟩
theorem Rw.no [bn:Inhabited Ban] {base:Nat} {w w':World} {v:Value} {l:List Qc} (h:Rw base w v l) (k:Keep No w w'):Rw base w' v l:=Gu.mono h (fun _ _ _ hh=>ItIn.no hh k)
theorem Gu.form {α:Type} {base c:Nat} {R:Nat->Nat->α->Prop} {v:Value} {l:List α} (h:Gu base c R v l):∃ ao cap,v=.slice ao l.length cap/\l.length<=cap/\cap<=maxLen:=by
 obtain ⟨ao,cap,h1,h2,h3,_⟩:=h
 exact ⟨ao,cap,h1,h2,h3⟩
theorem Gu.at {α:Type} {base c n cap:Nat} {R:Nat->Nat->α->Prop} {ao:Option Addr} {l:List α} (h:Gu base c R (.slice ao n cap) l) {i:Nat} {a:α} (hi:l[i]?=some a):∃ g o,ao=some ⟨g,o,none⟩/\R g (o+i*c) a:=by
 obtain ⟨ao',cap',h1,h2,h3,h4⟩:=h
 simp only [Value.slice.injEq] at h1
 obtain ⟨rfl,_,_⟩:=h1
 rcases h4 with rfl | ⟨g,o,_,rfl,hh⟩
 ·simp at hi
 ·exact ⟨g,o,rfl,hh i a hi⟩
section
variable {H:Type} {enc:TypeId × Value->H} {W:World}
theorem row_of_trod {α:Type} (a0:α) (R:Nat->Nat->α->Prop) {ts te:TypeId} (hu:Tryz.prog.underlying ts=some (.slice te)) (c:Nat) (hc:0<c) (hcell:Tryz.prog.cellsOf te=c)
  (elem:∀ {fuel:Nat} {cs:List Value} {x:DataW H × List MemPlace} {g o:Nat},DataW.trod enc Tryz.prog W 0 (fun _=>true) true fuel te cs=some x->(∀ i,i<c->W.cell? ⟨g,o+i,none⟩=cs[i]?)->∃ a:α,R g o a)
  {fuel:Nat} {ao:Option Addr} {n cap:Nat} {x:DataW H × List MemPlace} (h:DataW.trod enc Tryz.prog W 0 (fun _=>true) true fuel ts [.slice ao n cap]=some x) :
  ∃ l:List α,Gu W.heap.size c R (.slice ao n cap) l:=by
 rcases open_slice hu h with ⟨hcs,_⟩ | ⟨a,len,cap',m,fu,D,Pl,hcs,_,hl,hm,hmm,_,hx⟩
 ·simp at hcs
  obtain ⟨rfl,rfl,rfl⟩:=hcs
  exact ⟨[],none,0,rfl,Nat.le_refl _,by decide,.inl rfl⟩
 ·simp at hcs
  obtain ⟨rfl,rfl,rfl⟩:=hcs
  simp at hmm
  subst hmm
  by_cases h0:n=0
  ·subst h0
   exact ⟨[],_,_,rfl,Nat.zero_le _,hm,.inl rfl⟩
  ·rw [hcell] at hx
   obtain ⟨b,off,spot⟩:=a
   obtain ⟨cs0,hc0,_⟩:=hx 0 (by omega)
   obtain ⟨_,hl0,hc0⟩:=World.cells?_some hc0
   have hs0:cs0[0]?=some cs0[0]:=List.getElem?_eq_getElem (by omega)
   have hcc:=hc0 0 (by omega)
   rw [hs0] at hcc
   have hspot:spot=none:=by simpa [Addr.add] using World.cell?_spot hcc
   subst hspot
   have hlt:b<W.heap.size:=by simpa [Addr.add] using World.block_lt_of_cell? W _ hcc
   have key:∀ i,i<n->∃ a:α,R b (off+i*c) a:=by
    intro i hi
    obtain ⟨cs,hc,ht⟩:=hx i (by omega)
    obtain ⟨_,_,hc⟩:=World.cells?_some hc
    refine elem ht (fun j hj=>?_)
    rw [<- hc j hj,Addr.add_lit,Addr.add_lit]
   have:∃ f:Nat->α,∀ i,i<n->R b (off+i*c) (f i) :=
    ⟨fun i=>if h:i<n then Classical.choose (key i h) else a0,fun i hi=>by simp only [hi,dif_pos];exact Classical.choose_spec (key i hi)⟩
   obtain ⟨f,hf⟩:=this
   refine ⟨(List.range n).map f,some ⟨b,off,none⟩,m,by simp,by simpa using hl,hm,.inr ⟨b,off,hlt,rfl,fun i a ha=>?_⟩⟩
   rw [List.getElem?_map] at ha
   have hi:i<n:=by
    rcases Nat.lt_or_ge i n with h | h
    ·exact h
    ·rw [List.getElem?_eq_none (by simpa using h)] at ha;cases ha
   rw [List.getElem?_range hi] at ha
   simp at ha
   subst ha
   exact hf i hi
theorem Jw {k:IntKind} {n:Int} (h0:k.min=0) (w:(Lit.int k n).wf=true):∃ m:Nat,n=m:=⟨n.toNat,(Int.toNat_of_nonneg (by have:=(Jt w).1;omega)).symm⟩
theorem slice_len1 {v:Value} {fuel:Nat} {ts te:TypeId} (hu:Tryz.prog.underlying ts=some (.slice te)) {x:DataW H × List MemPlace} (h:DataW.trod enc Tryz.prog W 0 (fun _=>true) true fuel ts [v]=some x):∃ ao n cap,v=.slice ao n cap:=by
 rcases open_slice hu h with ⟨hcs,_⟩ | ⟨a,len,cap',m,fu,D,Pl,hcs,_⟩
 ·simp at hcs;exact ⟨_,_,_,hcs⟩
 ·simp at hcs;exact ⟨_,_,_,hcs⟩
theorem two_cells {cs:List Value} (h:cs.length=2):∃ a b,cs=[a,b]:=by
 match cs,h with
 | [a,b],_=>exact ⟨a,b,rfl⟩
theorem three_cells {cs:List Value} (h:cs.length=3):∃ a b c,cs=[a,b,c]:=by
 match cs,h with
 | [a,b,c],_=>exact ⟨a,b,c,rfl⟩
theorem eight_cells {cs:List Value} (h:cs.length=8):∃ a b c d e f g i,cs=[a,b,c,d,e,f,g,i]:=by
 match cs,h with
 | [a,b,c,d,e,f,g,i],_=>exact ⟨a,b,c,d,e,f,g,i,rfl⟩
theorem span_of_trod [bn:Inhabited Ban] (hban:ban.top=0) {fuel:Nat} {cs:List Value} {x:DataW H × List MemPlace} (h:DataW.trod enc Tryz.prog W 0 (fun _=>true) true fuel 61 cs=some x) :
  ∃ (s:Ys) (u:Value),cs=[.int .i64 s.c,u]/\Qv W.heap.size W u s.body:=by
 obtain ⟨xs,n,_,_,hl,hlen,hf⟩:=DataW.trod_struct Tryz.underlying61 h
 have hl2:cs.length=2:=hl.trans (by kernel_rfl)
 obtain ⟨c0,c1,rfl⟩:=two_cells hl2
 have hx:∀ i,i<2->∃ y,xs[i]?=some y:=fun i hi=>⟨_,List.getElem?_eq_getElem (by rw [hlen];exact hi)⟩
 have g0:=hf 0 _ rfl
 have g1:=hf 1 _ rfl
 dsimp at g0 g1
 rw [show Tryz.prog.cellsOf 3=1 from by kernel_rfl] at g0
 rw [show Tryz.prog.cellsOf 59=1 from by kernel_rfl] at g1
 obtain ⟨y0,e0⟩:=hx 0 (by omega)
 obtain ⟨y1,e1⟩:=hx 1 (by omega)
 rw [e0] at g0;rw [e1] at g1
 obtain ⟨n0,h0,_,w0⟩:=DataW.trod_int Tryz.underlying3 g0
 obtain ⟨v1,l1,h1,b1⟩:=bytes_of_trod hban g1
 simp at h0 h1
 subst h0 h1
 exact ⟨⟨n0,l1⟩,_,rfl,b1⟩
theorem item_of_trod [bn:Inhabited Ban] (hban:ban.top=0) {fuel:Nat} {cs:List Value} {x:DataW H × List MemPlace} {g o:Nat} (h:DataW.trod enc Tryz.prog W 0 (fun _=>true) true fuel 111 cs=some x)
  (hc:∀ i,i<3->W.cell? ⟨g,o+i,none⟩=cs[i]?):∃ a:Qc,ItIn W.heap.size W g o a:=by
 obtain ⟨xs,n,_,_,hl,hlen,hf⟩:=DataW.trod_struct Tryz.underlying111 h
 have hl3:cs.length=3:=hl.trans (by kernel_rfl)
 obtain ⟨c0,c1,c2,rfl⟩:=three_cells hl3
 have hx:∀ i,i<2->∃ y,xs[i]?=some y:=fun i hi=>⟨_,List.getElem?_eq_getElem (by rw [hlen];exact hi)⟩
 have g0:=hf 0 _ rfl
 have g1:=hf 1 _ rfl
 dsimp at g0 g1
 rw [show Tryz.prog.cellsOf 27=1 from by kernel_rfl] at g0
 rw [show Tryz.prog.cellsOf 61=2 from by kernel_rfl] at g1
 obtain ⟨y0,e0⟩:=hx 0 (by omega)
 obtain ⟨y1,e1⟩:=hx 1 (by omega)
 rw [e0] at g0;rw [e1] at g1
 obtain ⟨n0,h0,_,w0⟩:=DataW.trod_int Tryz.underlying27 g0
 obtain ⟨s,u,h1,b1⟩:=span_of_trod hban g1
 simp at h0 h1
 obtain ⟨h1a,h1b⟩:=h1
 subst h0 h1a h1b
 have k0:=hc 0 (by omega)
 have k1:=hc 1 (by omega)
 have k2:=hc 2 (by omega)
 have hb0:=Jt w0
 have h64:IntKind.u64.max=18446744073709551615:=rfl
 obtain ⟨m,rfl⟩:=Jw rfl w0
 exact ⟨⟨m,s⟩,by show m<_;have:=hb0.2;omega,_,b1,k0,k1,k2⟩
theorem act16_of_trod [bn:Inhabited Ban] (hban:ban.top=0) {fuel:Nat} {cs:List Value} {x:DataW H × List MemPlace} {g o:Nat} (h:DataW.trod enc Tryz.prog W 0 (fun _=>true) true fuel 30 cs=some x)
  (hc:∀ i,i<8->W.cell? ⟨g,o+i,none⟩=cs[i]?):∃ a:Ue,Hx W.heap.size W g o a:=by
 obtain ⟨xs,n,_,_,hl,hlen,hf⟩:=DataW.trod_struct Tryz.underlying30 h
 have hl8:cs.length=8:=hl.trans (by kernel_rfl)
 obtain ⟨c0,c1,c2,c3,c4,c5,c6,c7,rfl⟩:=eight_cells hl8
 have hx:∀ i,i<8->∃ y,xs[i]?=some y:=fun i hi=>⟨_,List.getElem?_eq_getElem (by rw [hlen];exact hi)⟩
 have g0:=hf 0 _ rfl
 have g1:=hf 1 _ rfl
 have g2:=hf 2 _ rfl
 have g3:=hf 3 _ rfl
 have g4:=hf 4 _ rfl
 have g5:=hf 5 _ rfl
 have g6:=hf 6 _ rfl
 have g7:=hf 7 _ rfl
 dsimp at g0 g1 g2 g3 g4 g5 g6 g7
 rw [show Tryz.prog.cellsOf 5=1 from by kernel_rfl] at g0
 rw [show Tryz.prog.cellsOf 3=1 from by kernel_rfl] at g1 g6 g7
 rw [show Tryz.prog.cellsOf 27=1 from by kernel_rfl] at g2 g3
 rw [show Tryz.prog.cellsOf 28=1 from by kernel_rfl] at g4
 rw [show Tryz.prog.cellsOf 4=1 from by kernel_rfl] at g5
 obtain ⟨y0,e0⟩:=hx 0 (by omega)
 obtain ⟨y1,e1⟩:=hx 1 (by omega)
 obtain ⟨y2,e2⟩:=hx 2 (by omega)
 obtain ⟨y3,e3⟩:=hx 3 (by omega)
 obtain ⟨y4,e4⟩:=hx 4 (by omega)
 obtain ⟨y5,e5⟩:=hx 5 (by omega)
 obtain ⟨y6,e6⟩:=hx 6 (by omega)
 obtain ⟨y7,e7⟩:=hx 7 (by omega)
 rw [e0] at g0;rw [e1] at g1;rw [e2] at g2;rw [e3] at g3;rw [e4] at g4;rw [e5] at g5;rw [e6] at g6;rw [e7] at g7
 obtain ⟨n0,h0,_,w0⟩:=DataW.trod_int Tryz.underlying5 g0
 obtain ⟨n1,h1,_,w1⟩:=DataW.trod_int Tryz.underlying3 g1
 obtain ⟨n2,h2,_,w2⟩:=DataW.trod_int Tryz.underlying27 g2
 obtain ⟨n3,h3,_,w3⟩:=DataW.trod_int Tryz.underlying27 g3
 obtain ⟨ao,n4,cap,h4⟩:=slice_len1 Tryz.underlying28 g4
 have h4':c4=.slice ao n4 cap:=by simpa using h4
 obtain ⟨b5,h5,_⟩:=DataW.trod_bool Tryz.underlying4 g5
 obtain ⟨n6,h6,_,w6⟩:=DataW.trod_int Tryz.underlying3 g6
 obtain ⟨n7,h7,_,w7⟩:=DataW.trod_int Tryz.underlying3 g7
 simp at h0 h1 h2 h3 h5 h6 h7
 subst h0 h1 h2 h3 h4' h5 h6 h7
 obtain ⟨l,hrow⟩:=row_of_trod (α:=Qc) ⟨0,⟨0,[]⟩⟩ (ItIn W.heap.size W) Tryz.underlying28 3 (by decide) (by kernel_rfl) (fun h hc=>item_of_trod hban h hc) g4
 have hb0:=Jt w0
 have hb2:=Jt w2
 have hb3:=Jt w3
 have h64:IntKind.u64.max=18446744073709551615:=rfl
 have h8:IntKind.u8.max=255:=rfl
 have h80:IntKind.u8.min=0:=rfl
 have hb6:=Jt w6
 have h63:IntKind.i64.max=9223372036854775807:=rfl
 obtain ⟨m2,rfl⟩:=Jw rfl w2
 obtain ⟨m3,rfl⟩:=Jw rfl w3
 exact ⟨⟨n0,n1,m2,m3,l,b5,n6,n7⟩,by show m2<_;have:=hb2.2;omega,by show m3<_;have:=hb3.2;omega,⟨by show 0<=n0;omega,by show n0<=255;omega⟩,by show n6<=_;have:=hb6.2;omega,_,hrow,hc 0 (by omega),hc 1 (by omega),hc 2 (by omega),hc 3 (by omega),hc 4 (by omega),hc 5 (by omega),hc 6 (by omega),hc 7 (by omega)⟩
theorem acts16_of_trod [bn:Inhabited Ban] (hban:ban.top=0) {fuel:Nat} {ao:Option Addr} {n cap:Nat} {x:DataW H × List MemPlace} (h:DataW.trod enc Tryz.prog W 0 (fun _=>true) true fuel 23 [.slice ao n cap]=some x) :
  ∃ acts:List Ue,Ux W.heap.size W (.slice ao n cap) acts :=
 row_of_trod (α:=Ue) ⟨0,0,0,0,[],false,0,0⟩ (Hx W.heap.size W) Tryz.underlying23 8 (by decide) (by kernel_rfl) (fun h hc=>act16_of_trod hban h hc) h
end
end Go.Proofs.YtfdmbomlkpkegaaGreat
namespace Go.Proofs.YtfdmbomlkpkegaaGreat
open Go Go.RowKit Go.Dr
def cutI (x:Qc):Qc:=⟨x.n,⟨x.s.c,x.s.body.take 40⟩⟩
def fewS (l:List Qc):List Qc:=(l.take 8).map cutI
theorem fewS_len (l:List Qc):(fewS l).length<=8:=by unfold fewS;simp;omega
theorem fewS_body (l:List Qc):∀ x∈fewS l,x.s.body.length<=40:=by
 intro x hx
 obtain ⟨y,_,rfl⟩:=List.mem_map.1 hx
 show (y.s.body.take 40).length<=40
 rw [List.length_take]
 omega
theorem fewS_more {l:List Qc} {k:Nat} {x:Qc} (hx:l[k]?=some x) (h:k<8):fewS (l.take (k+1))=fewS (l.take k)++[cutI x]:=by
 obtain ⟨hk,rfl⟩:=List.getElem?_eq_some_iff.1 hx
 unfold fewS
 rw [List.take_take,List.take_take,Nat.min_eq_right (by omega),Nat.min_eq_right (by omega),List.take_succ_eq_append_getElem hk,List.map_append]
 rfl
theorem fewS_rest {l:List Qc} {k:Nat} (h:8<=k):fewS (l.take (k+1))=fewS (l.take k):=by
 unfold fewS
 rw [List.take_take,List.take_take,Nat.min_eq_left (by omega),Nat.min_eq_left (by omega)]
theorem few16_spec [bn:Inhabited Ban] {base:Nat} {w:World} {v:Value} {l:List Qc} (h:Rw base w v l) (hb:base<=w.heap.size) (hT:ban.top<=w.heap.size) :
  Calls Tryz.prog 25 #[v] w fun e w'=>∃ v',e=.returned v'/\Xr base w' w.heap.size v' (fewS l)/\Keep No w w':=by
 obtain ⟨ao,cap,rfl,hlc,hcm⟩:=h.form
 have hli:(l.length:Int)<=9223372036854775807:=by unfold maxLen at hcm;omega
 have HH:=Lib.hid (A4 h hb hT hli)
 clear h hb hT hcm hlc hli
 go_enter Tryz.func25,Tryz.ntmps25
 go_wp2_with fail
 go_loopw [3,8] (fun v3 v8 wr=>∃ k,v8=.int .i64 (k:Nat)/\k<=l.length/\Xr base wr w.heap.size v3 (fewS (l.take k))/\Keep No w wr) (fun _ v8 _=>l.length - (intOf v8).toNat)
 case atStart=>exact ⟨0,rfl,Nat.zero_le _,Xr.nil _ _ _,Keep.refl _ _⟩
 case round =>
  obtain ⟨k,rfl,hk,hits,kr⟩:=hrel
  obtain ⟨oo,oc,rfl,_,_⟩:=hits.form
  by_cases hlt:k<l.length
  ·have hx:l[k]?=some l[k]:=List.getElem?_eq_getElem hlt
   have hm1:=fun h8=>fewS_more hx h8
   have hm2:=fun h8=>fewS_rest (l:=l) (k:=k) h8
   obtain ⟨g,o,hgo,hn,u,hub,c0,c1,c2⟩:=HH.out.1.at hx
   generalize l[k]=x at hx hm1 hn hub c0 c1
   obtain ⟨uo,uc,rfl⟩:=hub.form
   subst hgo
   have c0:=kr.cell c0 (fun e=>e)
   have c1:=kr.cell c1 (fun e=>e)
   have c2:=kr.cell c2 (fun e=>e)
   have hki:(k:Int)<(l.length:Int):=by omega
   have hkn:IntKind.i64.wrap ((k:Int)+1)=((k+1:Nat):Int):=by
    have:=HH.out.2.2.2
    rw [IntKind.wrap_i64]
    omega
   obtain ⟨tk,htk⟩:∃ tk,tk=fewS (l.take k):=⟨_,rfl⟩
   have hlen:tk.length<=8:=by rw [htk];exact fewS_len _
   rw [<- htk] at hits hm1 hm2
   have htl:tk.length=(fewS (l.take k)).length:=by rw [htk]
   rw [<- htl]
   have kA:=(Keep.refl No wr).alloc (.cells #[.int .u64 x.n,.int .i64 x.s.c,.slice uo x.s.body.length uc] 111)
   have hA:=Qy wr (.cells #[.int .u64 x.n,.int .i64 x.s.c,.slice uo x.s.body.length uc] 111)
   by_cases h8:k<8
   ·have h8i:(k:Int)<8:=by omega
    have hcut:=cut_spec ((hub.no kr).no kA) 40 (by decide)
    obtain ⟨cb,hcb⟩:∃ cb,cb=x.s.body.take 40:=⟨_,rfl⟩
    have hcI:cutI x=⟨x.n,⟨x.s.c,cb⟩⟩:=by rw [hcb];rfl
    rw [<- hcb] at hcut
    rw [hcI] at hm1
    clear hcb hcI
    have HR:=Lib.hid (A7 hits kr (hm1 h8) hlen kA hA hlt)
    clear hits kr hm1 hm2 hlen kA hA hlt hx htk htl hub hk h8 hn
    go_wp2_with fail
    refine hcut.mono ?_
    rintro e w2 ⟨v2,rfl,own2,k2⟩
    obtain ⟨o2,c2',rfl⟩:=own2.form
    have hA2:=k2.heap HR.out.2.2.2.2.2.1 (fun e=>e)
    have d0:=Qq hA2 0
    have d1:=Qq hA2 1
    have d2:=Qq hA2 2
    have fA:=Qg hA2
    simp at d0 d1 d2
    obtain ⟨W3,hW3⟩:∃ W3,w2.setCell ⟨wr.heap.size,2,none⟩ (.slice o2 cb.length c2')=W3:=⟨_,rfl⟩
    have k3:Keep (·=wr.heap.size) w2 (w2.setCell ⟨wr.heap.size,2,none⟩ (.slice o2 cb.length c2')):=Qd _ _
    have hA3:=Qz (i:=2) (u:=.slice o2 cb.length c2') hA2
    have hsA:wr.heap.size<(wr.alloc (.cells #[.int .u64 x.n,.int .i64 x.s.c,.slice uo x.s.body.length uc] 111)).heap.size:=by simp
    have own3:=own2.keep k3 (fun b hb e=>by have:=(own2.lt b hb).1;have e:b=wr.heap.size:=e;omega)
    have hits2:=(HR.out.1.no HR.out.2.2.2.2.1).no k2
    have hbw:base<=wr.heap.size:=Nat.le_trans HH.out.2.1 HR.out.2.1.size
    have hfk:Foot base w2 (·=wr.heap.size):=fun b e=>by
     subst e
     exact ⟨hbw,Qt hA2,fun cs fr e=>by rw [hA2] at e;simp at e⟩
    have hits3:=hits2.keep hfk k3 (fun b hb e=>by
     obtain ⟨xs,_,_,h3⟩:=HR.out.1
     have:=(World.ownsRow.lt h3 b hb).2
     have e:b=wr.heap.size:=e
     omega)
    rw [hW3] at k3 hA3 own3 hits3
    have p0:=Qq hA3 0
    have p1:=Qq hA3 1
    have p2:=Qq hA3 2
    simp at p0 p1 p2
    have kB:=(Keep.refl No W3).alloc (.cells #[.int .u64 x.n,.int .i64 x.s.c,.slice o2 cb.length c2'] 111)
    have hB:=Qy W3 (.cells #[.int .u64 x.n,.int .i64 x.s.c,.slice o2 cb.length c2'] 111)
    have hbb:=(own3.keep kB (fun _ _ e=>e)).bytes (base:=base) (fun _=>Nat.le_trans HH.out.2.2.1 (by have:=HR.out.2.1.size;omega))
    have H3:=Lib.hid (A5 (hits3.no kB) hbb hB ((((HR.out.2.1.then HR.out.2.2.2.2.1).then k2).trans k3 (fun c hc e=>by have e:c=wr.heap.size:=e;have:=HR.out.2.1.size;omega)).then kB) trivial)
    have hsz3:=H3.out.2.2.2.1.size
    clear hits3 hits2 own3 hB kB k3 hA3 hA2 own2 k2 hsA hbb hfk hbw hcut
    go_wp2_with (at_builtin;refine wpList_append_item (y:=⟨x.n,⟨x.s.c,cb⟩⟩) rfl _ _ rfl H3.out.1 HH.out.2.1 rfl H3.out.2.2.1 rfl H3.out.2.1 (by have:=HR.out.2.2.2.1;omega) hsz3 ?_;intro vo5 vc5 w5 hits5 k5)
    go_roundw
    case rel =>
     refine ⟨k+1,by congr 1,by have:=HR.out.2.2.2.2.2.2;omega,by rw [HR.out.2.2.1];exact hits5,H3.out.2.2.2.1.trans k5 (fun c hc e=>?_)⟩
     obtain ⟨xs,h1,h2,h3⟩:=HR.out.1
     have:=(World.ownsRow.lt h3 c e).1
     omega
    case measure=>have:=HR.out.2.2.2.2.2.2;simp [intOf];omega
   ·have h8i:¬(k:Int)<8:=by omega
    have HR:=Lib.hid (A5 hits kr (hm2 (by omega)) hlt kA)
    clear hits kr hm1 hm2 hlen kA hA hlt hx htk htl hub hk h8 hn
    go_wp2_with fail
    go_roundw
    case rel=>exact ⟨k+1,by congr 1,by have:=HR.out.2.2.2.1;omega,by rw [HR.out.2.2.1];exact HR.out.1.no HR.out.2.2.2.2,HR.out.2.1.then HR.out.2.2.2.2⟩
    case measure=>have:=HR.out.2.2.2.1;simp [intOf];omega
  ·have hke:k=l.length:=by omega
   have hki:¬(k:Int)<(l.length:Int):=by omega
   subst hke
   have htk:l.take l.length=l:=List.take_of_length_le (Nat.le_refl _)
   rw [htk] at hits
   rw [htk]
   have HR:=Lib.hid (A2 hits kr)
   clear hits kr hk hlt htk
   go_wp2_with fail
   go_ret
   exact ⟨_,rfl,HR.out.1,HR.out.2⟩
end Go.Proofs.YtfdmbomlkpkegaaGreat
