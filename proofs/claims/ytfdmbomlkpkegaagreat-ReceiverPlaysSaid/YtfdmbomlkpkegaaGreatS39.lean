/- Lemmas. -/
import Derived.Test.YtfdmbomlkpkegaaGreatS38
set_option maxRecDepth 100000
set_option maxHeartbeats 8000000
set_option linter.all false
set_option autoImplicit true
set_option relaxedAutoImplicit true
open Go renaming Value->AM,World->AC
open Go.Lib renaming hid->BX
open Go.Value renaming int->DA,slice->DN
open Go.World renaming size_alloc->FE
open List renaming getElem?_eq_getElem->BY,length_take->E9,take_length->BZ,take_succ_eq_append_getElem->BM
open Nat renaming zero_le->BW
open Option renaming none->AI,some->AF
namespace Go.Proofs.YtfdmbomlkpkegaaGreat
open Go Go.RowKit Go.Dr Go.Shelf
theorem Sa.get(h:Sa w (.slice ao n cap) l)(hi:l[i]?=AF r):∃g o,ao=AF ⟨g,o,AI⟩/\w.cell? ⟨g,o+i*2,AI⟩=AF (.int .u64 r.1)/\w.cell? ⟨g,o+i*2+1,AI⟩=AF (.int .u64 r.2):=by obtain⟨g,o,e,d⟩:=h.row (l:=l) (λe=>by rw[e]at hi;simp at hi);exact⟨g,o,e,d i r hi⟩
def Nv:Array AM:=#[.int .i64 0,.int .i64 0,.int .u64 0,.int .u64 0,.int .u64 0,.int .u64 0,.int .u64 0,.slice AI 0 0,.slice AI 0 0]
def Ck (f:Vy)(fv fi:AM)(w wr:AC)(rv iv:AM):Prop :=
 wr.heap[w.heap.size]?=AF (.cells (f.cells fv fi) 69 (0,0))/\wr.heap[w.heap.size+1]?=AF (.cells Nv 106 (0,0))/\wr.heap[w.heap.size+2]?=AF (.cells (f.dcells rv iv) 106 (0,0))/\Xy No w wr
section
variable {f:Vy}{w wr wx:AC}{fv fi rv iv v:AM}{te:TypeId}
theorem Ck.no(h:Ck f fv fi w wr rv iv)(k:Xy No wr wx):Ck f fv fi w wx rv iv:=⟨k.heap h.1 id,k.heap h.2.1 id,k.heap h.qc id,h.2.2.2.then k⟩
theorem Ck.row(h:Ck f fv fi w wr rv iv)(n:∀b,v.ownBlock=AF b->w.heap.size<=b/\∃d,wr.heap[b]?=AF (.cells d te (0,0)))(o:te≠106)(p:te≠69)(k:Xy (λb=>v.ownBlock=AF b) wr wx):Ck f fv fi w wx rv iv:=by
 have i:∀(b:Nat) (cs:Array AM) (t:TypeId),wr.heap[b]?=AF (.cells cs t (0,0))->te≠t->¬v.ownBlock=AF b:=λb cs t g j e=>by
  obtain⟨_,d,m⟩:=n b e;rw[g]at m;simp at m;exact j m.2.symm
 exact⟨k.heap h.1 (i _ _ _ h.1 p),k.heap h.2.1 (i _ _ _ h.2.1 o),k.heap h.qc (i _ _ _ h.qc o),h.2.2.2.absorb k (λb g=>(n b g).1)⟩
theorem Ck.keepD(d:Ck f fv fi w wr rv iv)(i:Nat)(u:AM):Xy (·=w.heap.size+2) wr (wr.setCell ⟨w.heap.size+2,i,AI⟩ u):=Xy.setCell (F:=(·=w.heap.size+2)) (Xy.refl _ wr) (p:=⟨w.heap.size+2,i,AI⟩) (.inl rfl) u
theorem Ck.set7(h:Ck f fv fi w wr rv iv)(u:AM):Ck f fv fi w (wr.setCell ⟨w.heap.size+2,7,AI⟩ u) u iv :=
 ⟨(h.keepD 7 u).heap h.1 (by omega),(h.keepD 7 u).heap h.2.1 (by omega),Qz (i:=7) (u:=u) h.qc,h.2.2.2.setCell (.inr (by show w.heap.size<=w.heap.size+2;omega)) _⟩
theorem Ck.set8(h:Ck f fv fi w wr rv iv)(u:AM):Ck f fv fi w (wr.setCell ⟨w.heap.size+2,8,AI⟩ u) rv u :=
 ⟨(h.keepD 8 u).heap h.1 (by omega),(h.keepD 8 u).heap h.2.1 (by omega),Qz (i:=8) (u:=u) h.qc,h.2.2.2.setCell (.inr (by show w.heap.size<=w.heap.size+2;omega)) _⟩
theorem Ck.notD(h:Ck f fv fi w wr rv iv)(j:∀b,v.ownBlock=AF b->∃d,wr.heap[b]?=AF (.cells d te (0,0)))(k:te≠106):∀b,v.ownBlock=AF b->¬b=w.heap.size+2:=λb i e=>by
 obtain⟨d,g⟩:=j b i
 rw[e,h.qc]at g
 simp at g
 exact k g.2.symm
end
def MU (f:Vy)(fv fi:AM)(w:AC)(d:AM)(wr:AC):Prop:=∃k rv,d=.int .i64 (k:Nat)/\k<=f.runs.length/\Ck f fv fi w wr rv (.slice AI 0 0)/\Gq wr w.heap.size rv (f.runs.take k)
def MG [bn:Ib](base:Nat)(f:Vy)(fv fi:AM)(w:AC)(rv d:AM)(wx:AC):Prop:=∃k iv,d=.int .i64 (k:Nat)/\k<=f.items.length/\Ck f fv fi w wx rv iv/\Gq wx w.heap.size rv f.runs/\Gs base wx iv (f.items.take k)/\∀b,iv.ownBlock=AF b->w.heap.size<=b
theorem Lj[bn:Ib](f:Vy)(aV:f.kind<256)(hv:Sa w fv f.runs)(aP:f.runs.length<=1048576)(hi:Xr base w B fi f.items)(aK:f.items.length<=1048576)(G:base<=w.heap.size) :
  Calls Tryz.prog 44 #[.agg (f.cells fv fi)] w λe w'=>∃rv iv,e=.returned (.agg (f.dcells rv iv))/\Gq w' w.heap.size rv f.runs/\Gs base w' iv f.items/\Xy No w w':=by
 obtain⟨S,R,rfl,_,_⟩:=hv.form;obtain⟨P,O,rfl,_,_⟩:=hi.form;have ag:(f.runs.length:Int)<=1048576:=by omega
 have af:(f.items.length:Int)<=1048576:=by omega
 have aX:wrap64 (f.kind:Int)=(f.kind:Int):=by unfold wrap64;omega
 obtain⟨W,hW⟩:∃W,W=((w.alloc (.cells (f.cells (.slice S f.runs.length R) (.slice P f.items.length O)) 69)).alloc (.cells Nv 106)).alloc (.cells (f.dcells (.slice AI 0 0) (.slice AI 0 0)) 106):=⟨_,rfl⟩;have k1:=(Xy.refl No w).alloc (.cells (f.cells (.slice S f.runs.length R) (.slice P f.items.length O)) 69);have k2:=(Xy.refl No (w.alloc (.cells (f.cells (.slice S f.runs.length R) (.slice P f.items.length O)) 69))).alloc (.cells Nv 106);have k3:=(Xy.refl No ((w.alloc (.cells (f.cells (.slice S f.runs.length R) (.slice P f.items.length O)) 69)).alloc (.cells Nv 106))).alloc (.cells (f.dcells (.slice AI 0 0) (.slice AI 0 0)) 106);have aI:Ck f (.slice S f.runs.length R) (.slice P f.items.length O) w W (.slice AI 0 0) (.slice AI 0 0):=by
  rw[hW];refine⟨(k2.then k3).heap (Qy w (.cells (f.cells (.slice S f.runs.length R) (.slice P f.items.length O)) 69)) id,?_,?_,k1.then (k2.then k3)⟩
  ·have:=k3.heap (Qy (w.alloc (.cells (f.cells (.slice S f.runs.length R) (.slice P f.items.length O)) 69)) (.cells Nv 106)) id;rw[FE]at this;exact this
  ·have:=Qy ((w.alloc (.cells (f.cells (.slice S f.runs.length R) (.slice P f.items.length O)) 69)).alloc (.cells Nv 106)) (.cells (f.dcells (.slice AI 0 0) (.slice AI 0 0)) 106);rw[FE,FE]at this;exact this
 have T:=BX (A6 hv hi aP aK G aI);clear hv hi aP aK G aI k1 k2 k3 aV;unfold Vy.cells Vy.dcells Nv at hW;unfold Vy.cells;go_enter Tryz.func44,Tryz.ntmps44;go_upto_block 0 with fail;rw[aX,<- hW,show w.heap.size+1+1=w.heap.size+2 from rfl];clear hW;go_wp2_with fail;go_loopw [27] (λaF wr=>MU f (.slice S f.runs.length R) (.slice P f.items.length O) w aF wr) (λaF _=>f.runs.length-(intOf aF).toNat);case atStart=>exact⟨0,_,rfl,BW _,T.out.rf,Gq.nil _ _⟩
 case round =>
  obtain⟨k,rv,rfl,hk,hF,A⟩:=hrel;obtain⟨ro,rc,rfl,_,_⟩:=A.form;by_cases i:k<f.runs.length
  ·have hx:f.runs[k]?=AF f.runs[k]:=BY i;have d:f.runs.take (k+1)=f.runs.take k++[f.runs[k]]:=BM i;generalize f.runs[k]=x at hx d;obtain⟨g,ae,he,a0,a1⟩:=(T.out.1.no hF.2.2.2).get hx;subst he;obtain⟨t,ht⟩:∃t,t=f.runs.take k:=⟨_,rfl⟩;rw[<- ht]at A d hF;have N:t.length<=1099511627776:=by rw[ht,E9];have:=T.out.qc;omega
   have aW:(k:Int)<(f.runs.length:Int):=by omega
   have d7:wr.cell? ⟨w.heap.size+2,7,AI⟩=AF (.slice ro t.length rc):=(Qq hF.qc 7).trans rfl;obtain⟨m,p⟩:∃m,m=wr.alloc (.cells #[.int .u64 x.1,.int .u64 x.2] 96):=⟨_,rfl⟩;have J:Xy No wr m:=by rw[p];exact(Xy.refl _ _).alloc _
   have X:m.heap[wr.heap.size]?=AF (.cells #[.int .u64 x.1,.int .u64 x.2] 96 (0,0)):=by rw[p];exact Qy _ _
   have x0:m.cell? ⟨wr.heap.size,0,AI⟩=AF (.int .u64 x.1):=(Qq X 0).trans rfl;have x1:m.cell? ⟨wr.heap.size,1,AI⟩=AF (.int .u64 x.2):=(Qq X 1).trans rfl;have d7:=J.cell d7 id;have Q:=(Xy.refl No m).alloc (.cells #[.int .u64 x.1,.int .u64 x.2] 204);have hB:=Qy m (.cells #[.int .u64 x.1,.int .u64 x.2] 204);have M:w.heap.size<=(m.alloc (.cells #[.int .u64 x.1,.int .u64 x.2] 204)).heap.size:=(hF.2.2.2.then (J.then Q)).size;have K:=BX (A7 (A.no (J.then Q)) hB N M (hF.no (J.then Q)) i d);clear A hB N M hF i d hx ht J Q X hk;go_upto_region 5 with fail;rw[<- p];clear p a0 a1;go_wp2_with(at_builtin;refine Mx rfl _ _ rfl K.out.1 rfl (y:=x) K.out.2.1 rfl K.out.qc K.out.qd ?_;intro aZ aY w6 j k6;have o:=K.out.2.2.2.2.1.row K.out.1.kind (by simp) (by simp) k6;have f7:=Qg o.qc 7;have ac:w6.cell? ⟨w.heap.size+2,7,AI⟩=AF (.slice ro t.length rc):=(Qq o.qc 7).trans rfl;have D:=BX (A2 j o);clear j k6 o);go_roundw;case rel =>unfold MU;refine⟨k+1,_,by congr 1,K.out.qf,D.out.2.set7 _,?_⟩;rw[K.out.rg];exact D.out.1.keep (D.out.2.keepD 7 _) (D.out.2.notD (λb G=>(D.out.1.kind b G).2) (by simp))
   case measure=>have:=K.out.qf;simp[intOf];omega
  ·have C:k=f.runs.length:=by omega
   have aW:¬(k:Int)<(f.runs.length:Int):=by omega
   rw[C,BZ]at A;have c8:wr.cell? ⟨w.heap.size,8,AI⟩=AF (.slice P f.items.length O):=(Qq hF.1 8).trans rfl;obtain⟨rv,aD⟩:∃rv,rv=DN ro (f.runs.take k).length rc:=⟨_,rfl⟩;have A:Gq wr w.heap.size rv f.runs:=by rw[aD,C,BZ];exact A
   rw[<- aD]at hF;have K:=BX (A2 hF A);clear hF A hk i C aD;go_wp2_with fail;go_loopw [41] (λaG wx=>MG base f (.slice S f.runs.length R) (.slice P f.items.length O) w rv aG wx) (λaG _=>f.items.length-(intOf aG).toNat);case atStart=>exact⟨0,_,rfl,BW _,K.out.1,K.out.2,Us.nil _ _ _ _ _ _,λb e=>by simp[Value.ownBlock]at e⟩
   case round =>
    obtain⟨k',iv,rfl,hk,hF,A,U,F⟩:=hrel
    rename AC=>wx
    obtain⟨o3,c3,rfl,_,_⟩:=Us.form U;by_cases i:k'<f.items.length
    ·have hx:f.items[k']?=AF f.items[k']:=BY i;have d:f.items.take (k'+1)=f.items.take k'++[f.items[k']]:=BM i;generalize f.items[k']=z at hx d;obtain⟨gi,ui,aT,aE,e0,e1,e2⟩:=(T.out.2.1.no hF.2.2.2).cell hx;obtain⟨uo,uc,rfl⟩:=aE.form;subst aT;obtain⟨t,ht⟩:∃t,t=f.items.take k':=⟨_,rfl⟩;rw[<- ht]at U F d hF;have aL:(k':Int)<(f.items.length:Int):=by omega
     have d8:wx.cell? ⟨w.heap.size+2,8,AI⟩=AF (.slice o3 t.length c3):=(Qq hF.qc 8).trans rfl;obtain⟨m,p⟩:∃m,m=wx.alloc (.cells #[.int .u64 z.n,.int .i64 z.s.c,.slice uo z.s.body.length uc] 111):=⟨_,rfl⟩;have J:Xy No wx m:=by rw[p];exact(Xy.refl _ _).alloc _
     have X:m.heap[wx.heap.size]?=AF (.cells #[.int .u64 z.n,.int .i64 z.s.c,.slice uo z.s.body.length uc] 111 (0,0)):=by rw[p];exact Qy _ _
     have x0:m.cell? ⟨wx.heap.size,0,AI⟩=AF (.int .u64 z.n):=(Qq X 0).trans rfl;have x1:m.cell? ⟨wx.heap.size,1,AI⟩=AF (.int .i64 z.s.c):=(Qq X 1).trans rfl;have x2:m.cell? ⟨wx.heap.size,2,AI⟩=AF (.slice uo z.s.body.length uc):=(Qq X 2).trans rfl;have d8:=J.cell d8 id;have Q:=(Xy.refl No m).alloc (.cells #[.int .u64 z.n,.int .i64 z.s.c,.slice uo z.s.body.length uc] 206);have hB:=Qy m (.cells #[.int .u64 z.n,.int .i64 z.s.c,.slice uo z.s.body.length uc] 206);have N:t.length<=1048576:=by rw[ht,E9];have:=T.out.qd;omega
     have M:w.heap.size<=(m.alloc (.cells #[.int .u64 z.n,.int .i64 z.s.c,.slice uo z.s.body.length uc] 206)).heap.size:=(hF.2.2.2.then (J.then Q)).size;have E:=BX (A10 (Us.no U (J.then Q)) F (hF.no (J.then Q)) hB (aE.no (J.then Q)) N M i d (A.no (J.then Q)));clear U F hF hB aE N M i d hx hk J Q X ht A;go_upto_region 10 with fail;rw[<- p];clear p e0 e1 e2;go_wp2_with(at_builtin;refine Nd rfl _ _ _ rfl rfl JZ rfl (by decide) (by decide) (by decide) E.out.1 rfl E.out.qd rfl (λq A=>by simp[ZA]at A;rcases A with rfl|rfl|rfl<;>rfl) rfl rfl E.out.qe (by have:=E.out.qf;omega) (by have:=E.out.qg;have:=T.out.qe;omega) (B:=w.heap.size) T.out.qe E.out.2.1 E.out.qg ?_;intro aZ aY w6 L j k6;have aB:∀b,(DN o3 t.length c3).ownBlock=AF b->w.heap.size<=b/\∃aH,_:=λb G=>⟨E.out.2.1 b G,(Us.kind E.out.1 b G).2⟩;have o:=E.out.2.2.1.row aB (by simp) (by simp) k6;have aO:=E.out.2.2.2.2.2.2.2.2.2.keep k6 (λb G e=>by obtain⟨_,aH,h1⟩:=E.out.2.2.2.2.2.2.2.2.2.kind b G;obtain⟨ab,h2⟩:=(aB b e).2;rw[h1]at h2;simp at h2);have f8:=Qg o.qc 8;have ad:w6.cell? ⟨w.heap.size+2,8,AI⟩=AF (.slice o3 t.length c3):=(Qq o.qc 8).trans rfl;have D:=BX (A4 L j o aO);clear L j k6 o aO aB);go_roundw;case rel =>
      unfold MG;refine⟨k'+1,_,by congr 1,E.out.qh,D.out.2.2.1.set8 _,?_,?_,D.out.2.1⟩
      ·exact D.out.2.2.2.keep (D.out.2.2.1.keepD 8 _) (D.out.2.2.1.notD (λb G=>(D.out.2.2.2.kind b G).2) (by simp))
      ·rw[E.out.qi];have aS:=D.out.2.2.1.qc;exact(Us.block D.out.1 aS (by have:=T.out.qe;omega) (by decide) (by decide) (D.out.2.2.1.keepD 8 _))
     case measure=>have:=E.out.qh;simp[intOf];omega
    ·have C:k'=f.items.length:=by omega
     have aL:¬(k':Int)<(f.items.length:Int):=by omega
     rw[C,BZ]at U;obtain⟨qo,qc,aC,_,_⟩:=A.form;obtain⟨iv,V⟩:∃iv,iv=DN o3 (f.items.take k').length c3:=⟨_,rfl⟩;have U:Gs base wx iv f.items:=by rw[V,C,BZ];exact U
     have aU:∃ao cap,iv=.slice ao f.items.length cap:=⟨o3,c3,by rw[V,C,BZ]⟩;obtain⟨I,H,aA⟩:=aU;rw[<- V]at hF;rw[aC,aA]at hF;obtain⟨d0,d1,d2,d3,d4,d5,d6,d7,d8⟩:=Tn f hF.qc;have aQ:=setRow_heap wx (w.heap.size+1) _ (f.dcells (.slice qo f.runs.length qc) (.slice I f.items.length H)) _ _ hF.2.1;have kS:Xy (·=w.heap.size+1) wx (wx.setRow (w.heap.size+1) (f.dcells (.slice qo f.runs.length qc) (.slice I f.items.length H))):=Zi _ _ _;have aN:=A.keep kS (λb G e=>by
      obtain⟨_,aH,hz⟩:=A.kind b G;have e:b=w.heap.size+1:=e;rw[e,hF.2.1]at hz
      simp at hz)
     have aJ:=Us.block U hF.2.1 (by have:=T.out.qe;omega) (by decide) (by decide) kS;have kE:=hF.2.2.2.absorb kS (λb e=>by have e:b=w.heap.size+1:=e;omega);have Z:=BX (A6 aQ aN aJ kE aC aA);have aR:=hF.2.1;clear aQ aN aJ kE kS U A hF F hk i C V aC aA;unfold Vy.dcells at Z;have Y:(Tryz.prog.info? 106).map (·.size)=AF (#[DA .i64 f.kind,.int .i64 f.agent,.int .u64 f.epoch,.int .u64 f.inc,.int .u64 f.base,.int .u64 f.cum,.int .u64 f.limit,.slice qo f.runs.length qc,.slice I f.items.length H]).size:=by show _=AF 9;kernel_rfl
     have aM:(#[DA .i64 f.kind,.int .i64 f.agent,.int .u64 f.epoch,.int .u64 f.inc,.int .u64 f.base,.int .u64 f.cum,.int .u64 f.limit,.slice qo f.runs.length qc,.slice I f.items.length H]).all (·.oneCell')=true:=by simp[Value.oneCell']
     go_wp2_with(refine wpList_store_row rfl 106 _ _ rfl (w.heap.size+1) #[.int .i64 f.kind,.int .i64 f.agent,.int .u64 f.epoch,.int .u64 f.inc,.int .u64 f.base,.int .u64 f.cum,.int .u64 f.limit,.slice qo f.runs.length qc,.slice I f.items.length H] rfl rfl 106 Nv aR Y rfl aM ?_);refine bodyPost_ret (v:=.agg #[.int .i64 f.kind,.int .i64 f.agent,.int .u64 f.epoch,.int .u64 f.inc,.int .u64 f.base,.int .u64 f.cum,.int .u64 f.limit,.slice qo f.runs.length qc,.slice I f.items.length H]) (Ft rfl _ _ (w.heap.size+1) 106 _ (0,0) _ rfl Z.out.1 Tryz.underlying106 rfl Y) rfl ⟨_,_,rfl,?_,?_,Z.out.qd⟩
     ·have h:=Z.out.2.1;rw[Z.out.qe]at h;exact h
     ·have h:=Z.out.qc;rw[Z.out.rf]at h;exact h
end Go.Proofs.YtfdmbomlkpkegaaGreat
