/- Lemmas for ReceiverNil. -/
import Derived.Test.YtfdmbomlkpkegaaGreatS32
import Derived.Test.YtfdmbomlkpkegaaGreatS1
import Derived.Test.YtfdmbomlkpkegaaGreatS33
import Derived.Test.YtfdmbomlkpkegaaGreatS27
import Derived.Test.YtfdmbomlkpkegaaGreatS13
import Derived.Test.YtfdmbomlkpkegaaGreatS30
import Derived.Test.YtfdmbomlkpkegaaGreatS26
import Derived.Test.YtfdmbomlkpkegaaGreatS8
import Derived.Test.YtfdmbomlkpkegaaGreatS7
set_option maxRecDepth 100000
set_option maxHeartbeats 8000000
set_option linter.all false
namespace Go.Proofs.YtfdmbomlkpkegaaGreat
open Go Go.RowKit Go.Dr Go.Shelf
section
variable [bn:Inhabited Ban] {base:Nat} {w:World} {q p width k0:Nat} {size:Int} {ts:List LRec} {d:Qr} {L:LedS} {F:Nat->Prop}
end
section
variable [bn:Inhabited Ban] {w0 wr w':World} {P q p r width B j j':Nat} {size:Int} {ts:List LRec} {d:Qr} {L:LedS} {F:Nat->Prop} {f:Int->Nat} {sk:Nat->Nat}
end
theorem OwnN.us {w:World} {B:Nat} {v:Value} {l:List Nat} (h:OwnN w B v l):UsAt w v l:=by
 obtain ⟨ao,cap,rfl,_,_⟩:=h.form
 refine ⟨ao,cap,rfl,fun hl=>?_⟩
 have hp:=List.length_pos_iff.2 hl
 have c:=fun (k x:Nat) (hk:l[k]?=some x)=>Gy h (j:=k) (x:=u64v x) (by rw [List.getElem?_map,hk];rfl) (by simp)
 obtain ⟨g,rfl,_⟩:=c 0 l[0] (List.getElem?_eq_getElem hp)
 refine ⟨g,0,rfl,fun k x hk=>?_⟩
 obtain ⟨_,e,hc⟩:=c k x hk
 cases e
 rw [Nat.zero_add]
 exact hc
section
variable [bn:Inhabited Ban] {w0 wr w':World} {P1 q1 p1 r1 P2 q2 p2 r2 width:Nat} {size:Int} {ts1 ts2:List LRec} {d1 d2:Qr} {L1 L2 M:LedS} {F1 F2:Nat->Prop} {n1 n2 u1 u2 N:Nat}
end
section
variable [bn:Inhabited Ban] {base:Nat} {w:World} {q p width k0:Nat} {size:Int} {ts:List LRec} {d:Qr} {L:LedS} {F:Nat->Prop}
end
theorem wpList_append_nums {w:World} {ops:Array Oper} {rest:List Oper} {o:Oper} {a:Act} {Q:Exit->Act->World->Prop} (hg:o.guard=none) (s x:Operand)
  (ho:o.op=.call { callee:=.builtin .append,args:=#[s,x],argTypes:=#[52,52] }) {B:Nat} {v u:Value} {B2:Nat} {l m:List Nat} (hown:OwnN w B v l) (hsrc:OwnN w B2 u m) (hs:a.eval s=v) (hx:a.eval x=u)
  (hlen:l.length+m.length<=1099511627776) (hb:B<=w.heap.size)
  (hK:∀ v' w',OwnN w' B v' (l++m)->Keep (fun b=>v.ownBlock=some b) w w'->wpList Tryz.prog ops Q rest (a.put o.dst v') w'):wpList Tryz.prog ops Q (o :: rest) a w:=by
 refine wpList_plain hg fun K hK'=>?_
 obtain ⟨i0,hi,hz0,hz1,hz2⟩:=info_parts info_u64n
 have hkeep:∀ w',w.grownBy w' v.ownBlock->Keep (fun b=>v.ownBlock=some b) w w':=fun w' hg=>Jr hg
 have hus:=hsrc.us
 obtain ⟨hcs,hsrc2⟩:=hsrc
 rcases hsrc2 with ⟨hu,hn⟩ | ⟨g,cap,cur,hu,_⟩
 ·have hm:m=[]:=List.eq_nil_of_length_eq_zero hn
  subst hm
  subst hu
  have hrun:=run_append_owned_none (P:=Tryz.prog) w B 52 o.type 27 i0 1 Tryz.underlying52 hi v l.length (l.map u64v) hown
  unfold Oper.wp
  simp [execOp,ho,resolve,invoke,builtin,hs,hx,hrun,Result.andThen]
  exact hK' _ _ (hK v w (by simpa using hown) (Keep.refl _ _))
 ·subst hu
  obtain ⟨v',w',hrun,h1,h2,_⟩:=run_append_own (P:=Tryz.prog) w B 52 o.type 27 i0 (.int .u64 0) 1 8 Tryz.underlying52 hi hz0 hz1 hz2 rfl (by decide) v l.length (l.map u64v) hown
   ⟨g,0,none⟩ m.length cap (m.map u64v) (by simp) (fun j y hj=>by
    rw [List.getElem?_map] at hj
    cases hmj:m[j]? with
    | none=>simp [hmj] at hj
    | some z =>
     simp [hmj] at hj
     subst hj
     obtain ⟨_,_,he,hc⟩:=hus
     obtain ⟨g1,o1,e1,hc⟩:=hc (fun e=>by rw [e] at hmj;simp at hmj)
     cases he
     cases e1
     have hadd:(⟨g,0,none⟩:Addr).add j=⟨g,0+j,none⟩:=by unfold Addr.add;split <;> simp_all
     rw [hadd]
     exact hc j z hmj) (fun y hy=>by obtain ⟨z,_,rfl⟩:=List.mem_map.1 hy;rfl) (by unfold maxLen;omega) (by omega) hb
  unfold Oper.wp
  simp [execOp,ho,resolve,invoke,builtin,hs,hx,hrun,Result.andThen]
  exact hK' _ _ (hK v' w' (by unfold OwnN;rw [List.length_append,List.map_append];exact h1) (hkeep _ h2))
theorem OwnN.lower {w:World} {B:Nat} {v:Value} {l:List Nat} (h:OwnN w B v l):OwnN w 0 v l:=by
 obtain ⟨h1,h2⟩:=h
 refine ⟨h1,?_⟩
 rcases h2 with h2 | ⟨g,cap,cur,e1,e2,e3⟩
 ·exact .inl h2
 ·exact .inr ⟨g,cap,cur,e1,Nat.zero_le _,e3⟩
theorem OwnN.from' {w:World} {B B':Nat} {v:Value} {l:List Nat} (h:OwnN w B v l) (hb:B'<=B):OwnN w B' v l:=by
 obtain ⟨h1,h2⟩:=h
 refine ⟨h1,?_⟩
 rcases h2 with h2 | ⟨g,cap,cur,e1,e2,e3⟩
 ·exact .inl h2
 ·exact .inr ⟨g,cap,cur,e1,Nat.le_trans hb e2,e3⟩
theorem OwnN.no {w w':World} {B:Nat} {v:Value} {l:List Nat} (h:OwnN w B v l) (k:Keep No w w'):OwnN w' B v l:=h.keep k (fun _ _ e=>e)
theorem Hc {W:World} {g:Nat} {a0 a1 a2:Value} {t:TypeId} (b0 b1 b2:Value) (hB:W.heap[g]?=some (.cells #[a0,a1,a2] t (0,0))) :
  (((W.setCell ⟨g,0,none⟩ b0).setCell ⟨g,1,none⟩ b1).setCell ⟨g,2,none⟩ b2).heap[g]?=some (.cells #[b0,b1,b2] t (0,0))/\Keep (·=g) W (((W.setCell ⟨g,0,none⟩ b0).setCell ⟨g,1,none⟩ b1).setCell ⟨g,2,none⟩ b2) :=
 ⟨Qz (i:=2) (u:=b2) (Qz (i:=1) (u:=b1) (Qz (i:=0) (u:=b0) hB)),((Qd (g:=g) (i:=0) W b0).setCell (p:=⟨g,1,none⟩) (.inl rfl) b1).setCell (p:=⟨g,2,none⟩) (.inl rfl) b2⟩
theorem dHad_spec {w:World} {v:Value} {l:List Nat} (low width n:Nat) (h:OwnN w 0 v l) (hl:l.length<=1048576) :
  Calls Tryz.prog 173 #[.agg #[.int .u64 low,.int .u64 width,v],.int .u64 n] w fun e w'=>e=.returned (.bool (decide (n∈l) || decide (n<=low)))/\Keep No w w':=by
 obtain ⟨ao,cap,rfl,_,_⟩:=h.form
 have hus:=h.nums
 have hli:(l.length:Int)<=1048576:=by omega
 obtain ⟨W,hW⟩:∃ W,W=w.alloc (.cells #[.int .u64 low,.int .u64 width,.slice ao l.length cap] 164):=⟨_,rfl⟩
 have kW:Keep No w W:=by rw [hW];exact (Keep.refl _ _).alloc _
 have hA:W.heap[w.heap.size]?=some (.cells #[.int .u64 low,.int .u64 width,.slice ao l.length cap] 164 (0,0)):=by rw [hW];exact Qy _ _
 have c0:=Qq hA 0
 have c1:=Qq hA 1
 have c2:=Qq hA 2
 simp at c0 c1 c2
 obtain ⟨rb,hrb⟩:∃ rb,rb=(decide (n∈l) || decide (n<=low)):=⟨_,rfl⟩
 rw [<- hrb]
 have HH:=Lib.hid (A4 (hus.no kW) kW hA hrb)
 clear h hus hl kW hA hrb
 go_enter Tryz.func173,Tryz.ntmps173
 go_upto_region 1 with fail
 rw [<- hW]
 clear hW
 go_wp2_with fail
 go_loopw [10] (fun v10 wr=>∃ k:Nat,v10=.int .i64 (k:Nat)/\k<=l.length/\n∉l.take k/\Keep No W wr) (fun v10 _=>l.length - (intOf v10).toNat)
 case atStart=>exact ⟨0,rfl,Nat.zero_le _,by simp,Keep.refl _ _⟩
 case round =>
  obtain ⟨k,rfl,hk,hn,kr⟩:=hrel
  by_cases hlt:k<l.length
  ·have hx:l[k]?=some l[k]:=List.getElem?_eq_getElem hlt
   have htake:l.take (k+1)=l.take k++[l[k]]:=List.take_succ_eq_append_getElem hlt
   generalize l[k]=z at hx htake
   obtain ⟨ao',cap',e1,e2⟩:=HH.out.1
   simp only [Value.slice.injEq] at e1
   obtain ⟨rfl,_,rfl⟩:=e1
   obtain ⟨g,o,hgo,hc⟩:=e2 (fun e=>by subst e;simp at hx)
   subst hgo
   have cz:=kr.cell (hc k z hx) (fun e=>e)
   have hki:(k:Int)<(l.length:Int):=by omega
   by_cases hz:z=n
   ·have hzi:((z:Int)==(n:Int))=true:=by simp;omega
    obtain rfl:rb=true:=by rw [HH.out.2.2.2,decide_eq_true (show n∈l from hz ▸ List.mem_of_getElem? hx)];rfl
    have HR:=Lib.hid kr
    clear kr hk hn hlt hx htake hc e2 hz
    go_wp2_with fail
    go_ret
    exact ⟨rfl,HH.out.2.1.then HR.out⟩
   ·have hzi:((z:Int)==(n:Int))=false:=by simp;omega
    have HR:=Lib.hid (A3 kr hlt (show n∉l.take (k+1) by rw [htake];simp [hn];omega))
    clear kr hk hn hlt hx htake hc e2 hz
    go_wp2_with fail
    go_roundw
    case rel=>exact ⟨k+1,by congr 1,by have:=HR.out.2.1;omega,HR.out.2.2,HR.out.1⟩
    case measure=>have:=HR.out.2.1;simp [intOf];omega
  ·have hke:k=l.length:=by omega
   have hki:¬(k:Int)<(l.length:Int):=by omega
   rw [hke,List.take_length] at hn
   have c0:=kr.cell c0 (fun e=>e)
   have HR:=Lib.hid kr
   by_cases hz:n<=low
   ·have hzi:(n:Int)<=(low:Int):=by omega
    obtain rfl:rb=true:=by rw [HH.out.2.2.2,decide_eq_true hz];simp
    clear kr hk hn hlt hke hz
    go_wp2_with fail
    go_ret
    exact ⟨rfl,HH.out.2.1.then HR.out⟩
   ·have hzi:¬(n:Int)<=(low:Int):=by omega
    obtain rfl:rb=false:=by rw [HH.out.2.2.2,decide_eq_false hz,decide_eq_false hn];rfl
    clear kr hk hn hlt hke hz
    go_wp2_with fail
    go_ret
    exact ⟨rfl,HH.out.2.1.then HR.out⟩
def Sj (w:World) (b:Nat):Nat:=match w.cell? ⟨b,0,none⟩ with
 | some (.int .u64 z)=>z.toNat
 | _=>0
theorem filter_less {l:List Nat} {a:Nat} (h:a+1∈l):(l.filter (fun n=>decide (a+1<n))).length<(l.filter (fun n=>decide (a<n))).length:=by
 induction l with
 | nil=>simp at h
 | cons x l ih =>
  have hle:∀ l:List Nat,(l.filter (fun n=>decide (a+1<n))).length<=(l.filter (fun n=>decide (a<n))).length:=fun l=>by
   induction l with
   | nil=>simp
   | cons y l ih =>
    rw [List.filter_cons,List.filter_cons]
    by_cases h1:a+1<y
    ·rw [if_pos (by simpa using h1),if_pos (by simp;omega)];simpa using ih
    ·rw [if_neg (by simpa using h1)]
     split
     ·simp;omega
     ·exact ih
  rw [List.filter_cons,List.filter_cons]
  rcases List.mem_cons.1 h with rfl | h
  ·rw [if_neg (by simp),if_pos (by simp)]
   have:=hle l
   simp
   omega
  ·have:=ih h
   by_cases h1:a+1<x
   ·rw [if_pos (by simpa using h1),if_pos (by simp;omega)];simpa using this
   ·rw [if_neg (by simpa using h1)]
    split
    ·simp;omega
    ·exact this
theorem dClosed_spec {w:World} {v:Value} {l:List Nat} (low width:Nat) (h:OwnN w 0 v l) (hl:l.length<=1048576) (hlow:low<4611686018427387904) (hbn:∀ n∈l,n<4611686018427387904) :
  Calls Tryz.prog 172 #[.agg #[.int .u64 low,.int .u64 width,v]] w fun e w'=>∃ (low':Nat) (v':Value),e=.returned (.agg #[.int .u64 low',.int .u64 width,v'])/\OwnN w' w.heap.size v' (l.filter (fun n=>decide (low'<n))) /\
   low<=low'/\(∀ m,low<m->m<=low'->m∈l)/\low'+1∉l/\Keep No w w':=by
 obtain ⟨ao,cap,rfl,_,_⟩:=h.form
 have hli:(l.length:Int)<=1048576:=by omega
 obtain ⟨W,hW⟩:∃ W,W=(w.alloc (.cells #[.int .u64 low,.int .u64 width,.slice ao l.length cap] 164)).alloc (.cells #[.int .u64 0,.int .u64 0,.slice none 0 0] 164):=⟨_,rfl⟩
 have kW:Keep No w W:=by rw [hW];exact ((Keep.refl _ _).alloc _).alloc _
 have hA:W.heap[w.heap.size]?=some (.cells #[.int .u64 low,.int .u64 width,.slice ao l.length cap] 164 (0,0)):=by
  rw [hW]
  exact ((Keep.refl No _).alloc _).heap (Qy _ _) (fun e=>e)
 have hB:W.heap[w.heap.size+1]?=some (.cells #[.int .u64 0,.int .u64 0,.slice none 0 0] 164 (0,0)):=by
  rw [hW]
  have:=Qy (w.alloc (.cells #[.int .u64 low,.int .u64 width,.slice ao l.length cap] 164)) (.cells #[.int .u64 0,.int .u64 0,.slice none 0 0] 164)
  rw [World.size_alloc] at this
  exact this
 obtain ⟨A,hAe⟩:∃ A,A=w.heap.size:=⟨_,rfl⟩
 obtain ⟨B,hBe⟩:∃ B,B=w.heap.size+1:=⟨_,rfl⟩
 have hBA:¬B=A:=by omega
 rw [<- hBe] at hB
 rw [<- hAe] at hA
 have hAb:∀ b,(Value.slice ao l.length cap).ownBlock=some b->¬b=A:=fun b hb e=>by
  obtain ⟨_,cur,hz⟩:=h.kind b hb
  have:=Qt hz
  omega
 have HH:=Lib.hid (A10 (h.no kW) kW hA hB hAb hl hlow hbn hAe hBe)
 clear h hl kW hA hB hAb hlow hbn
 go_enter Tryz.func172,Tryz.ntmps172
 go_upto_block 0 with fail
 rw [<- hW,<- hBe]
 have hAB:w.heap.size+1=B:=hBe.symm
 rw [<- hAe]
 clear hW hBe hAe hAB
 go_wp2_with fail
 go_loopw [10] (fun _ wr=>∃ a:Nat,low<=a/\a<4611686018427387904/\(∀ m,low<m->m<=a->m∈l)/\wr.heap[A]?=some (.cells #[.int .u64 a,.int .u64 width,.slice ao l.length cap] 164 (0,0))/\Keep (·=A) W wr) (fun _ wr=>(l.filter (fun n=>decide (Sj wr A<n))).length)
 case atStart=>exact ⟨low,Nat.le_refl _,HH.out.2.2.2.2.2.2.1,fun m h1 h2=>by omega,HH.out.2.2.1,Keep.refl _ _⟩
 case round =>
  obtain ⟨a,ha1,ha2,hall,hz,kr⟩:=hrel
  have hown:=HH.out.1.keep kr HH.out.2.2.2.2.1
  have hw1:IntKind.u64.wrap ((a:Int)+1)=((a+1:Nat):Int):=by rw [IntKind.wrap_u64];omega
  have d0:=Qq hz 0
  have d1:=Qq hz 1
  have d2:=Qq hz 2
  have fz:=Qg hz
  simp at d0 d1 d2
  have hhad:=dHad_spec a width (a+1) hown HH.out.2.2.2.2.2.1
  have hns:(decide (a+1∈l) || decide (a+1<=a))=decide (a+1∈l):=by rw [decide_eq_false (show ¬a+1<=a by omega),Bool.or_false]
  rw [hns] at hhad
  by_cases hm:a+1∈l
  ·rw [decide_eq_true hm] at hhad
   have hlo:Sj wr A=a:=by unfold Sj;rw [d0];rfl
   have HR:=Lib.hid (A7 ha1 (HH.out.2.2.2.2.2.2.2.1 _ hm) (show ∀ m,low<m->m<=a+1->m∈l from fun m h1 h2=>by
    rcases Nat.lt_or_ge a m with h | h
    ·rw [show m=a+1 by omega];exact hm
    ·exact hall m h1 h) hz kr hlo hm)
   clear ha1 ha2 hall hz kr hown hns hlo hm
   go_wp2_with (go_at_call 173;refine hhad.mono ?_;rintro e w2 ⟨rfl,k2⟩;have hz2:=k2.heap HR.out.2.2.2.1 (fun e=>e);have g0:=Qq hz2 0;have gf:=Qg hz2;simp at g0)
   have hz3:=Qz (i:=0) (u:=.int .u64 ((a:Int)+1)) hz2
   have k3:Keep (·=A) w2 (w2.setCell ⟨A,0,none⟩ (.int .u64 ((a:Int)+1))):=Qd _ _
   go_roundw
   case rel=>exact ⟨a+1,by have:=HR.out.1;omega,HR.out.2.1,HR.out.2.2.1,by simpa using hz3,(HR.out.2.2.2.2.1.trans k2.no (fun _ _ e=>e)).trans k3 (fun _ _ e=>e)⟩
   case measure =>
    have e1:Sj (w2.setCell ⟨A,0,none⟩ (.int .u64 ((a:Int)+1))) A=a+1:=by
     unfold Sj
     have:=Qq hz3 0
     simp at this
     rw [this]
     rfl
    rw [HR.out.2.2.2.2.2.1,e1]
    exact filter_less HR.out.2.2.2.2.2.2
  ·rw [decide_eq_false hm] at hhad
   have HR:=Lib.hid (A6 ha1 hall hz kr hm hown)
   clear ha1 ha2 hall hz kr hown hns hm
   go_upto_region 3 with (go_at_call 173;refine hhad.mono ?_;rintro e w2 ⟨rfl,k2⟩)
   clear hhad d0 d1 d2 fz hw1
   have hz2:=k2.heap HR.out.2.2.1 (fun e=>e)
   have hB2:=k2.heap (HR.out.2.2.2.1.heap HH.out.2.2.2.1 hBA) (fun e=>e)
   have kw2:Keep No w w2:=(HH.out.2.1.absorb HR.out.2.2.2.1 (fun x e=>by have e:x=A:=e;have:=HH.out.2.2.2.2.2.2.2.2.1;omega)).then k2
   have hown2:=HR.out.2.2.2.2.2.no k2
   have d0:=Qq hz2 0
   have d1:=Qq hz2 1
   have d2:=Qq hz2 2
   simp at d0 d1 d2
   have HS:=Lib.hid (A4 hz2 hB2 kw2 hown2)
   clear hz2 hB2 kw2 hown2 k2
   go_wp2_with fail
   go_loopw [3,18] (fun v3 v18 wr=>∃ k:Nat,v18=.int .i64 (k:Nat)/\k<=l.length/\OwnN wr w2.heap.size v3 ((l.take k).filter (fun n=>decide (a<n)))/\Keep No w2 wr) (fun _ v18 _=>l.length - (intOf v18).toNat)
   case atStart=>exact ⟨0,rfl,Nat.zero_le _,OwnN.nil _ _,Keep.refl _ _⟩
   case round =>
    obtain ⟨k,rfl,hk,ho3,k3⟩:=hrel
    obtain ⟨o3,c3,rfl,_,_⟩:=ho3.form
    have d0:=k3.cell d0 (fun e=>e)
    have d1:=k3.cell d1 (fun e=>e)
    have d2:=k3.cell d2 (fun e=>e)
    by_cases hlt:k<l.length
    ·have hx:l[k]?=some l[k]:=List.getElem?_eq_getElem hlt
     have htake:l.take (k+1)=l.take k++[l[k]]:=List.take_succ_eq_append_getElem hlt
     generalize l[k]=z at hx htake
     obtain ⟨ao',cap',e1,e2⟩:=HS.out.2.2.2.nums
     simp only [Value.slice.injEq] at e1
     obtain ⟨rfl,_,rfl⟩:=e1
     obtain ⟨g,o,hgo,hc⟩:=e2 (fun e=>by subst e;simp at hx)
     subst hgo
     have cz:=k3.cell (hc k z hx) (fun e=>e)
     have hki:(k:Int)<(l.length:Int):=by omega
     obtain ⟨t,ht⟩:∃ t,t=(l.take k).filter (fun n=>decide (a<n)):=⟨_,rfl⟩
     rw [<- ht] at ho3 ⊢
     have htl:t.length<=1048576:=by rw [ht];have h1:=List.length_filter_le (fun n=>decide (a<n)) (l.take k);have:=HH.out.2.2.2.2.2.1;rw [List.length_take] at h1;omega
     by_cases hz:a<z
     ·have hzi:(a:Int)<(z:Int):=by omega
      have hf:(l.take (k+1)).filter (fun n=>decide (a<n))=t++[z]:=by rw [htake,List.filter_append,<- ht];simp [hz]
      have kA:=(Keep.refl No wr).alloc (.cells #[.int .u64 z] 27)
      have hZ:=Qy wr (.cells #[.int .u64 z] 27)
      have hsz:w2.heap.size<=(wr.alloc (.cells #[.int .u64 z] 27)).heap.size:=Nat.le_trans k3.size kA.size
      have HR3:=Lib.hid (A8 (ho3.no kA) (k3.then kA) hlt hf htl hZ hsz hz)
      clear ho3 k3 hlt hf htl hZ hsz hx htake hc e2 hk kA ht hz
      go_wp2_with (at_builtin;refine wpList_append_num rfl _ _ rfl HR3.out.1 rfl HR3.out.2.2.2.2.2.1 rfl (by have:=HR3.out.2.2.2.2.1;omega) HR3.out.2.2.2.2.2.2.1 ?_;intro vo5 vc5 w5 hn5 k5)
      go_roundw
      case rel=>exact ⟨k+1,by congr 1,by have:=HR3.out.2.2.1;omega,by rw [HR3.out.2.2.2.1];exact hn5,HR3.out.2.1.absorb k5 (fun x hx=>(HR3.out.1.kind x hx).1)⟩
      case measure=>have:=HR3.out.2.2.1;simp [intOf];omega
     ·have hzi:¬(a:Int)<(z:Int):=by omega
      have hf:(l.take (k+1)).filter (fun n=>decide (a<n))=t:=by rw [htake,List.filter_append,<- ht];simp [hz]
      have HR3:=Lib.hid (A4 ho3 k3 hlt hf)
      clear ho3 k3 hlt hf htl hx htake hc e2 hk ht hz
      go_wp2_with fail
      go_roundw
      case rel=>exact ⟨k+1,by congr 1,by have:=HR3.out.2.2.1;omega,by rw [HR3.out.2.2.2];exact HR3.out.1,HR3.out.2.1⟩
      case measure=>have:=HR3.out.2.2.1;simp [intOf];omega
    ·have hke:k=l.length:=by omega
     have hki:¬(k:Int)<(l.length:Int):=by omega
     rw [hke,List.take_length] at ho3 ⊢
     obtain ⟨t,ht⟩:∃ t,t=l.filter (fun n=>decide (a<n)):=⟨_,rfl⟩
     rw [<- ht] at ho3 ⊢
     have hz4:=k3.heap HS.out.1 (fun e=>e)
     have hB4:=k3.heap HS.out.2.1 (fun e=>e)
     have f4:=Qg hz4
     have hz5:=Qz (i:=2) (u:=.slice o3 t.length c3) hz4
     have k5:Keep (·=A) wr (wr.setCell ⟨A,2,none⟩ (.slice o3 t.length c3)):=Qd _ _
     have hB5:=k5.heap hB4 hBA
     have hown5:=ho3.keep k5 (fun b hb e=>by have:=(ho3.kind b hb).1;have h2:=Qt HS.out.1;have e:b=A:=e;omega)
     obtain ⟨W5,hW5⟩:∃ W5,W5=wr.setCell ⟨A,2,none⟩ (.slice o3 t.length c3):=⟨_,rfl⟩
     rw [<- hW5] at hz5 k5 hB5 hown5
     have b0:=Qq hz5 0
     have b1:=Qq hz5 1
     have b2:=Qq hz5 2
     have q0:=Qq hB5 0
     have q1:=Qq hB5 1
     have q2:=Qq hB5 2
     have fB:=Qg hB5
     simp at b0 b1 b2 q0 q1 q2
     have HF:=Lib.hid (A5 hB5 hown5 k5 k3 ht)
     clear hz4 hB4 hz5 k5 hB5 hown5 ho3 k3 hk hlt hke ht
     go_upto_region 11 with fail
     rw [<- hW5]
     clear hW5 d0 d1 d2 f4
     go_wp2_with fail
     obtain ⟨hZ,kZ⟩:=Hc (.int .u64 a) (.int .u64 width) (.slice o3 t.length c3) HF.out.1
     have z0:=Qq hZ 0
     have z1:=Qq hZ 1
     have z2:=Qq hZ 2
     simp at z0 z1 z2
     refine bodyPost_ret (v:=.agg #[.int .u64 a,.int .u64 width,.slice o3 t.length c3]) (by simp [results,Tryz.results172,go_sem,z0,z1,z2]) rfl ?_
     refine ⟨a,_,rfl,?_,HR.out.1,HR.out.2.1,HR.out.2.2.2.2.1,?_⟩
     ·rw [<- HF.out.2.2.2.2]
      exact (HF.out.2.1.keep kZ (fun b hb e=>by have:=(HF.out.2.1.kind b hb).1;have h2:=Qt HS.out.2.1;have e:b=B:=e;omega)).from' HS.out.2.2.1.size
     ·have hsA:=HH.out.2.2.2.2.2.2.2.2.1
      have hsB:=HH.out.2.2.2.2.2.2.2.2.2
      exact (((HS.out.2.2.1.then HF.out.2.2.2.1).absorb HF.out.2.2.1 (fun x e=>by have e:x=A:=e;omega)).absorb kZ (fun x e=>by have e:x=B:=e;omega))
def DocW (w:World) (v:Value) (x:WinS) (k:Nat):Prop:=∃ l,OwnN w 0 v l/\l.length<=k/\∀ n,n∈l ↔ HasR x.set n
theorem DocW.no {w w':World} {v:Value} {x:WinS} {k:Nat} (h:DocW w v x k) (kk:Keep No w w'):DocW w' v x k:=by
 obtain ⟨l,h1,h2,h3⟩:=h
 exact ⟨l,h1.no kk,h2,h3⟩
theorem DocW.block {w w':World} {v:Value} {x:WinS} {k B:Nat} {cs:Array Value} {t:TypeId} {fr:Nat × Nat} (h:DocW w v x k) (hz:w.heap[B]?=some (.cells cs t fr)) (ht:t≠27) (kk:Keep (·=B) w w'):DocW w' v x k:=by
 obtain ⟨l,h1,h2,h3⟩:=h
 exact ⟨l,h1.keep kk (fun b hb e=>by
  obtain ⟨_,cur,hc⟩:=h1.kind b hb
  have e:b=B:=e
  rw [e,hz] at hc
  simp at hc
  exact ht hc.2.1),h2,h3⟩
theorem DocW.mono {w:World} {v:Value} {x:WinS} {k k':Nat} (h:DocW w v x k) (hk:k<=k'):DocW w v x k':=by
 obtain ⟨l,h1,h2,h3⟩:=h
 exact ⟨l,h1,by omega,h3⟩
theorem DocW.form {w:World} {v:Value} {x:WinS} {k:Nat} (h:DocW w v x k):∃ ao n c,v=.slice ao n c:=by
 obtain ⟨l,h1,_⟩:=h
 obtain ⟨ao,cap,e,_⟩:=h1.form
 exact ⟨ao,_,cap,e⟩
theorem DocW.nil (w:World) (low width k:Nat):DocW w (.slice none 0 0) ⟨low,width,[]⟩ k:=⟨[],OwnN.nil _ _,Nat.zero_le _,fun n=>⟨fun h=>by simp at h,fun h=>(HasR.nil _ h).elim⟩⟩
theorem closed_doc {x:WinS} {l:List Nat} {a:Nat} (hs:RSet x.set) (hb:∀ r∈x.set,r.2<18446744073709551615) (hl:∀ n,n∈l ↔ HasR x.set n) (h1:x.low<=a) (h2:∀ m,x.low<m->m<=a->m∈l) (h3:a+1∉l) :
  x.closed.low=a/\∀ n,n∈l.filter (fun n=>decide (a<n)) ↔ HasR x.closed.set n:=by
 obtain ⟨c1,c2,c3,c4,c5⟩:=Gw hs hb
 have hlow:x.closed.low=a:=by
  rcases Nat.lt_trichotomy x.closed.low a with h | h | h
  ·exfalso
   have:=h2 (x.closed.low+1) (by omega) (by omega)
   have:=(c2 (x.closed.low+1)).2 (.inr ((hl _).1 this))
   rcases this with t | t
   ·omega
   ·have:=(c3 _ t).1;omega
  ·exact h
  ·exfalso
   have:=(c2 (a+1)).1 (.inl (by omega))
   rcases this with t | t
   ·omega
   ·exact h3 ((hl _).2 t)
 refine ⟨hlow,fun n=>?_⟩
 rw [List.mem_filter,hl,decide_eq_true_eq]
 constructor
 ·rintro ⟨t1,t2⟩
  rcases (c2 n).2 (.inr t1) with t | t
  ·omega
  ·exact t
 ·intro t
  have:=c3 n t
  exact ⟨this.2,by omega⟩
theorem WinS.Ok.closed_id {x:WinS} (h:x.Ok):x.closed=x:=by
 obtain ⟨c1,c2,c3,c4,c5⟩:=Gw h.set (fun r hr=>by have:=(h.above _ (h.set.last hr)).2;omega)
 have hlow:x.closed.low=x.low:=by
  rcases c5 with e | e
  ·exact e
  ·exfalso
   have h1:=(h.above _ e).1
   rcases (c2 (x.low+1)).1 (.inl (by omega)) with t | t
   ·omega
   ·have:=(h.above _ t).1;omega
 have hset:x.closed.set=x.set:=RSet.ext c1 h.set (fun n=>⟨fun t=>(c3 n t).2,fun t=>by
  have h1:=(h.above _ t).1
  rcases (c2 n).2 (.inr t) with u | u
  ·omega
  ·exact u⟩)
 have hw:x.closed.width=x.width:=rfl
 generalize x.closed=y at hlow hset hw
 cases x
 cases y
 simp only at hlow hset hw
 rw [hlow,hset,hw]
theorem dClosed_docF {w:World} {v:Value} {x:WinS} {k:Nat} (h:DocW w v x k) (hk:k<=1048576) (hs:RSet x.set) (hlow:x.low<4611686018427387904) (hb:∀ n,HasR x.set n->n<4611686018427387904) :
  Calls Tryz.prog 172 #[.agg #[.int .u64 x.low,.int .u64 x.width,v]] w fun e w'=>∃ v':Value,e=.returned (.agg #[.int .u64 x.closed.low,.int .u64 x.width,v'])/\DocW w' v' x.closed k/\Keep No w w'/\∀ b,v'.ownBlock=some b->w.heap.size<=b:=by
 obtain ⟨l,h1,h2,h3⟩:=h
 refine (dClosed_spec x.low x.width h1 (by omega) hlow (fun n hn=>hb n ((h3 n).1 hn))).mono ?_
 rintro e w' ⟨a,v',rfl,ho,i1,i2,i3,kk⟩
 obtain ⟨j1,j2⟩:=closed_doc hs (fun r hr=>by have:=hb _ (hs.last hr);omega) h3 i1 i2 i3
 rw [j1]
 exact ⟨v',rfl,⟨_,ho.lower,Nat.le_trans (List.length_filter_le _ _) h2,j2⟩,kk,fun b hb=>(ho.kind b hb).1⟩
theorem dClosed_doc {w:World} {v:Value} {x:WinS} {k:Nat} (h:DocW w v x k) (hk:k<=1048576) (hs:RSet x.set) (hlow:x.low<4611686018427387904) (hb:∀ n,HasR x.set n->n<4611686018427387904) :
  Calls Tryz.prog 172 #[.agg #[.int .u64 x.low,.int .u64 x.width,v]] w fun e w'=>∃ v':Value,e=.returned (.agg #[.int .u64 x.closed.low,.int .u64 x.width,v'])/\DocW w' v' x.closed k/\Keep No w w' :=
 (dClosed_docF h hk hs hlow hb).mono (fun e w' ⟨v',h1,h2,h3,_⟩=>⟨v',h1,h2,h3⟩)
theorem dTakes_spec {w:World} {v:Value} {x:WinS} {k:Nat} (h:DocW w v x k) (hk:k<=1048576) (hx:x.Ok) (n:Nat) :
  Calls Tryz.prog 122 #[.agg #[.int .u64 x.low,.int .u64 x.width,v],.int .u64 n] w fun e w'=>e=.returned (.bool (x.takes n))/\Keep No w w':=by
 obtain ⟨l,h1,h2,h3⟩:=h
 obtain ⟨ao,cap,rfl,_,_⟩:=h1.form
 have hlow:=hx.low
 have hwid:=hx.width
 obtain ⟨W,hW⟩:∃ W,W=w.alloc (.cells #[.int .u64 x.low,.int .u64 x.width,.slice ao l.length cap] 164):=⟨_,rfl⟩
 have kW:Keep No w W:=by rw [hW];exact (Keep.refl _ _).alloc _
 have hA:W.heap[w.heap.size]?=some (.cells #[.int .u64 x.low,.int .u64 x.width,.slice ao l.length cap] 164 (0,0)):=by rw [hW];exact Qy _ _
 have c0:=Qq hA 0
 have c1:=Qq hA 1
 have c2:=Qq hA 2
 simp at c0 c1 c2
 have hhad:=dHad_spec x.low x.width n (h1.no kW) (by omega)
 have hw1:IntKind.u64.wrap ((x.low:Int)+(x.width:Int))=(x.low:Int)+(x.width:Int):=by rw [IntKind.wrap_u64];omega
 have htk:=hx.takes n
 obtain ⟨hb,hbe⟩:∃ hb,hb=(decide (n∈l) || decide (n<=x.low)):=⟨_,rfl⟩
 have hhd:hb=true ↔ x.Had n:=by
  rw [hbe]
  simp only [Bool.or_eq_true,decide_eq_true_eq]
  unfold WinS.Had
  rw [h3 n]
  exact or_comm
 rw [<- hbe] at hhad
 clear hA h1 h2 h3 hx hk hlow hwid hbe
 have HH:=Lib.hid (A2 kW htk)
 clear kW htk
 by_cases hn:n<=x.low+x.width
 ·have hni:(n:Int)<=(x.low:Int)+(x.width:Int):=by omega
  by_cases hh:x.Had n
  ·have e:x.takes n=false:=by
    rw [Bool.eq_false_iff]
    exact fun hc=>(HH.out.2.1 hc).1 hh
   rw [e]
   obtain rfl:hb=true:=hhd.2 hh
   clear hh hn e hhd
   go_enter Tryz.func122,Tryz.ntmps122
   go_upto_region 1 with fail
   rw [<- hW]
   clear hW
   go_wp2_with (go_at_call 173;refine hhad.mono ?_;rintro e w2 ⟨rfl,k2⟩)
   go_ret
   exact ⟨rfl,HH.out.1.then k2⟩
  ·have e:x.takes n=true:=HH.out.2.2 ⟨hh,hn⟩
   rw [e]
   obtain rfl:hb=false:=by rw [Bool.eq_false_iff];exact fun hc=>hh (hhd.1 hc)
   clear hh hn e hhd
   go_enter Tryz.func122,Tryz.ntmps122
   go_upto_region 1 with fail
   rw [<- hW]
   clear hW
   go_wp2_with (go_at_call 173;refine hhad.mono ?_;rintro e w2 ⟨rfl,k2⟩)
   go_ret
   exact ⟨rfl,HH.out.1.then k2⟩
 ·have hni:¬(n:Int)<=(x.low:Int)+(x.width:Int):=by omega
  have e:x.takes n=false:=by
   rw [Bool.eq_false_iff]
   exact fun hc=>hn (HH.out.2.1 hc).2
  rw [e]
  clear hn e hhad hhd
  go_enter Tryz.func122,Tryz.ntmps122
  go_upto_region 1 with fail
  rw [<- hW]
  clear hW
  go_wp2_with fail
  go_ret
  exact ⟨rfl,HH.out.1⟩
theorem dSkip_spec {w:World} {v:Value} {x:WinS} {k:Nat} (h:DocW w v x k) (hk:k<=1048576) (hx:x.Ok) (b:Nat) (hb:b<=4611686018427387904) :
  Calls Tryz.prog 121 #[.agg #[.int .u64 x.low,.int .u64 x.width,v],.int .u64 b] w fun e w'=>∃ v':Value,e=.returned (.agg #[.int .u64 (x.skip b).low,.int .u64 x.width,v'])/\DocW w' v' (x.skip b) k/\Keep No w w':=by
 obtain ⟨ao,n,cap,rfl⟩:=h.form
 have hlow:=hx.low
 obtain ⟨z,hz⟩:∃ z:WinS,z=if b<=x.low+1 then x else ⟨b - 1,x.width,x.set⟩:=⟨_,rfl⟩
 have hzc:z.closed=x.skip b:=by
  rw [hz]
  unfold WinS.skip
  split
  ·exact hx.closed_id
  ·rfl
 have hzs:z.set=x.set:=by rw [hz];split <;> rfl
 have hzw:z.width=x.width:=by rw [hz];split <;> rfl
 have hzl:z.low=if b<=x.low+1 then x.low else b - 1:=by rw [hz];split <;> rfl
 have hzm:z.low<4611686018427387904:=by rw [hzl];split <;> omega
 have hzd:DocW w (.slice ao n cap) z k:=by
  obtain ⟨l,e1,e2,e3⟩:=h
  exact ⟨l,e1,e2,by rw [hzs];exact e3⟩
 obtain ⟨W,hW⟩:∃ W,W=(w.alloc (.cells #[.int .u64 z.low,.int .u64 x.width,.slice ao n cap] 164)).alloc (.cells #[.int .u64 0,.int .u64 0,.slice none 0 0] 164):=⟨_,rfl⟩
 have kW:Keep No w W:=by rw [hW];exact ((Keep.refl _ _).alloc _).alloc _
 have hA:W.heap[w.heap.size]?=some (.cells #[.int .u64 z.low,.int .u64 x.width,.slice ao n cap] 164 (0,0)):=by
  rw [hW]
  exact ((Keep.refl No _).alloc _).heap (Qy _ _) (fun e=>e)
 have hB:W.heap[w.heap.size+1]?=some (.cells #[.int .u64 0,.int .u64 0,.slice none 0 0] 164 (0,0)):=by
  rw [hW]
  have:=Qy (w.alloc (.cells #[.int .u64 z.low,.int .u64 x.width,.slice ao n cap] 164)) (.cells #[.int .u64 0,.int .u64 0,.slice none 0 0] 164)
  rw [World.size_alloc] at this
  exact this
 have hcl:=dClosed_doc (hzd.no kW) hk (by rw [hzs];exact hx.set) hzm (fun m hm=>by rw [hzs] at hm;exact (hx.above _ hm).2.2)
 rw [hzc,hzw] at hcl
 have HH:=Lib.hid (A2 kW hB)
 obtain ⟨y,hy⟩:∃ y,y=x.skip b:=⟨_,rfl⟩
 rw [<- hy] at hcl ⊢
 generalize z.low=zl at hzl hW hcl
 clear hA hB kW h hzd hzs hzw hzc hzm hy hz
 by_cases hc:b<=x.low+1
 ·rw [if_pos hc] at hzl
  subst hzl
  by_cases h0:0<b
  ·have q1:(0:Int)<(b:Int):=by omega
   have q2:IntKind.u64.wrap ((b:Int) - 1)=((b - 1:Nat):Int):=by rw [IntKind.wrap_u64];omega
   have q3:¬(x.low:Int)<((b - 1:Nat):Int):=by omega
   clear hc h0 hb hx hlow
   go_enter Tryz.func121,Tryz.ntmps121
   go_wp2_with fail
   rw [<- hW]
   clear hW
   refine hcl.mono ?_
   rintro e w4 ⟨v4,rfl,hd4,k4⟩
   clear hcl
   obtain ⟨o4,n4,p4,rfl⟩:=hd4.form
   have hB4:=k4.heap HH.out.2 (fun e=>e)
   have q0:=Qq hB4 0
   have q1:=Qq hB4 1
   have q2:=Qq hB4 2
   have fB:=Qg hB4
   simp at q0 q1 q2
   have H3:=Lib.hid (A3 k4 hB4 hd4)
   clear hB4 k4 hd4
   go_wp2_with fail
   obtain ⟨hZ,kZ⟩:=Hc (.int .u64 y.low) (.int .u64 x.width) (.slice o4 n4 p4) H3.out.2.1
   have z0:=Qq hZ 0
   have z1:=Qq hZ 1
   have z2:=Qq hZ 2
   simp at z0 z1 z2
   refine bodyPost_ret (v:=.agg #[.int .u64 y.low,.int .u64 x.width,.slice o4 n4 p4]) (by simp [results,Tryz.results121,go_sem,z0,z1,z2]) rfl ?_
   exact ⟨_,rfl,H3.out.2.2.block H3.out.2.1 (by decide) kZ,(HH.out.1.then H3.out.1).absorb kZ (fun c e=>by have e:c=w.heap.size+1:=e;omega)⟩
  ·have q1:¬(0:Int)<(b:Int):=by omega
   clear hc h0 hb hx hlow
   go_enter Tryz.func121,Tryz.ntmps121
   go_wp2_with fail
   rw [<- hW]
   clear hW
   refine hcl.mono ?_
   rintro e w4 ⟨v4,rfl,hd4,k4⟩
   clear hcl
   obtain ⟨o4,n4,p4,rfl⟩:=hd4.form
   have hB4:=k4.heap HH.out.2 (fun e=>e)
   have q0:=Qq hB4 0
   have q1:=Qq hB4 1
   have q2:=Qq hB4 2
   have fB:=Qg hB4
   simp at q0 q1 q2
   have H3:=Lib.hid (A3 k4 hB4 hd4)
   clear hB4 k4 hd4
   go_wp2_with fail
   obtain ⟨hZ,kZ⟩:=Hc (.int .u64 y.low) (.int .u64 x.width) (.slice o4 n4 p4) H3.out.2.1
   have z0:=Qq hZ 0
   have z1:=Qq hZ 1
   have z2:=Qq hZ 2
   simp at z0 z1 z2
   refine bodyPost_ret (v:=.agg #[.int .u64 y.low,.int .u64 x.width,.slice o4 n4 p4]) (by simp [results,Tryz.results121,go_sem,z0,z1,z2]) rfl ?_
   exact ⟨_,rfl,H3.out.2.2.block H3.out.2.1 (by decide) kZ,(HH.out.1.then H3.out.1).absorb kZ (fun c e=>by have e:c=w.heap.size+1:=e;omega)⟩
 ·rw [if_neg hc] at hzl
  have q1:(0:Int)<(b:Int):=by omega
  have q2:IntKind.u64.wrap ((b:Int) - 1)=(zl:Int):=by rw [IntKind.wrap_u64];omega
  have q3:(x.low:Int)<(zl:Int):=by omega
  clear hc hzl hb hx hlow
  go_enter Tryz.func121,Tryz.ntmps121
  go_wp2_with fail
  rw [<- hW]
  clear hW
  refine hcl.mono ?_
  rintro e w4 ⟨v4,rfl,hd4,k4⟩
  clear hcl
  obtain ⟨o4,n4,p4,rfl⟩:=hd4.form
  have hB4:=k4.heap HH.out.2 (fun e=>e)
  have q0:=Qq hB4 0
  have q1:=Qq hB4 1
  have q2:=Qq hB4 2
  have fB:=Qg hB4
  simp at q0 q1 q2
  have H3:=Lib.hid (A3 k4 hB4 hd4)
  clear hB4 k4 hd4
  go_wp2_with fail
  obtain ⟨hZ,kZ⟩:=Hc (.int .u64 y.low) (.int .u64 x.width) (.slice o4 n4 p4) H3.out.2.1
  have z0:=Qq hZ 0
  have z1:=Qq hZ 1
  have z2:=Qq hZ 2
  simp at z0 z1 z2
  refine bodyPost_ret (v:=.agg #[.int .u64 y.low,.int .u64 x.width,.slice o4 n4 p4]) (by simp [results,Tryz.results121,go_sem,z0,z1,z2]) rfl ?_
  exact ⟨_,rfl,H3.out.2.2.block H3.out.2.1 (by decide) kZ,(HH.out.1.then H3.out.1).absorb kZ (fun c e=>by have e:c=w.heap.size+1:=e;omega)⟩
theorem tkn {x:WinS} (h:x.Ok) {n:Nat} (ht:x.takes n=true) (hn:n<4611686018427387904):RSet (Yq x.set n n)/\(∀ k,HasR (Yq x.set n n) k ↔ HasR x.set k\/k=n)/\(∀ k,HasR (Yq x.set n n) k->k<4611686018427387904)/\(⟨x.low,x.width,Yq x.set n n⟩:WinS).closed=x.put n:=by
 obtain ⟨t1,t2⟩:=(h.takes n).1 ht
 have hw:=h.width
 have hl:=h.low
 obtain ⟨s1,s2⟩:=spanR_ok (f:=n) (t:=n) h.set (by omega)
 refine ⟨s1,fun k=>?_,fun k hk=>?_,?_⟩
 ·rw [s2]
  constructor
  ·rintro (a | a)
   ·exact .inl a
   ·exact .inr (by omega)
  ·rintro (a | a)
   ·exact .inl a
   ·exact .inr (by omega)
 ·rcases (s2 k).1 hk with a | a
  ·have:=h.above k a;omega
  ·omega
 ·unfold WinS.put
  rw [if_pos ht]
theorem dPut_fresh {w:World} {v:Value} {x:WinS} {k:Nat} (h:DocW w v x k) (hk:k<=1048570) (hx:x.Ok) (n:Nat) (hn:n<4611686018427387904) (ht:x.takes n=true) :
  Calls Tryz.prog 123 #[.agg #[.int .u64 x.low,.int .u64 x.width,v],.int .u64 n] w fun e w'=>∃ v':Value,e=.returned (.agg #[.int .u64 (x.put n).low,.int .u64 x.width,v'])/\DocW w' v' (x.put n) (k+1)/\Keep No w w'/\∀ b,v'.ownBlock=some b->w.heap.size<=b:=by
 obtain ⟨l,h1,h2,h3⟩:=h
 obtain ⟨ao,cap,rfl,_,_⟩:=h1.form
 have hlow:=hx.low
 obtain ⟨W,hW⟩:∃ W,W=(w.alloc (.cells #[.int .u64 x.low,.int .u64 x.width,.slice ao l.length cap] 164)).alloc (.cells #[.int .u64 0,.int .u64 0,.slice none 0 0] 164):=⟨_,rfl⟩
 have kW:Keep No w W:=by rw [hW];exact ((Keep.refl _ _).alloc _).alloc _
 have hA:W.heap[w.heap.size]?=some (.cells #[.int .u64 x.low,.int .u64 x.width,.slice ao l.length cap] 164 (0,0)):=by
  rw [hW]
  exact ((Keep.refl No _).alloc _).heap (Qy _ _) (fun e=>e)
 have hB:W.heap[w.heap.size+1]?=some (.cells #[.int .u64 0,.int .u64 0,.slice none 0 0] 164 (0,0)):=by
  rw [hW]
  have:=Qy (w.alloc (.cells #[.int .u64 x.low,.int .u64 x.width,.slice ao l.length cap] 164)) (.cells #[.int .u64 0,.int .u64 0,.slice none 0 0] 164)
  rw [World.size_alloc] at this
  exact this
 obtain ⟨p1,p2,p3,p4⟩:=tkn hx ht hn
 have htk:=dTakes_spec (w:=W) ⟨l,h1.no kW,h2,h3⟩ (by omega) hx n
 rw [ht] at htk
 have c0:=Qq hA 0
 have c1:=Qq hA 1
 have c2:=Qq hA 2
 simp at c0 c1 c2
 have HH:=Lib.hid (A11 kW hB hA h1 h2 h3 p1 p2 p3 hlow hk)
 clear hA hB kW h1 h2 h3 p1 p2 p3 hlow hx ht hn
 obtain ⟨y,hy⟩:∃ y,y=x.put n:=⟨_,rfl⟩
 rw [<- hy] at p4 ⊢
 have HY:=Lib.hid p4
 clear hy p4
 go_enter Tryz.func123,Tryz.ntmps123
 go_upto_region 1 with fail
 rw [<- hW]
 clear hW
 go_upto_region 3 with (go_at_call 122;refine htk.mono ?_;rintro e w2 ⟨rfl,k2⟩)
 clear htk
 have hA2:=k2.heap HH.out.2.2.1 (fun e=>e)
 have hB2:=k2.heap HH.out.2.1 (fun e=>e)
 have ho2:=(HH.out.2.2.2.1.no HH.out.1).no k2
 have kw2:=HH.out.1.then k2
 have c0:=Qq hA2 0
 have c1:=Qq hA2 1
 have c2:=Qq hA2 2
 simp at c0 c1 c2
 have kA:Keep No w2 (w2.alloc (.cells #[] 27)):=(Keep.refl _ _).alloc _
 have hE:OwnN (w2.alloc (.cells #[] 27)) w2.heap.size (.slice (some ⟨w2.heap.size,0,none⟩) 0 0) []:=⟨rfl,.inr ⟨w2.heap.size,0,#[],rfl,Nat.le_refl _,Qy _ _,Nat.le_refl _,by decide,rfl,rfl⟩⟩
 have c0A:=fun o=>((Keep.refl No w2).alloc o).cell c0 (fun e=>e)
 have c1A:=fun o=>((Keep.refl No w2).alloc o).cell c1 (fun e=>e)
 have c2A:=fun o=>((Keep.refl No w2).alloc o).cell c2 (fun e=>e)
 have hA2l:=Qt hA2
 have hB2l:=Qt hB2
 have H2:=Lib.hid (A8 hE (ho2.no kA) kA.size (kA.heap hA2 (fun e=>e)) (kA.heap hB2 (fun e=>e)) kw2 hA2l hB2l)
 clear hE hA2 hB2 ho2 kw2 k2 kA c0 c1 c2 hA2l hB2l
 go_upto_region 4 with (first
  | (at_builtin;refine wpList_append_num rfl _ _ rfl (ho4.no ((Keep.refl No w4).alloc _)) rfl (Qy w4 (.cells #[.int .u64 n] 27)) rfl (by have:=HH.out.2.2.2.2.1;omega) hs4 ?_;intro vo5 vc5 w5 ho5 k5;have hA5:=k5.heap (((Keep.refl No w4).alloc (.cells #[.int .u64 n] 27)).heap hA4 (fun e=>e)) (fun e=>by have h1:=(ho4.kind _ e).1;have h2:=H2.out.2.2.2.2.2.2.1;omega);have g2:=Qq hA5 2;have g0:=Qq hA5 0;have g1:=Qq hA5 1;have gf:=Qg hA5;simp at g0 g1 g2)
  | (at_builtin;refine wpList_append_nums rfl _ _ rfl H2.out.1 H2.out.2.1 rfl rfl (by have:=HH.out.2.2.2.2.1;simp;omega) H2.out.2.2.1 ?_;intro v4 w4 ho4 k4;rw [List.nil_append] at ho4;obtain ⟨o4,c4,rfl,_,_⟩:=ho4.form;have hs4:w2.heap.size<=(w4.alloc (.cells #[.int .u64 n] 27)).heap.size:=Nat.le_trans H2.out.2.2.1 (Nat.le_trans k4.size ((Keep.refl No w4).alloc _).size));have hA4:=k4.heap H2.out.2.2.2.1 (fun e=>by have e:w2.heap.size=w.heap.size:=(by simpa [Value.ownBlock] using e);have h2:=H2.out.2.2.2.2.2.2.1;omega))
 have hB4:=k4.heap H2.out.2.2.2.2.1 (fun e=>by
  have e:w2.heap.size=w.heap.size+1:=by simpa [Value.ownBlock] using e
  have h2:=H2.out.2.2.2.2.2.2.2
  omega)
 have hB5:=k5.heap (((Keep.refl No w4).alloc (.cells #[.int .u64 n] 27)).heap hB4 (fun e=>e)) (fun e=>by have h1:=(ho4.kind _ e).1;have h2:=H2.out.2.2.2.2.2.2.2;omega)
 have k45:Keep No w2 w5:=by
  have h1:Keep No w2 w4:=((Keep.refl No w2).alloc (.cells #[] 27)).absorb k4 (fun b e=>by
   have e:w2.heap.size=b:=by simpa [Value.ownBlock] using e
   omega)
  exact (h1.alloc (.cells #[.int .u64 n] 27)).absorb k5 (fun b e=>(ho4.kind b e).1)
 have hAz:w.heap.size<w2.heap.size:=H2.out.2.2.2.2.2.2.1
 have kw5:Keep No w w5:=H2.out.2.2.2.2.2.1.then k45
 have hA6:=Qz (i:=2) (u:=.slice vo5 (l.length+1) vc5) hA5
 have k6:Keep (·=w.heap.size) w5 (w5.setCell ⟨w.heap.size,2,none⟩ (.slice vo5 (l.length+1) vc5)):=Qd _ _
 have hB6:=k6.heap hB5 (fun e=>by have e:w.heap.size+1=w.heap.size:=e;omega)
 have ho6:=ho5.lower.keep k6 (fun b hb e=>by
  obtain ⟨_,cur,hz⟩:=ho5.kind b hb
  have e:b=w.heap.size:=e
  rw [e,hA5] at hz
  simp at hz)
 have kw6:=kw5.absorb k6 (fun b e=>by have e:b=w.heap.size:=e;omega)
 have hd6:DocW (w5.setCell ⟨w.heap.size,2,none⟩ (.slice vo5 (l.length+1) vc5)) (.slice vo5 (l.length+1) vc5) ⟨x.low,x.width,Yq x.set n n⟩ (k+1):=by
  refine ⟨l++[n],ho6,by have:=HH.out.2.2.2.2.1;simp;omega,fun m=>?_⟩
  rw [HH.out.2.2.2.2.2.2.2.1,<- HH.out.2.2.2.2.2.1]
  simp
 have hcl:=dClosed_docF hd6 (by omega) HH.out.2.2.2.2.2.2.1 HH.out.2.2.2.2.2.2.2.2.2.1 HH.out.2.2.2.2.2.2.2.2.1
 rw [HY.out] at hcl
 obtain ⟨W6,hW6⟩:∃ W6,W6=w5.setCell ⟨w.heap.size,2,none⟩ (.slice vo5 (l.length+1) vc5):=⟨_,rfl⟩
 rw [<- hW6] at hcl hA6 hB6 kw6
 have z0:=Qq hA6 0
 have z1:=Qq hA6 1
 have z2:=Qq hA6 2
 simp at z0 z1 z2
 have H6:=Lib.hid (A2 hB6 kw6)
 clear hA6 hB6 kw6 k6 ho6 hd6 kw5 k45 hB5 hB4 hAz g0 g1 g2 gf c0A c1A c2A hA5 hA4 ho4 k4 ho5 k5 hs4
 rw [<- hW6]
 clear hW6
 go_wp2_with fail
 refine hcl.mono ?_
 rintro e w7 ⟨v7,rfl,hd7,k7,hf7⟩
 clear hcl z0 z1 z2
 obtain ⟨o7,n7,p7,rfl⟩:=hd7.form
 have hB7:=k7.heap H6.out.1 (fun e=>e)
 have q0:=Qq hB7 0
 have q1:=Qq hB7 1
 have q2:=Qq hB7 2
 have fB:=Qg hB7
 simp at q0 q1 q2
 have H7:=Lib.hid (A4 (H6.out.2.then k7) hB7 hd7 (fun b hb=>Nat.le_trans H6.out.2.size (hf7 b hb)))
 clear hB7 k7 hd7 hf7
 go_wp2_with fail
 obtain ⟨hZ,kZ⟩:=Hc (.int .u64 y.low) (.int .u64 x.width) (.slice o7 n7 p7) H7.out.2.1
 have z0:=Qq hZ 0
 have z1:=Qq hZ 1
 have z2:=Qq hZ 2
 simp at z0 z1 z2
 refine bodyPost_ret (v:=.agg #[.int .u64 y.low,.int .u64 x.width,.slice o7 n7 p7]) (by simp [results,Tryz.results123,go_sem,z0,z1,z2]) rfl ?_
 exact ⟨_,rfl,H7.out.2.2.1.block H7.out.2.1 (by decide) kZ,H7.out.1.absorb kZ (fun c e=>by have e:c=w.heap.size+1:=e;omega),H7.out.2.2.2⟩
theorem dPut_spec {w:World} {v:Value} {x:WinS} {k:Nat} (h:DocW w v x k) (hk:k<=1048570) (hx:x.Ok) (n:Nat) (hn:n<4611686018427387904) (ht:x.takes n=true) :
  Calls Tryz.prog 123 #[.agg #[.int .u64 x.low,.int .u64 x.width,v],.int .u64 n] w fun e w'=>∃ v':Value,e=.returned (.agg #[.int .u64 (x.put n).low,.int .u64 x.width,v'])/\DocW w' v' (x.put n) (k+1)/\Keep No w w' :=
 (dPut_fresh h hk hx n hn ht).mono (fun e w' ⟨v',h1,h2,h3,_⟩=>⟨v',h1,h2,h3⟩)
end Go.Proofs.YtfdmbomlkpkegaaGreat
