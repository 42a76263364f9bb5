/- Lemmas for ReceiverNil. -/
import Derived.Test.YtfdmbomlkpkegaaGreatS5
import Derived.Laws.BitsAllLaws
set_option maxRecDepth 100000
set_option maxHeartbeats 8000000
set_option linter.all false
namespace Go.Proofs.YtfdmbomlkpkegaaGreat
open Go Go.RowKit
def numP:Nat->Nat->List UInt8->Except Int (Nat × List UInt8)
 | _,_,[]=>.error 2
 | i,acc,b :: r =>
  if i=9/\1<b.toNat then .error 7 else if b.toNat=0/\0<i then .error 2
  else if b.toNat<128 then .ok (acc+b.toNat*128 ^ i,r) else numP (i+1) (acc+b.toNat % 128*128 ^ i) r
def InS.numR (s:InS):Except Int (Nat × List UInt8)->Nat × InS
 | .ok (n,r)=>(n,{ s with l:=r })
 | .error c=>(0,s.fail c)
def InS.num (s:InS):Nat × InS:=if s.e=0 then s.numR (numP 0 0 s.l) else (0,s)
theorem andNot128 (b:UInt8):bits .andNot .u8 (b.toNat:Int) 128=((b.toNat % 128:Nat):Int):=by
 have h:∀ k:Fin 256,bits .andNot .u8 (k.val:Int) 128=((k.val % 128:Nat):Int):=by decide +kernel
 exact h ⟨b.toNat,b.toNat_lt⟩
theorem num_step {k acc c:Nat} (hk:k<=9) (hacc:acc<128 ^ k) (h9:k=9->c<=1) :
  bits .or .u64 (acc:Int) (IntKind.u64.wrap ((c:Int) % 128*2 ^ (7*k)))=((acc+c % 128*128 ^ k:Nat):Int)/\acc+c % 128*128 ^ k<128 ^ (k+1):=by
 have e1:(128:Nat) ^ k=2 ^ (7*k):=by rw [Nat.pow_mul]
 have hm:c % 128<128:=Nat.mod_lt _ (by decide)
 have hX:c % 128*2 ^ (7*k)<18446744073709551616:=by
  by_cases h:k=9
  ·have:=h9 h
   subst h
   have h2:c % 128<=1:=by omega
   have:=Nat.mul_le_mul_right (2 ^ (7*9)) h2
   exact Nat.lt_of_le_of_lt this (by decide)
  ·have h2:(2:Nat) ^ (7*k)<=2 ^ 56:=Nat.pow_le_pow_right (by decide) (by omega)
   have:=Nat.mul_le_mul (Nat.le_of_lt hm) h2
   exact Nat.lt_of_le_of_lt this (by decide)
 have hA:acc<18446744073709551616:=by
  have h2:(128:Nat) ^ k<=128 ^ 9:=Nat.pow_le_pow_right (by decide) hk
  have h3:(128:Nat) ^ 9<18446744073709551616:=by decide
  omega
 have e2:(c:Int) % 128*2 ^ (7*k)=((c % 128*2 ^ (7*k):Nat):Int):=by push_cast;rfl
 constructor
 ·rw [e2,wraps_u64 _ (by omega) (by omega),u64_or_nat acc _ hA hX]
  congr 1
  rw [Nat.or_comm,<- Nat.shiftLeft_eq,<- Nat.shiftLeft_add_eq_or_of_lt (by rw [<- e1];exact hacc),Nat.shiftLeft_eq,<- e1]
  exact Nat.add_comm _ _
 ·rw [Nat.pow_succ]
  have h2:c % 128*128 ^ k<=127*128 ^ k:=Nat.mul_le_mul_right _ (by omega)
  generalize (128:Nat) ^ k=z at *
  omega
theorem Gm [bn:Inhabited Ban] {base g:Nat} {w:World} {s:InS} (h:InAt base w g s) (hlen:s.l.length<=1099511627776):Calls Tryz.prog 161 #[.pointer (some ⟨g,0,none⟩)] w fun e w'=>e=.returned (.int .u64 s.num.1)/\InAt base w' g s.num.2/\Keep (·=g) w w':=by
 have he:=Vl h
 by_cases h0:s.e=0
 ·obtain ⟨h1,v,h2,h3⟩:=id h
  obtain ⟨ao,cap,rfl⟩:=h3.form
  obtain ⟨hcl,hcm⟩:s.l.length<=cap/\cap<=maxLen:=by obtain ⟨_,_,hq,q1,q2,_⟩:=h3;simp at hq;omega
  have c0:=Qq h2 0
  have f0:=Qg h2
  simp at c0
  have hli:(s.l.length:Int)<=1099511627776:=by omega
  have hfail:=fun c=>Kb h c
  rw [h0] at he
  obtain ⟨N,hN⟩:∃ N,N=numP 0 0 s.l:=⟨_,rfl⟩
  have hnum:s.num=s.numR N:=by rw [hN];unfold InS.num;rw [if_pos h0]
  rw [hnum]
  have HH:=Lib.hid (A5 h h3 hcl hcm hN)
  clear hnum h h2 h3 hcl hcm hN h0 h1 hlen
  go_enter Tryz.func161,Tryz.ntmps161
  go_wp2_with (go_at_call 156;refine he.mono ?_;rintro e w1 ⟨rfl,rfl⟩)
  go_loopw [3,14] (fun nv iv wr=>∃ (k acc:Nat),nv=.int .u64 acc/\iv=.int .i64 k/\k<=s.l.length/\k<=9/\acc<128 ^ k/\N=numP k acc (s.l.drop k)/\wr=w1) (fun _ iv _=>s.l.length - (intOf iv).toNat)
  case atStart=>exact ⟨0,0,rfl,rfl,Nat.zero_le _,Nat.zero_le _,by decide,HH.out.2.2.2.2,rfl⟩
  case round =>
   obtain ⟨k,acc,rfl,rfl,hkl,hk9,hacc,hNk,rfl⟩:=hrel
   by_cases hlt:k<s.l.length
   ·obtain ⟨b,hb⟩:∃ b,s.l[k]?=some b:=⟨_,List.getElem?_eq_getElem hlt⟩
    have hdrop:s.l.drop k=b :: s.l.drop (k+1):=by
     obtain ⟨q1,q2⟩:=List.getElem?_eq_some_iff.1 hb
     rw [List.drop_eq_getElem_cons q1,q2]
    rw [hdrop] at hNk
    obtain ⟨ad,hao,hcell⟩:∃ ad,ao=some ad/\wr.cell? (ad.add k)=some (.int .u8 b.toNat):=by
     obtain ⟨_,_,hq,_,_,_,hc⟩:=HH.out.2.1
     simp only [Value.slice.injEq] at hq
     obtain ⟨rfl,_,rfl⟩:=hq
     obtain ⟨ad,e,_,hc⟩:=hc k b hb
     exact ⟨ad,e,hc⟩
    subst hao
    have hlti:(k:Int)<(s.l.length:Int):=by omega
    have hb256:=b.toNat_lt
    have hbi:(b.toNat:Int)<=255:=by omega
    have han:=andNot128 b
    obtain ⟨c,hc⟩:∃ c,c=b.toNat:=⟨_,rfl⟩
    rw [<- hc] at hcell han hbi hb256
    unfold numP at hNk
    rw [<- hc] at hNk
    have HB:=Lib.hid (A5 hNk hkl hacc hb hdrop)
    have HCC:=Lib.hid hc
    clear hNk hkl hacc hb hdrop hc hlt
    have hdone:c<128->(k=9->c<=1)->¬(c=0/\0<k)->N=.ok (acc+c*128 ^ k,s.l.drop (k+1)):=fun h1 h2 h3=>by
     rw [HB.out.1,if_neg (by omega),if_neg h3,if_pos h1]
    obtain ⟨o,c',hsl,hsub⟩:=Rg (some ad) s.l.length cap (k+1) ((k:Int)+1) (by simp) (by omega) HH.out.2.2.1
    have hrest:=hsub base wr s.l HH.out.2.1
    rw [List.take_length] at hrest
    have hset:=HH.out.1.setRest hrest
    have HS:=Lib.hid hset
    have hst:=fun h=>num_step (k:=k) (acc:=acc) (c:=c) hk9 HB.out.2.2.1 h
    have HN:=Lib.hid (A2 hdone hst)
    clear hset hrest hsub hdone hst
    have fin:c<128->(k=9->c<=1)->¬(c=0/\0<k)->(s.numR N).1=acc+c % 128*128 ^ k/\(s.numR N).2={ s with l:=s.l.drop (k+1) }:=fun h1 h2 h3=>by
     rw [HN.out.1 h1 h2 h3,Nat.mod_eq_of_lt h1]
     exact ⟨rfl,rfl⟩
    have HF:=Lib.hid fin
    clear fin
    by_cases h9:k=9
    ·have q9:((k:Int)==9)=true:=by rw [h9];rfl
     have hk0i:(0:Int)<(k:Int):=by omega
     by_cases hc1:1<c
     ·have hc1i:(1:Int)<(c:Int):=by omega
      have hNe:N=.error 7:=by rw [HB.out.1,if_pos ⟨h9,hc1⟩]
      have hf:=hfail 7
      have HE:=Lib.hid hNe
      clear hNe
      try clear h9
      try clear hz
      go_wp2_with (go_at_call 157;refine hf.mono ?_;rintro e w2 ⟨rfl,hi,k2⟩)
      go_ret
      rw [HE.out]
      exact ⟨rfl,hi,k2⟩
     ·have hc1i:¬(1:Int)<(c:Int):=by omega
      by_cases hz:c=0
      ·have qz:((c:Int)==0)=true:=by rw [hz];rfl
       have hNe:N=.error 2:=by rw [HB.out.1,if_neg (by omega),if_pos ⟨hz,by omega⟩]
       have hf:=hfail 2
       have HE:=Lib.hid hNe
       clear hNe
       try clear h9
       try clear hz
       go_wp2_with (go_at_call 157;refine hf.mono ?_;rintro e w2 ⟨rfl,hi,k2⟩)
       go_ret
       rw [HE.out]
       exact ⟨rfl,hi,k2⟩
      ·have qz:((c:Int)==0)=false:=by rw [beq_eq_false_iff_ne];omega
       have hci:(c:Int)<128:=by omega
       have hor:=(HN.out.2 (fun _=>by omega)).1
       obtain ⟨f1,f2⟩:=HF.out (by omega) (fun _=>by omega) (by omega)
       obtain ⟨M,hM⟩:∃ M,M=(s.numR N).1:=⟨_,rfl⟩
       rw [<- f1,<- hM] at hor
       have HE:=Lib.hid (A2 f2 hM)
       clear f1 f2 hM
       try clear h9
       try clear hz
       go_wp2_with fail
       go_ret
       rw [HE.out.1,<- HE.out.2]
       exact ⟨rfl,HS.out,Qd _ _⟩
    ·have q9:((k:Int)==9)=false:=by rw [beq_eq_false_iff_ne];omega
     by_cases hz:c=0
     ·have qz:((c:Int)==0)=true:=by rw [hz];rfl
      have hci:(c:Int)<128:=by omega
      by_cases hk0:0<k
      ·have hk0i:(0:Int)<(k:Int):=by omega
       have hNe:N=.error 2:=by rw [HB.out.1,if_neg (by omega),if_pos ⟨hz,hk0⟩]
       have hf:=hfail 2
       have HE:=Lib.hid hNe
       clear hNe
       try clear h9
       try clear hz
       go_wp2_with (go_at_call 157;refine hf.mono ?_;rintro e w2 ⟨rfl,hi,k2⟩)
       go_ret
       rw [HE.out]
       exact ⟨rfl,hi,k2⟩
      ·have hk0i:¬(0:Int)<(k:Int):=by omega
       have hor:=(HN.out.2 (fun h=>by omega)).1
       obtain ⟨f1,f2⟩:=HF.out (by omega) (fun h=>by omega) (by omega)
       obtain ⟨M,hM⟩:∃ M,M=(s.numR N).1:=⟨_,rfl⟩
       rw [<- f1,<- hM] at hor
       have HE:=Lib.hid (A2 f2 hM)
       clear f1 f2 hM
       try clear h9
       try clear hz
       go_wp2_with fail
       go_ret
       rw [HE.out.1,<- HE.out.2]
       exact ⟨rfl,HS.out,Qd _ _⟩
     ·have qz:((c:Int)==0)=false:=by rw [beq_eq_false_iff_ne];omega
      by_cases h128:c<128
      ·have hci:(c:Int)<128:=by omega
       have hor:=(HN.out.2 (fun h=>by omega)).1
       obtain ⟨f1,f2⟩:=HF.out (by omega) (fun h=>by omega) (by omega)
       obtain ⟨M,hM⟩:∃ M,M=(s.numR N).1:=⟨_,rfl⟩
       rw [<- f1,<- hM] at hor
       have HE:=Lib.hid (A2 f2 hM)
       clear f1 f2 hM
       try clear h9
       try clear hz
       go_wp2_with fail
       go_ret
       rw [HE.out.1,<- HE.out.2]
       exact ⟨rfl,HS.out,Qd _ _⟩
      ·have hci:¬(c:Int)<128:=by omega
       obtain ⟨hor,hlt2⟩:=HN.out.2 (fun h=>by omega)
       obtain ⟨M,hM⟩:∃ M,M=acc+c % 128*128 ^ k:=⟨_,rfl⟩
       rw [<- hM] at hor hlt2
       have hN2:N=numP (k+1) M (s.l.drop (k+1)):=by rw [HB.out.1,if_neg (by omega),if_neg (by omega),if_neg h128,hM]
       have HE:=Lib.hid (A2 hlt2 hN2)
       clear hlt2 hN2 hM
       go_wp2_with fail
       go_roundw
       case rel=>exact ⟨k+1,M,rfl,by go_num,by omega,by omega,HE.out.1,HE.out.2,trivial⟩
       case measure=>simp [intOf];omega
   ·obtain rfl:k=s.l.length:=by omega
    have hkk:¬(s.l.length:Int)<(s.l.length:Int):=by omega
    have hNe:N=.error 2:=by rw [hNk,List.drop_length];rfl
    have hf:=hfail 2
    have HE:=Lib.hid hNe
    clear hNe hNk hkl hk9 hacc hlt
    go_wp2_with (go_at_call 157;refine hf.mono ?_;rintro e w2 ⟨rfl,hi,k2⟩)
    go_ret
    rw [HE.out]
    exact ⟨rfl,hi,k2⟩
 ·have hs:s.num=(0,s):=by unfold InS.num;rw [if_neg h0]
  have hq:(s.e==0)=false:=by simpa using h0
  have HH:=Lib.hid h
  rw [hs]
  clear hs h
  go_enter Tryz.func161,Tryz.ntmps161
  go_wp2_with (go_at_call 156;refine he.mono ?_;rintro e w1 ⟨rfl,rfl⟩)
  go_ret
  exact ⟨rfl,HH.out,Keep.refl _ _⟩
theorem pOf_spec [bn:Inhabited Ban] {base:Nat} {w:World} {v:Value} {l:Qs} (h:Qv base w v l) (hb:base<=w.heap.size) (hT:ban.top<=w.heap.size) (hl:l.length<=1099511627776) :
  Calls Tryz.prog 107 #[v] w fun e w'=>∃ g,e=.returned (.pointer (some ⟨g,0,none⟩))/\w.heap.size<=g/\InAt base w' g ⟨l,0⟩/\Keep No w w':=by
 obtain ⟨ao,cap,rfl⟩:=h.form
 have hc:=Ju h (by omega)
 clear h
 go_enter Tryz.func107,Tryz.ntmps107
 go_wp2_with (go_at_call 99;refine hc.mono ?_;rintro e w1 ⟨v1,rfl,own1,k1⟩;obtain ⟨o1,c1,rfl⟩:=own1.form)
 go_ret
 have kA:Keep No w1 (w1.alloc (.cells #[.slice o1 l.length c1,.int .i64 0] 269)):=(Keep.refl _ _).alloc _
 exact ⟨w1.heap.size,rfl,k1.size,⟨Nat.le_trans hb k1.size,_,Qy _ _,(own1.bytes (base:=base) (fun _=>hT)).no kA⟩,k1.then kA⟩
theorem pBytes_spec [bn:Inhabited Ban] {base base':Nat} {w:World} {v u:Value} {l m:Qs} (h:Qv base w v l) (hu:Qv base' w u m) (hl:l.length<=1099511627776) (hm:m.length<=1099511627776) :
  Calls Tryz.prog 171 #[v,u] w fun e w'=>∃ v',e=.returned v'/\OwnB w' w.heap.size v' (l++(numB m.length++m))/\Keep No w w':=by
 obtain ⟨ao,cap,rfl⟩:=h.form
 obtain ⟨bo,bc,rfl⟩:=hu.form
 have hn:=Xk h m.length (by omega) hl
 have hnl:(numB m.length).length<=10:=Qp (by omega)
 have hmi:(m.length:Int)<=1099511627776:=by omega
 have HU:=Lib.hid hu
 clear h hu
 go_enter Tryz.func171,Tryz.ntmps171
 go_wp2_with (first
  | (at_builtin;refine Zq rfl _ _ rfl w.heap.size own1 (HU.out.no k1) rfl rfl hlen k1.size ?_;intro v2 w2 own2 k2)
  | (go_at_call 59;refine hn.mono ?_;rintro e w1 ⟨v1,rfl,own1,k1⟩;have hlen:(l++numB m.length).length+m.length<=70368744177664:=by simp;omega))
 go_ret
 exact ⟨_,rfl,by rw [<- List.append_assoc];exact own2,k1.trans k2 (fun x hx e=>by have:=(own1.lt x e).1;omega)⟩
theorem slice_hu [bn:Inhabited Ban] (ao:Option Addr) (n cap hi:Nat) (h2:hi<=n) (h3:n<=cap) :
  ∃ o c,(∀ w,(Instr.slice 59 (.slice ao n cap) none (some (.int .u64 (hi:Int))) none).run Tryz.prog w=.ok (.slice o hi c) w) /\
   ∀ base w l,Qv base w (.slice ao n cap) l->Qv base w (.slice o hi c) (l.take hi):=by
 refine ⟨_,_,fun w=>?_,fun base w l h=>bytes_sub h (Nat.zero_le hi) h2⟩
 rw [run_slice_h w 59 ao n cap elem_bytes .u64 _ (by omega) (by omega),Int.toNat_natCast,size_bytes]
 rfl
theorem slice_lu [bn:Inhabited Ban] (ao:Option Addr) (n cap lo:Nat) (h1:lo<=n) (_h3:n<=cap) :
  ∃ o c,(∀ w,(Instr.slice 59 (.slice ao n cap) (some (.int .u64 (lo:Int))) none none).run Tryz.prog w=.ok (.slice o (n-lo) c) w) /\
   ∀ base w l,Qv base w (.slice ao n cap) l->Qv base w (.slice o (n-lo) c) ((l.take n).drop lo):=by
 refine ⟨_,_,fun w=>?_,fun base w l h=>bytes_sub h h1 (Nat.le_refl _)⟩
 rw [run_slice_l w 59 ao n cap elem_bytes .u64 _ (by omega) (by omega),Int.toNat_natCast,size_bytes]
 rfl
theorem numP_len:∀ (l:List UInt8) (i acc n:Nat) (r:List UInt8),numP i acc l=.ok (n,r)->r.length<l.length
 | [],i,acc,n,r,h=>by simp [numP] at h
 | b :: t,i,acc,n,r,h=>by
  unfold numP at h
  split at h
  ·cases h
  ·split at h
   ·cases h
   ·split at h
    ·simp only [Except.ok.injEq,Prod.mk.injEq] at h
     rw [<- h.2]
     simp
    ·have:=numP_len t _ _ n r h
     simp
     omega
theorem num_len (s:InS):s.num.2.l.length<=s.l.length:=by
 unfold InS.num
 split
 ·cases h:numP 0 0 s.l with
  | error c=>exact Nat.le_refl _
  | ok q=>exact Nat.le_of_lt (numP_len s.l 0 0 q.1 q.2 h)
 ·exact Nat.le_refl _
def InS.some (s:InS) (most:Nat):List UInt8 × InS:=if s.e=0 then (
 if s.num.2.e=0 then (if most<s.num.1 then ([],{ s with e:=6 }) else if s.num.2.l.length<s.num.1 then ([],{ s with e:=2 })
  else (s.num.2.l.take s.num.1,{ s.num.2 with l:=s.num.2.l.drop s.num.1 })) else ([],{ s with e:=s.num.2.e })) else ([],s)
theorem iBytes_spec [bn:Inhabited Ban] {base g:Nat} {w:World} {s:InS} (h:InAt base w g s) (hlen:s.l.length<=1099511627776) (most:Nat) (hmost:most<=1099511627776) :
  Calls Tryz.prog 214 #[.pointer (some ⟨g,0,none⟩),.int .i64 most] w fun e w'=>∃ v,e=.returned v/\OwnB w' w.heap.size v (s.some most).1/\InAt base w' g (s.some most).2/\Keep (·=g) w w':=by
 have he:=Vl h
 by_cases h0:s.e=0
 ·obtain ⟨n,hn⟩:∃ n,n=s.num.1:=⟨_,rfl⟩
  obtain ⟨s1,hs1⟩:∃ s1,s1=s.num.2:=⟨_,rfl⟩
  have hnum:=Gm h hlen
  rw [<- hn,<- hs1] at hnum
  have hl1:s1.l.length<=1099511627776:=by rw [hs1];exact Nat.le_trans (num_len s) hlen
  have hli1:(s1.l.length:Int)<=1099511627776:=by omega
  have hs:s.some most=(if s1.e=0 then (if most<n then ([],{ s with e:=6 }) else if s1.l.length<n then ([],{ s with e:=2 })
   else (s1.l.take n,{ s1 with l:=s1.l.drop n })) else ([],{ s with e:=s1.e })):=by unfold InS.some;rw [if_pos h0,<- hn,<- hs1]
  rw [hs]
  obtain ⟨h1,v,h2,h3⟩:=id h
  obtain ⟨ao,cap,rfl⟩:=h3.form
  have c0:=Qq h2 0
  simp at c0
  rw [h0] at he
  have hF:=h.foot
  have hmi:(most:Int)<=1099511627776:=by omega
  have HH:=Lib.hid (A4 h h3 hF h0)
  have HL:=Lib.hid hl1
  clear hl1 hn hs1 hs h h2 h3 hF h0 h1 hlen hmost
  by_cases e1:s1.e=0
  ·by_cases hm:most<n
   ·have hmn:(most:Int)<(n:Int):=by omega
    rw [if_pos e1,if_pos hm]
    have HE:=Lib.hid (A2 e1 hm)
    clear e1 hm
    go_enter Tryz.func214,Tryz.ntmps214
    go_wp2_with (first
     | (go_at_call 157;refine hf.mono ?_;rintro e w2 ⟨rfl,hi2,k2⟩;obtain ⟨_,v2,hh2,hv2⟩:=id hi2;obtain ⟨o2,cp2,rfl⟩:=hv2.form;have d1:=Qq hh2 1;have d0:=Qq hh2 0;have fd:=Qg hh2;simp [InS.fail,HE.out.1] at d1 d0)
     | (go_at_call 161;refine hnum.mono ?_;rintro e w1 ⟨rfl,hi1,k1⟩;obtain ⟨_,v1,hh1,hv1⟩:=id hi1;obtain ⟨o1,cp1,rfl⟩:=hv1.form;have c1:=Qq hh1 1;have c01:=Qq hh1 0;simp at c1 c01;rw [HE.out.1] at c1;have hf:=Kb hi1 6)
     | (go_at_call 156;refine he.mono ?_;rintro e w0 ⟨rfl,rfl⟩))
    go_ret
    have k12:Keep (·=g) w0 w2:=k1.trans k2 (fun _ _ e=>e)
    have hset:=hi2.setRest (HH.out.2.1.keep HH.out.2.2.1 k12)
    have e6:(s1.fail 6).e=6:=by simp [InS.fail,HE.out.1]
    refine ⟨_,rfl,OwnB.nil _ _,?_,k12.trans (Qd _ _) (fun _ _ e=>e)⟩
    simp only [e6] at hset
    exact hset
   ·by_cases hl:s1.l.length<n
    ·have hmn:¬(most:Int)<(n:Int):=by omega
     have hln:(s1.l.length:Int)<(n:Int):=by omega
     rw [if_pos e1,if_neg hm,if_pos hl]
     have HE:=Lib.hid (A2 e1 hm)
     clear e1 hm hl
     go_enter Tryz.func214,Tryz.ntmps214
     go_wp2_with (first
      | (go_at_call 157;refine hf.mono ?_;rintro e w2 ⟨rfl,hi2,k2⟩;obtain ⟨_,v2,hh2,hv2⟩:=id hi2;obtain ⟨o2,cp2,rfl⟩:=hv2.form;have d1:=Qq hh2 1;have d0:=Qq hh2 0;have fd:=Qg hh2;simp [InS.fail,HE.out.1] at d1 d0)
      | (go_at_call 161;refine hnum.mono ?_;rintro e w1 ⟨rfl,hi1,k1⟩;obtain ⟨_,v1,hh1,hv1⟩:=id hi1;obtain ⟨o1,cp1,rfl⟩:=hv1.form;have c1:=Qq hh1 1;have c01:=Qq hh1 0;simp at c1 c01;rw [HE.out.1] at c1;have hf:=Kb hi1 2)
      | (go_at_call 156;refine he.mono ?_;rintro e w0 ⟨rfl,rfl⟩))
     go_ret
     have k12:Keep (·=g) w0 w2:=k1.trans k2 (fun _ _ e=>e)
     have hset:=hi2.setRest (HH.out.2.1.keep HH.out.2.2.1 k12)
     have e6:(s1.fail 2).e=2:=by simp [InS.fail,HE.out.1]
     refine ⟨_,rfl,OwnB.nil _ _,?_,k12.trans (Qd _ _) (fun _ _ e=>e)⟩
     simp only [e6] at hset
     exact hset
    ·have hmn:¬(most:Int)<(n:Int):=by omega
     have hln:¬(s1.l.length:Int)<(n:Int):=by omega
     rw [if_pos e1,if_neg hm,if_neg hl]
     have hnl:n<=s1.l.length:=by omega
     have HE:=Lib.hid (A3 e1 hm hnl)
     clear e1 hm hl hnl
     go_enter Tryz.func214,Tryz.ntmps214
     go_wp2_with (go_at_call 156;refine he.mono ?_;rintro e w0 ⟨rfl,rfl⟩)
     refine hnum.mono ?_
     rintro e w1 ⟨rfl,hi1,k1⟩
     obtain ⟨_,v1,hh1,hv1⟩:=id hi1
     obtain ⟨o1,cp1,rfl⟩:=hv1.form
     have c1:=Qq hh1 1
     have c01:=Qq hh1 0
     simp at c1 c01
     rw [HE.out.1] at c1
     have hcp:s1.l.length<=cp1:=by obtain ⟨_,_,hq,q1,q2,_⟩:=hv1;simp at hq;omega
     obtain ⟨o3,c3,hs3,hb3⟩:=slice_hu o1 s1.l.length cp1 n HE.out.2.2 hcp
     obtain ⟨o4,c4,hs4,hb4⟩:=slice_lu o1 s1.l.length cp1 n HE.out.2.2 hcp
     have hb3:=hb3 base w1 s1.l hv1
     have hb4:=hb4 base w1 s1.l hv1
     rw [List.take_length] at hb4
     have hlt:(s1.l.take n).length=n:=by rw [List.length_take];exact Nat.min_eq_left HE.out.2.2
     have hcl:=Ju hb3 (by rw [hlt];have:=HE.out.2.1;omega)
     have HI:=Lib.hid (A5 hi1 hb4 hh1 k1 hlt)
     clear hi1 hv1 hh1 hb3 hb4 k1 hnum he hlt
     go_wp2_with fail
     refine hcl.mono ?_
     rintro e w2 ⟨v2,rfl,own2,k2⟩
     obtain ⟨o2,cp2,rfl⟩:=own2.form
     rw [HI.out.2.2.2.2] at own2 ⊢
     have d0:=k2.cell c01 (fun e=>e)
     have fd:=Qg (k2.heap HI.out.2.2.1 (fun e=>e))
     go_wp2_with fail
     go_ret
     have hset:=(HI.out.1.no k2).setRest (HI.out.2.1.no k2)
     refine ⟨_,rfl,?_,hset,(HI.out.2.2.2.1.then k2).trans (Qd _ _) (fun _ _ e=>e)⟩
     exact (own2.keep (Qd _ _) (fun b hb e=>by have h1:=(own2.lt b hb).1;have h2:=Qt HI.out.2.2.1;have h3:b=g:=e;omega)).mono HI.out.2.2.2.1.size
  ·have hq:(s1.e==0)=false:=by simpa using e1
   rw [if_neg e1]
   clear e1
   go_enter Tryz.func214,Tryz.ntmps214
   go_wp2_with (first
    | (go_at_call 161;refine hnum.mono ?_;rintro e w1 ⟨rfl,hi1,k1⟩;obtain ⟨_,v1,hh1,hv1⟩:=id hi1;obtain ⟨o1,cp1,rfl⟩:=hv1.form;have c1:=Qq hh1 1;have c01:=Qq hh1 0;have fd:=Qg hh1;simp at c1 c01)
    | (go_at_call 156;refine he.mono ?_;rintro e w0 ⟨rfl,rfl⟩))
   go_ret
   exact ⟨_,rfl,OwnB.nil _ _,hi1.setRest (HH.out.2.1.keep HH.out.2.2.1 k1),k1.trans (Qd _ _) (fun _ _ e=>e)⟩
 ·have hs:s.some most=([],s):=by unfold InS.some;rw [if_neg h0]
  have hq:(s.e==0)=false:=by simpa using h0
  have HH:=Lib.hid h
  rw [hs]
  clear hs h
  go_enter Tryz.func214,Tryz.ntmps214
  go_wp2_with (go_at_call 156;refine he.mono ?_;rintro e w1 ⟨rfl,rfl⟩)
  go_ret
  exact ⟨_,rfl,OwnB.nil _ _,HH.out,Keep.refl _ _⟩
end Go.Proofs.YtfdmbomlkpkegaaGreat
namespace Go.Proofs.YtfdmbomlkpkegaaGreat
open Go Go.RowKit Go.Dr
theorem run_app [bn:Inhabited Ban] {w:World} (ty:TypeId) (B:Nat) {v u:Value} {l m:Qs} {base base':Nat} (happ:AppB base w B v l) (hsrc:Qv (bn:=Xl) base' w u m) (hm:m≠[])
  (hlen:l.length+m.length<=70368744177664) (hB:B<=w.heap.size) :
  ∃ v' w',(Builtin.append_ #[59,59] ty #[v,u]).run Tryz.prog w=.ok v' w'/\OwnB w' B v' (l++m)/\Keep (fun b=>B<=b) w w':=by
 obtain ⟨i0,hi,hz0,hz1,hz2⟩:=info_parts Rr
 obtain ⟨bo,bc,rfl,hc,hmx,hn,hcell⟩:=hsrc
 obtain ⟨bd,rfl⟩:∃ bd,bo=some bd:=by
  cases bo with
  | none =>
   have:=hn rfl
   have hl0:m.length=0:=by omega
   exact (hm (List.eq_nil_of_length_eq_zero hl0)).elim
  | some bd=>exact ⟨bd,rfl⟩
 have hnews:∀ (j:Nat) y,(m.map u8v)[j]?=some y->w.cell? (bd.add j)=some y:=fun j y hj=>by
  rw [List.getElem?_map] at hj
  cases hmj:m[j]? with
  | none=>simp [hmj] at hj
  | some z =>
   obtain ⟨ad',e,_,hcl⟩:=hcell j z hmj
   cases e
   simp [hmj] at hj
   rw [hcl,hj]
 have hpos:0<m.length:=List.length_pos_iff.2 hm
 have hown:OwnB w B v l->∃ v' w',(Builtin.append_ #[59,59] ty #[v,.slice (some bd) m.length bc]).run Tryz.prog w=.ok v' w'/\OwnB w' B v' (l++m)/\Keep (fun b=>B<=b) w w':=fun hown=>by
  obtain ⟨v',w',hrun,h1,h2,_⟩:=run_append_own (P:=Tryz.prog) w B 59 ty 5 i0 (.int .u8 0) 1 1 Tryz.underlying59 hi hz0 hz1 hz2 rfl (by decide) v l.length (l.map u8v) hown
   bd m.length bc (m.map u8v) (by simp) hnews (u8_one m) (by unfold maxLen;omega) (by omega) hB
  refine ⟨v',w',hrun,?_,(Keep.refl _ w).grown h2 (fun k hk=>.inl (hown.lt k hk).1)⟩
  unfold OwnB
  rw [List.length_append,List.map_append]
  exact h1
 rcases happ with ⟨ao,rfl,hb⟩ | h
 ·obtain ⟨ao',cap',he,hc',hm',hn',hcell'⟩:=hb
  simp only [Value.slice.injEq] at he
  obtain ⟨rfl,_,rfl⟩:=he
  cases ao with
  | none =>
   have hl:=hn' rfl
   have:l=[]:=List.eq_nil_of_length_eq_zero hl
   subst this
   exact hown (OwnB.nil _ _)
  | some ad =>
   have hrun:=run_append_grow (P:=Tryz.prog) w 59 ty 5 i0 (.int .u8 0) Tryz.underlying59 hi hz0 ad l.length l.length (l.map u8v) (by rw [hz1];simp) (fun j y hj=>by
     rw [List.getElem?_map] at hj
     cases hmj:l[j]? with
     | none=>simp [hmj] at hj
     | some z =>
      obtain ⟨ad',e,_,hcl⟩:=hcell' j z hmj
      cases e
      simp [hmj] at hj
      rw [hcl,hj])
    bd m.length bc (m.map u8v) (by rw [hz1];simp) hnews (by omega) (by omega) (growslice_fits (by omega) (by rw [hz2];omega))
   have hge:=grownCap_ge w (l.length+m.length) l.length 5
   have hcm2:grownCap w (l.length+m.length) l.length 5<=maxLen:=grownCap_le_maxLen w (l.length+m.length) l.length 5 (by unfold maxLen;omega)
   refine ⟨_,_,hrun,?_,(Keep.refl _ _).drew.alloc _⟩
   refine ⟨by simp,.inr ⟨w.heap.size,_,_,by rw [List.length_append],hB,heap_alloc_new w.drew _,by rw [List.length_append];exact hge,hcm2,?_,?_⟩⟩
   ·simp [size_zeroCells,Value.cells]
    omega
   ·simp
    rw [<- List.append_assoc,List.take_append_of_le_length (by simp),List.take_of_length_le (by simp)]
 ·exact hown h
theorem wp_append_app [bn:Inhabited Ban] {w:World} {o:Oper} {a:Act} {K:Act->World->Prop} {Q:Exit->Act->World->Prop} (s x:Operand)
  (ho:o.op=Op.call { callee:=Callee.builtin Builtin.append,args:=#[s,x],argTypes:=#[59,59] })
  (B:Nat) {v u:Value} {l m:Qs} {base base':Nat} (happ:AppB base w B v l) (hsrc:Qv (bn:=Xl) base' w u m) (hm:m≠[]) (hs:a.eval s=v) (hx:a.eval x=u)
  (hlen:l.length+m.length<=70368744177664) (hB:B<=w.heap.size)
  (hK:∀ v' w',OwnB w' B v' (l++m)->Keep (fun b=>B<=b) w w'->K (a.put o.dst v') w'):o.wp Tryz.prog a w K Q:=by
 obtain ⟨v',w',hr,h1,h2⟩:=run_app o.type B happ hsrc hm hlen hB
 unfold Oper.wp execOp
 simp only [ho,resolve,invoke,builtin,Sem.run_bind,Sem.run_pure,Result.andThen_ok,List.map_toArray,List.map_cons,List.map_nil,hs,hx,hr]
 exact hK _ _ h1 h2
structure Ys where
 c:Int
 body:List UInt8
def Ys.right (s:Ys):Bool:=decide (0<=s.c/\s.c<8/\s.body.length<=4096)
def Ys.bytes (s:Ys):List UInt8:=UInt8.ofNat (s.c % 256).toNat :: (numB s.body.length++s.body)
theorem sRight_spec {w:World} {s:Ys} {ao:Option Addr} {cap:Nat} (hl:s.body.length<=1099511627776):Calls Tryz.prog 115 #[.agg #[.int .i64 s.c,.slice ao s.body.length cap]] w fun e w'=>e=.returned (.bool s.right)/\Keep No w w':=by
 have kA:Keep No w (w.alloc (.cells #[.int .i64 s.c,.slice ao s.body.length cap] 61)):=(Keep.refl _ _).alloc _
 by_cases h1:0<=s.c
 ·by_cases h2:s.c<8
  ·by_cases h3:s.body.length<=4096
   ·have h3i:(s.body.length:Int)<=4096:=by omega
    have hs:s.right=true:=by simp [Ys.right,h1,h2,h3]
    rw [hs]
    clear hs
    go_enter Tryz.func115,Tryz.ntmps115
    go_wp2
    go_ret
    exact ⟨rfl,kA⟩
   ·have h3i:¬(s.body.length:Int)<=4096:=by omega
    have hs:s.right=false:=by simp [Ys.right];omega
    rw [hs]
    clear hs
    go_enter Tryz.func115,Tryz.ntmps115
    go_wp2
    go_ret
    exact ⟨rfl,kA⟩
  ·have hs:s.right=false:=by simp [Ys.right];omega
   rw [hs]
   clear hs
   go_enter Tryz.func115,Tryz.ntmps115
   go_wp2
   go_ret
   exact ⟨rfl,kA⟩
 ·have hs:s.right=false:=by simp [Ys.right];omega
  rw [hs]
  clear hs
  go_enter Tryz.func115,Tryz.ntmps115
  go_wp2
  go_ret
  exact ⟨rfl,kA⟩
theorem sPut_spec [bn:Inhabited Ban] {base base':Nat} {w:World} (hT:ban.top<=w.heap.size) {s:Ys} {sv pv:Value} {l:Qs} (hs:Qv base w sv s.body) (hp:Qv base' w pv l) (hl:l.length<=1073741824) (hb:s.body.length<=1073741824) :
  Calls Tryz.prog 118 #[.agg #[.int .i64 s.c,sv],pv] w fun e w'=>∃ v',e=.returned v'/\OwnB w' w.heap.size v' (l++s.bytes)/\Keep No w w':=by
 obtain ⟨ao,cap,rfl⟩:=hs.form
 obtain ⟨po,pc,rfl⟩:=hp.form
 obtain ⟨hpl,hpm⟩:l.length<=pc/\pc<=maxLen:=by obtain ⟨_,_,hq,h1,h2,_⟩:=hp;simp at hq;omega
 unfold maxLen at hpm
 obtain ⟨W,hW⟩:∃ W,W=w.alloc (.cells #[.int .i64 s.c,.slice ao s.body.length cap] 61):=⟨_,rfl⟩
 have kW:Keep No w W:=by rw [hW];exact (Keep.refl _ _).alloc _
 have hA:W.heap[w.heap.size]?=some (.cells #[.int .i64 s.c,.slice ao s.body.length cap] 61 (0,0)):=by rw [hW];exact Qy _ _
 have c0:=Qq hA 0
 have c1:=Qq hA 1
 simp at c0 c1
 have hf:AppB base' W W.heap.size (.slice po l.length l.length) l:=by
  obtain ⟨ao',cap',he,h1,h2,h3,h4⟩:=hp.no kW
  simp only [Value.slice.injEq] at he
  obtain ⟨rfl,_,rfl⟩:=he
  refine .inl ⟨po,rfl,po,l.length,rfl,Nat.le_refl _,by unfold maxLen;omega,fun e=>by have:=h3 e;omega,h4⟩
 obtain ⟨r,hr⟩:∃ r:Nat,(r:Int)=s.c % 256:=⟨(s.c % 256).toNat,by omega⟩
 have hr256:r<256:=by omega
 have hwr:IntKind.u8.wrap s.c=(r:Int):=by rw [hr];rfl
 have HH:=Lib.hid (A7 hs hf hl hb kW hT hr)
 clear hs hp hf hl hb kW hA hT hr
 go_enter Tryz.func118,Tryz.ntmps118
 go_wp2_with fail
 show Code.wp _ _ _ _ (w.alloc (.cells #[.int .i64 s.c,.slice ao s.body.length cap] 61))
 rw [<- hW]
 clear hW
 have kd:Keep No W W.drew:=(Keep.refl _ _).drew
 refine Ql (fun w'=>Keep No W w') [0,1,2,3,4,5,6,7,8,11,12] [9,10,13] [14] (by kernel_rfl) (by kernel_rfl) (fun _ _ _ _ _ h=>h) kd ?_
 iterate 11 (refine Qk (v:=?_) rfl rfl rfl ?_ ?_;rotate_left;focus (
  intro w' hS
  have d0:=hS.cell c0 (fun e=>e)
  have d1:=hS.cell c1 (fun e=>e)
  go_simp
  try with_reducible rfl))
 refine Qj (Qx rfl rfl (fun K hK=>?_))
 go_simp
 have k1:=kd.alloc (.cells #[.int .u8 r] 5)
 refine hK _ _ k1 ?_
 clear hK K
 refine Qx rfl rfl (fun K hK=>?_)
 refine wp_append_app _ _ rfl W.heap.size (HH.out.2.1.no k1) (Vq W.drew r hr256) (by simp) rfl rfl (by have:=HH.out.2.2.1;simp;omega) (by simp) ?_
 intro v1 w1 own1 k2
 have k12:Keep No W w1:=k1.trans k2 (fun x hx e=>by omega)
 refine hK _ _ k12 ?_
 clear hK K
 refine Qx rfl rfl (fun K hK=>?_)
 go_simp
 refine (pBytes_spec (own1.bytes (base:=0) (fun _=>Nat.le_trans HH.out.2.2.2.2.2.1 HH.out.2.2.2.2.1.size)) (HH.out.1.no (HH.out.2.2.2.2.1.then k12)) (by have:=HH.out.2.2.1;simp;omega) (by have:=HH.out.2.2.2.1;omega)).mono ?_
 rintro e w2 ⟨v2,rfl,own2,k3⟩
 have k13:=k12.then k3
 refine hK _ _ k13 ?_
 clear hK K
 refine Qh (Qu rfl (Qm ?_))
 go_wp2
 go_ret
 refine ⟨v2,rfl,?_,HH.out.2.2.2.2.1.then k13⟩
 have e1:l++s.bytes=(l++[UInt8.ofNat r])++(numB s.body.length++s.body):=by
  unfold Ys.bytes
  rw [<- HH.out.2.2.2.2.2.2,Int.toNat_natCast,List.append_assoc]
  rfl
 rw [e1]
 exact own2.mono (Nat.le_trans HH.out.2.2.2.2.1.size k12.size)
structure Qc where
 n:Nat
 s:Ys
def Qc.bytes (i:Qc):List UInt8:=numB i.n++i.s.bytes
theorem tPut_spec [bn:Inhabited Ban] {base base':Nat} {w:World} (hT:ban.top<=w.heap.size) {i:Qc} {sv pv:Value} {l:Qs} (hs:Qv base w sv i.s.body) (hp:Qv base' w pv l) (hn:i.n<18446744073709551616) (hl:l.length<=536870912) (hb:i.s.body.length<=1073741824) :
  Calls Tryz.prog 67 #[.agg #[.int .u64 i.n,.int .i64 i.s.c,sv],pv] w fun e w'=>∃ v',e=.returned v'/\OwnB w' w.heap.size v' (l++i.bytes)/\Keep No w w':=by
 obtain ⟨ao,cap,rfl⟩:=hs.form
 obtain ⟨po,pc,rfl⟩:=hp.form
 obtain ⟨W,hW⟩:∃ W,W=w.alloc (.cells #[.int .u64 i.n,.int .i64 i.s.c,.slice ao i.s.body.length cap] 111):=⟨_,rfl⟩
 have kW:Keep No w W:=by rw [hW];exact (Keep.refl _ _).alloc _
 have hA:W.heap[w.heap.size]?=some (.cells #[.int .u64 i.n,.int .i64 i.s.c,.slice ao i.s.body.length cap] 111 (0,0)):=by rw [hW];exact Qy _ _
 have c0:=Qq hA 0
 have c1:=Qq hA 1
 have c2:=Qq hA 2
 simp at c0 c1 c2
 have HH:=Lib.hid (A7 hs hp hl hb kW hT hn)
 clear hs hp hl hb kW hA hT hn
 go_enter Tryz.func67,Tryz.ntmps67
 go_wp2_with fail
 show Code.wp _ _ _ _ (w.alloc (.cells #[.int .u64 i.n,.int .i64 i.s.c,.slice ao i.s.body.length cap] 111))
 rw [<- hW]
 clear hW
 have kd:Keep No W W.drew:=(Keep.refl _ _).drew
 refine Ql (fun w'=>Keep No W w') [0,1,2,3,4] [5,6] [7] (by kernel_rfl) (by kernel_rfl) (fun _ _ _ _ _ h=>h) kd ?_
 iterate 5 (refine Qk (v:=?_) rfl rfl rfl ?_ ?_;rotate_left;focus (
  intro w' hS
  have d0:=hS.cell c0 (fun e=>e)
  have d1:=hS.cell c1 (fun e=>e)
  have d2:=hS.cell c2 (fun e=>e)
  go_simp
  try with_reducible rfl))
 refine Qj (Qx rfl rfl (fun K hK=>?_))
 go_simp
 refine (Xk (HH.out.2.1.no (HH.out.2.2.2.2.1.then kd)) i.n HH.out.2.2.2.2.2.2 (by have:=HH.out.2.2.1;omega)).mono ?_
 rintro e w1 ⟨v1,rfl,own1,k1⟩
 have k1:=kd.then k1
 refine hK _ _ k1 ?_
 clear hK K
 refine Qx rfl rfl (fun K hK=>?_)
 go_simp
 refine (sPut_spec (base:=base) (base':=0) (s:=i.s) (Nat.le_trans HH.out.2.2.2.2.2.1 (HH.out.2.2.2.2.1.then k1).size) (HH.out.1.no (HH.out.2.2.2.2.1.then k1)) (own1.bytes (fun _=>Nat.le_trans HH.out.2.2.2.2.2.1 HH.out.2.2.2.2.1.size)) (by have:=HH.out.2.2.1;have:=Qp HH.out.2.2.2.2.2.2;simp;omega) HH.out.2.2.2.1).mono ?_
 rintro e w2 ⟨v2,rfl,own2,k2⟩
 have k12:=k1.then k2
 refine hK _ _ k12 ?_
 clear hK K
 refine Qh (Qu rfl (Qm ?_))
 go_wp2
 go_ret
 refine ⟨v2,rfl,?_,HH.out.2.2.2.2.1.then k12⟩
 unfold Qc.bytes
 rw [<- List.append_assoc]
 exact own2.mono (Nat.le_trans HH.out.2.2.2.2.1.size k1.size)
end Go.Proofs.YtfdmbomlkpkegaaGreat
namespace Go.Proofs.YtfdmbomlkpkegaaGreat
open Go Go.RowKit
def InS.cls (s:InS):InS:=if s.byte.1<8 then s.byte.2 else s.byte.2.fail 2
def InS.span (s:InS):Ys × InS:=if (s.cls.some 4096).2.e=0 then (⟨s.byte.1,(s.cls.some 4096).1⟩,(s.cls.some 4096).2) else (⟨0,[]⟩,(s.cls.some 4096).2)
theorem byte_len (s:InS):s.byte.2.l.length<=s.l.length/\s.byte.1<256:=by
 unfold InS.byte
 split
 ·split
  ·rename_i h
   simp [InS.fail]
  ·rename_i b r h
   rw [h]
   have:=b.toNat_lt
   simp
   exact this
 ·exact ⟨Nat.le_refl _,by show (0:Nat)<256;decide⟩
theorem cls_len (s:InS):s.cls.l.length<=s.l.length:=by
 unfold InS.cls
 split
 ·exact (byte_len s).1
 ·exact (byte_len s).1
theorem InAt.keepF [bn:Inhabited Ban] {base g:Nat} {w w':World} {s:InS} {F:Nat->Prop} (h:InAt base w g s) (k:Keep F w w') (hF:Foot base w F) (hg:¬F g):InAt base w' g s:=by
 obtain ⟨h1,v,h2,h3⟩:=h
 exact ⟨h1,v,k.heap h2 hg,h3.keep hF k⟩
theorem sGet_spec [bn:Inhabited Ban] {base g:Nat} {w:World} {s:InS} (h:InAt base w g s) (hlen:s.l.length<=1099511627776) :
  Calls Tryz.prog 199 #[.pointer (some ⟨g,0,none⟩)] w fun e w'=>∃ v,e=.returned (.agg #[.int .i64 s.span.1.c,v])/\OwnB w' w.heap.size v s.span.1.body/\InAt base w' g s.span.2/\Keep (·=g) w w':=by
 obtain ⟨b2,hb2⟩:∃ b,b=w.heap.size:=⟨_,rfl⟩
 have hgl:g<w.heap.size:=by obtain ⟨_,v,h2,_⟩:=h;exact Qt h2
 obtain ⟨W,hW⟩:∃ W,W=w.alloc (.cells #[.int .i64 0,.slice none 0 0] 61):=⟨_,rfl⟩
 have kW:Keep No w W:=by rw [hW];exact (Keep.refl _ _).alloc _
 have hA:W.heap[b2]?=some (.cells #[.int .i64 0,.slice none 0 0] 61 (0,0)):=by rw [hW,hb2];exact Qy _ _
 have hby:=iByte_spec (h.no kW)
 obtain ⟨k,hk⟩:∃ k,k=s.byte.1:=⟨_,rfl⟩
 obtain ⟨s1,hs1⟩:∃ s1,s1=s.byte.2:=⟨_,rfl⟩
 obtain ⟨s2,hs2⟩:∃ s2,s2=s.cls:=⟨_,rfl⟩
 rw [<- hk,<- hs1] at hby
 have hk256:k<256:=by rw [hk];exact (byte_len s).2
 have hki:(k:Int)<=255:=by omega
 have hc:s2=if k<8 then s1 else s1.fail 2:=by rw [hs2,hk,hs1];rfl
 have hl2:s2.l.length<=1099511627776:=by rw [hs2];exact Nat.le_trans (cls_len s) hlen
 have hsp:s.span=if (s2.some 4096).2.e=0 then (⟨k,(s2.some 4096).1⟩,(s2.some 4096).2) else (⟨0,[]⟩,(s2.some 4096).2):=by rw [hs2,hk];rfl
 obtain ⟨bb,hbb⟩:∃ bb,bb=(s2.some 4096).1:=⟨_,rfl⟩
 obtain ⟨s3,hs3⟩:∃ s3,s3=(s2.some 4096).2:=⟨_,rfl⟩
 rw [<- hbb,<- hs3] at hsp
 have HH:=Lib.hid (A10 kW hA hc hl2 hsp hbb hs3 hgl hb2 h)
 clear kW hA hc hl2 hsp hbb hs3 hgl h hk hs1 hs2 hk256 hlen
 subst hb2
 go_enter Tryz.func199,Tryz.ntmps199
 go_wp2_with fail
 rw [<- hW]
 clear hW
 refine hby.mono ?_
 rintro e w1 ⟨rfl,hi1,k1⟩
 clear hby
 have kA:=fun (w:World) o=>(Keep.refl No w).alloc o
 have hB3:=Qy w1 (.cells #[.int .i64 k,.slice none 0 0] 61)
 have hi3:=hi1.no (kA w1 (.cells #[.int .i64 k,.slice none 0 0] 61))
 have hb1:=hi1.at'
 have HB:=Lib.hid (A4 hB3 hi3 k1 hb1)
 clear hB3 hi3 k1 hi1 hb1
 by_cases h8:k<8
 ·have h8i:¬(8:Int)<=(k:Int):=by omega
  have hc:=HH.out.2.2.1
  rw [if_pos h8] at hc
  subst hc
  have hbs:=iBytes_spec HB.out.2.1 HH.out.2.2.2.1 4096 (by decide)
  rw [<- HH.out.2.2.2.2.2.1,<- HH.out.2.2.2.2.2.2.1] at hbs
  go_wp2_with fail
  refine hbs.mono ?_
  rintro e w4 ⟨v4,rfl,own4,hi4,k4⟩
  clear hbs
  obtain ⟨vo,vc,rfl⟩:=own4.form
  have hgl:=HH.out.2.2.2.2.2.2.2.1
  have hs1:=HB.out.2.2.1.size
  have hsW:=HH.out.1.size
  have hne:¬w1.heap.size=g:=fun e=>by omega
  have hne2:¬w.heap.size=g:=fun e=>by omega
  have hB4:=k4.heap HB.out.1 hne
  have hA4:=k4.heap ((kA w1 _).heap (HB.out.2.2.1.heap HH.out.2.1 hne2) (fun e=>e)) hne2
  have c4:=Qq hB4 1
  have f4:=Qg hB4
  simp at c4
  obtain ⟨Y,hY⟩:∃ Y,w4.setCell ⟨w1.heap.size,1,none⟩ (.slice vo bb.length vc)=Y:=⟨_,rfl⟩
  have kE:Keep (·=w1.heap.size) w4 (w4.setCell ⟨w1.heap.size,1,none⟩ (.slice vo bb.length vc)):=Qd _ _
  have hBY:=Qz (i:=1) (u:=.slice vo bb.length vc) hB4
  have hiY:=hi4.keepF kE (by rintro b rfl;exact ⟨by have:=hi4.at';omega,Qt hB4,fun cs fr e=>by rw [hB4] at e;simp at e⟩) (fun e=>hne e.symm)
  rw [hY] at hBY kE hiY
  have hlA:=Qt HH.out.2.1
  have hAY:=kE.heap hA4 (fun e=>by omega)
  have hie:=Vl hiY
  have hsp:=HH.out.2.2.2.2.1
  have hsz4:=k4.size
  have cY:=Qq hBY 0
  have cY1:=Qq hBY 1
  have cA:=Qq hAY 0
  have cA1:=Qq hAY 1
  have fA:=Qg hAY
  simp at cY cY1 cA cA1
  go_wp2_with fail
  refine hie.mono ?_
  rintro e w5 ⟨rfl,hw5⟩
  subst hw5
  by_cases he:s3.e=0
  ·rw [if_pos he] at hsp
   rw [he]
   go_wp2_with fail
   have hZ:=Qz (i:=1) (u:=.slice vo bb.length vc) (Qz (i:=0) (u:=.int .i64 k) hAY)
   have kZ:=(Qd (g:=w.heap.size) (i:=0) w5 (.int .i64 k)).setCell (p:=⟨w.heap.size,1,none⟩) (.inl rfl) (.slice vo bb.length vc)
   have z0:=Qq hZ 0
   have z1:=Qq hZ 1
   simp at z0 z1
   refine bodyPost_ret (v:=.agg #[.int .i64 k,.slice vo bb.length vc]) (by simp [results,Tryz.results199,go_sem,z0,z1]) rfl ?_
   rw [hsp]
   have hFZ:Foot base w5 (·=w.heap.size):=by
    rintro b rfl
    exact ⟨by have:=hi4.at';omega,Qt hAY,fun cs fr e=>by rw [hAY] at e;simp at e⟩
   have kW1:Keep (·=g) w w1:=(HH.out.1.no (F:=(·=g))).trans HB.out.2.2.1 (fun x _ h=>h)
   have kAll:=(((kW1.trans (kA w1 (.cells #[.int .i64 k,.slice none 0 0] 61)) (fun x _ h=>h.elim)).trans k4 (fun x _ h=>h)).trans kE (fun x hx h=>by omega)).trans kZ (fun x hx h=>by omega)
   have hiZ:=hiY.keepF kZ hFZ (by omega)
   have ho4:=own4.lt
   simp at ho4
   exact ⟨_,rfl,(((own4.mono (by simp;omega)).keep kE (fun b hb=>by have:=ho4 b hb;omega)).keep kZ (fun b hb=>by have:=ho4 b hb;omega)),hiZ,kAll⟩
  ·rw [if_neg he] at hsp
   have hq:(s3.e==0)=false:=by simpa using he
   go_wp2_with fail
   have hZ:=Qz (i:=1) (u:=.slice none 0 0) (Qz (i:=0) (u:=.int .i64 0) hAY)
   have kZ:=(Qd (g:=w.heap.size) (i:=0) w5 (.int .i64 0)).setCell (p:=⟨w.heap.size,1,none⟩) (.inl rfl) (.slice none 0 0)
   have z0:=Qq hZ 0
   have z1:=Qq hZ 1
   simp at z0 z1
   refine bodyPost_ret (v:=.agg #[.int .i64 0,.slice none 0 0]) (by simp [results,Tryz.results199,go_sem,z0,z1]) rfl ?_
   rw [hsp]
   have hFZ:Foot base w5 (·=w.heap.size):=by
    rintro b rfl
    exact ⟨by have:=hi4.at';omega,Qt hAY,fun cs fr e=>by rw [hAY] at e;simp at e⟩
   have kW1:Keep (·=g) w w1:=(HH.out.1.no (F:=(·=g))).trans HB.out.2.2.1 (fun x _ h=>h)
   have kAll:=(((kW1.trans (kA w1 (.cells #[.int .i64 k,.slice none 0 0] 61)) (fun x _ h=>h.elim)).trans k4 (fun x _ h=>h)).trans kE (fun x hx h=>by omega)).trans kZ (fun x hx h=>by omega)
   have hiZ:=hiY.keepF kZ hFZ (by omega)
   exact ⟨_,rfl,OwnB.nil _ _,hiZ,kAll⟩
 ·have h8i:(8:Int)<=(k:Int):=by omega
  have hc:=HH.out.2.2.1
  rw [if_neg h8] at hc
  have hf:=Kb HB.out.2.1 2
  rw [<- hc] at hf
  go_wp2_with fail
  refine hf.mono ?_
  rintro e w2 ⟨rfl,hi2,k2⟩
  clear hf
  have hbs:=iBytes_spec hi2 HH.out.2.2.2.1 4096 (by decide)
  rw [<- HH.out.2.2.2.2.2.1,<- HH.out.2.2.2.2.2.2.1] at hbs
  go_wp2_with fail
  refine hbs.mono ?_
  rintro e w4 ⟨v4,rfl,own40,hi4,k40⟩
  clear hbs
  have own4:=own40.mono k2.size
  have k4:=k2.trans k40 (fun x _ h=>h)
  clear own40 k40
  obtain ⟨vo,vc,rfl⟩:=own4.form
  have hgl:=HH.out.2.2.2.2.2.2.2.1
  have hs1:=HB.out.2.2.1.size
  have hsW:=HH.out.1.size
  have hne:¬w1.heap.size=g:=fun e=>by omega
  have hne2:¬w.heap.size=g:=fun e=>by omega
  have hB4:=k4.heap HB.out.1 hne
  have hA4:=k4.heap ((kA w1 _).heap (HB.out.2.2.1.heap HH.out.2.1 hne2) (fun e=>e)) hne2
  have c4:=Qq hB4 1
  have f4:=Qg hB4
  simp at c4
  obtain ⟨Y,hY⟩:∃ Y,w4.setCell ⟨w1.heap.size,1,none⟩ (.slice vo bb.length vc)=Y:=⟨_,rfl⟩
  have kE:Keep (·=w1.heap.size) w4 (w4.setCell ⟨w1.heap.size,1,none⟩ (.slice vo bb.length vc)):=Qd _ _
  have hBY:=Qz (i:=1) (u:=.slice vo bb.length vc) hB4
  have hiY:=hi4.keepF kE (by rintro b rfl;exact ⟨by have:=hi4.at';omega,Qt hB4,fun cs fr e=>by rw [hB4] at e;simp at e⟩) (fun e=>hne e.symm)
  rw [hY] at hBY kE hiY
  have hlA:=Qt HH.out.2.1
  have hAY:=kE.heap hA4 (fun e=>by omega)
  have hie:=Vl hiY
  have hsp:=HH.out.2.2.2.2.1
  have hsz4:=k4.size
  have cY:=Qq hBY 0
  have cY1:=Qq hBY 1
  have cA:=Qq hAY 0
  have cA1:=Qq hAY 1
  have fA:=Qg hAY
  simp at cY cY1 cA cA1
  go_wp2_with fail
  refine hie.mono ?_
  rintro e w5 ⟨rfl,hw5⟩
  subst hw5
  by_cases he:s3.e=0
  ·rw [if_pos he] at hsp
   rw [he]
   go_wp2_with fail
   have hZ:=Qz (i:=1) (u:=.slice vo bb.length vc) (Qz (i:=0) (u:=.int .i64 k) hAY)
   have kZ:=(Qd (g:=w.heap.size) (i:=0) w5 (.int .i64 k)).setCell (p:=⟨w.heap.size,1,none⟩) (.inl rfl) (.slice vo bb.length vc)
   have z0:=Qq hZ 0
   have z1:=Qq hZ 1
   simp at z0 z1
   refine bodyPost_ret (v:=.agg #[.int .i64 k,.slice vo bb.length vc]) (by simp [results,Tryz.results199,go_sem,z0,z1]) rfl ?_
   rw [hsp]
   have hFZ:Foot base w5 (·=w.heap.size):=by
    rintro b rfl
    exact ⟨by have:=hi4.at';omega,Qt hAY,fun cs fr e=>by rw [hAY] at e;simp at e⟩
   have kW1:Keep (·=g) w w1:=(HH.out.1.no (F:=(·=g))).trans HB.out.2.2.1 (fun x _ h=>h)
   have kAll:=(((kW1.trans (kA w1 (.cells #[.int .i64 k,.slice none 0 0] 61)) (fun x _ h=>h.elim)).trans k4 (fun x _ h=>h)).trans kE (fun x hx h=>by omega)).trans kZ (fun x hx h=>by omega)
   have hiZ:=hiY.keepF kZ hFZ (by omega)
   have ho4:=own4.lt
   simp at ho4
   exact ⟨_,rfl,(((own4.mono (by simp;omega)).keep kE (fun b hb=>by have:=ho4 b hb;omega)).keep kZ (fun b hb=>by have:=ho4 b hb;omega)),hiZ,kAll⟩
  ·rw [if_neg he] at hsp
   have hq:(s3.e==0)=false:=by simpa using he
   go_wp2_with fail
   have hZ:=Qz (i:=1) (u:=.slice none 0 0) (Qz (i:=0) (u:=.int .i64 0) hAY)
   have kZ:=(Qd (g:=w.heap.size) (i:=0) w5 (.int .i64 0)).setCell (p:=⟨w.heap.size,1,none⟩) (.inl rfl) (.slice none 0 0)
   have z0:=Qq hZ 0
   have z1:=Qq hZ 1
   simp at z0 z1
   refine bodyPost_ret (v:=.agg #[.int .i64 0,.slice none 0 0]) (by simp [results,Tryz.results199,go_sem,z0,z1]) rfl ?_
   rw [hsp]
   have hFZ:Foot base w5 (·=w.heap.size):=by
    rintro b rfl
    exact ⟨by have:=hi4.at';omega,Qt hAY,fun cs fr e=>by rw [hAY] at e;simp at e⟩
   have kW1:Keep (·=g) w w1:=(HH.out.1.no (F:=(·=g))).trans HB.out.2.2.1 (fun x _ h=>h)
   have kAll:=(((kW1.trans (kA w1 (.cells #[.int .i64 k,.slice none 0 0] 61)) (fun x _ h=>h.elim)).trans k4 (fun x _ h=>h)).trans kE (fun x hx h=>by omega)).trans kZ (fun x hx h=>by omega)
   have hiZ:=hiY.keepF kZ hFZ (by omega)
   exact ⟨_,rfl,OwnB.nil _ _,hiZ,kAll⟩
end Go.Proofs.YtfdmbomlkpkegaaGreat
