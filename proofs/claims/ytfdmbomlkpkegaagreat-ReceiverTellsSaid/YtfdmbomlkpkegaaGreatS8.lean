/- Lemmas. -/
import Derived.Test.YtfdmbomlkpkegaaGreatS2
import Derived.Deep.DeepCutAuto
import Derived.Deep.CutBlock
set_option maxRecDepth 100000
set_option maxHeartbeats 8000000
set_option linter.all false
set_option autoImplicit true
set_option relaxedAutoImplicit true
open Bool renaming false_eq_true->FH
open List renaming find?_cons->C5,mem_cons->C1,pairwise_cons->DE
open List.Pairwise renaming nil->DC
open Ne renaming symm->FG
open Option renaming some->AF
namespace Go.Proofs.YtfdmbomlkpkegaaGreat
section
open Go Go.RowKit Go.Dr
structure MP where
 dop:Int
 seg:Int
 p:Qs
 on:Bool
 keep:Int
 torn:Int
theorem Ie(m:Kk)(k:Int)(l:Qs):Uu (Na m k l) k=AF l:=by
 induction m with
 | nil=>simp[Na,Uu]
 | cons e m d =>
  simp only[Na]
  split
  ·simp[Uu]
  ·rename_i h;simp only[Uu,C5]at d⊢;have:(e.1==k)=false:=by simpa using h
   rw[this];exact d
theorem TB(h:Hg m)(d:f∈m):Uu m f.1=AF f.2:=by
 induction h with
 | nil=>cases d
 | @cons x m i k j =>
  rcases C1.1 d with rfl|d
  ·simp[Uu]
  ·have g:(x.1==f.1)=false:=by simpa using i f d
   have:=j d;simp only[Uu,C5,g]at this⊢;exact this
theorem Hg.nil:Hg []:=DC
theorem Hg.done(h:Hg m)(c:Qf):Hg (c.done m):=by
 unfold Qf.done
 split
 ·exact h.del _
 ·exact h.set _ _
theorem Hg.doneAll{m:Kk}(h:Hg m)(l:List Qf):Hg (doneAll l m):=by
 induction l generalizing m with
 | nil=>exact h
 | cons c l d=>exact d (h.done c)
theorem Um(l:List Qf)(c:Qf):Ri (l++[c])=Ri l+c.p.length:=by
 induction l with
 | nil=>simp[Ri]
 | cons x l d=>simp[Ri,d];omega
def M5 (c:Qf)(m:Kk):Prop:=if c.drop then(Uu m c.seg).isSome=true else(msum m:Int)+(c.p.length:Int)<=2000
def Yl (a:MP):Qf:=if a.dop=0 then⟨a.seg,a.p,false⟩else⟨a.seg,[],true⟩
structure St (d:Qr)(ds:List MP):Prop where
 room:d.room=2000
 full:d.full=false
 safe:d.safe=[]
 wait:d.wait=ds.map Yl
 now:d.now=doneAll d.wait []
 wlen:Ri d.wait<=ds.length*40
 dops:∀a∈ds,a.dop=0\/a.dop=3
 plen:∀a∈ds,a.p.length<=40
 valid:∀(j:Nat) c,d.wait[j]?=AF c->M5 c (doneAll (d.wait.take j) [])
end
section
open Go Go.RowKit
def Kd (m:Kk):Prop:=m.Pairwise (λa b=>a.1<b.1)
theorem Kd.keys(h:Kd m):Hg m:=h.imp (λ{a b} h=>by omega)
def Xa:Kk->Qf->Kk
 | [],c=>if c.drop then[]else[(c.seg,c.p)]
 | e::m,c =>
  if e.1<c.seg then e::Xa m c
  else if e.1=c.seg then(if c.drop then m else(c.seg,e.2++c.p)::m)
  else(if c.drop then e::m else(c.seg,c.p)::e::m)
def segs6 (l:List Qf):Kk:=l.foldl Xa []
theorem Gv(l:List Qf)(c:Qf):segs6 (l++[c])=Xa (segs6 l) c:=by simp[segs6]
theorem UP(h:e∈Xa m c):e.1=c.seg\/e∈m:=by
 induction m with
 | nil =>
  unfold Xa at h
  split at h
  ·cases h
  ·simp at h;exact .inl (by rw[h])
 | cons x m d =>
  unfold Xa at h
  split at h
  ·rcases C1.1 h with rfl|h
   ·exact .inr (by simp)
   ·rcases d h with h|h
    ·exact .inl h
    ·exact .inr (by simp[h])
  ·split at h
   ·split at h
    ·exact .inr (by simp[h])
    ·rcases C1.1 h with rfl|h
     ·exact .inl rfl
     ·exact .inr (by simp[h])
   ·split at h
    ·exact .inr h
    ·rcases C1.1 h with rfl|h
     ·exact .inl rfl
     ·exact .inr h
theorem YQ(h:Kd m)(c:Qf):Kd (Xa m c):=by
 induction m with
 | nil =>
  unfold Xa
  split
  ·exact DC
  ·exact List.pairwise_singleton _ _
 | cons x m n =>
  have f:=DE.1 h;unfold Xa
  split
  ·rename_i j;refine DE.2 ⟨λe d=>?_,n f.2⟩;rcases UP d with d|d
   ·omega
   ·exact f.1 e d
  ·rename_i i
   split
   ·rename_i g
    split
    ·exact f.2
    ·exact DE.2 ⟨λe d=>by have:=f.1 e d;simp only;omega,f.2⟩
   ·rename_i k
    split
    ·exact h
    ·refine DE.2 ⟨λe d=>?_,h⟩;simp only;rcases C1.1 d with rfl|d
     ·omega
     ·have:=f.1 e d;omega
theorem Ve(l:List Qf):Kd (segs6 l):=by
 unfold segs6
 suffices h:∀(l:List Qf) (m:Kk),Kd m->Kd (l.foldl Xa m)from h l [] DC
 intro l
 induction l with
 | nil=>intro m h;exact h
 | cons c l d=>intro m h;exact d _ (YQ h c)
theorem Zh(e:Int×Qs)(m:Kk)(k:Int):Uu (e::m) k=if e.1=k then AF e.2 else Uu m k:=by
 unfold Uu;rw[C5];by_cases h:e.1=k
 ·simp[h]
 ·have:(e.1==k)=false:=by simp[h]
  simp[this,h]
theorem N3(h:∀e∈m,k<e.1):Uu m k=none:=by
 induction m with
 | nil=>rfl
 | cons e m f =>
  have g:=h e (by simp);rw[Zh,if_neg (by omega),f (λe d=>h e (by simp[d]))]
theorem SK(h:Kd m)(c:Qf)(k:Int) :
  Uu (Xa m c) k=if k=c.seg then(if c.drop then none else AF ((Uu m k).getD []++c.p))else Uu m k:=by
 induction m with
 | nil =>
  unfold Xa;by_cases d:k=c.seg
  ·subst d;cases c.drop<;>simp[Uu]
  ·cases c.drop
   ·simp[Zh,d,FG d]
   ·simp[Uu,d]
 | cons x m z =>
  have i:=DE.1 h;have n:∀k,k<=x.1->Uu m k=none:=λk d=>N3 (λe q=>by have:=i.1 e q;omega);unfold Xa;by_cases j:x.1<c.seg
  ·rw[if_pos j,Zh,Zh,z i.2];by_cases d:k=c.seg
   ·subst d;have w:¬x.1=c.seg:=by omega
    simp[w]
   ·rw[if_neg d,if_neg d]
  ·rw[if_neg j];by_cases f:x.1=c.seg
   ·rw[if_pos f];by_cases d:k=c.seg
    ·subst d;cases g:c.drop
     ·simp[Zh,f]
     ·simp[n c.seg (by omega)]
    ·cases g:c.drop
     ·simp[Zh,f,d,FG d]
     ·simp[Zh,f,d,FG d]
   ·rw[if_neg f];by_cases d:k=c.seg
    ·subst d;have o:=n c.seg (by omega);cases g:c.drop
     ·simp[Zh,f,o]
     ·simp[Zh,f,o]
    ·cases g:c.drop
     ·simp[Zh,d,FG d]
     ·simp[d]
theorem Ad(h:k'≠k)(l:Qs):Uu (Na m k l) k'=Uu m k':=by
 induction m with
 | nil=>simp[Na,Zh,FG h]
 | cons e m f =>
  simp only[Na]
  split
  ·rename_i d;have d:e.1=k:=by simpa using d
   rw[Zh,Zh,if_neg (by simpa using FG h),if_neg (by rw[d];exact FG h)]
  ·rw[Zh,Zh,f]
theorem Q8(h:∀e∈m,e.1≠k):Uu m k=none:=by
 induction m with
 | nil=>rfl
 | cons e m f=>rw[Zh,if_neg (h e (by simp)),f (λe d=>h e (by simp[d]))]
theorem TE(h:Hg m)(k k':Int):Uu (Cx m k) k'=if k'=k then none else Uu m k':=by
 induction m with
 | nil=>simp[Cx,Uu]
 | cons e m j =>
  have g:=DE.1 h;simp only[Cx]
  split
  ·rename_i d;have d:e.1=k:=by simpa using d
   by_cases f:k'=k
   ·rw[if_pos f];exact Q8 (λx i=>by have:=g.1 x i;rw[f,<- d];exact FG this)
   ·rw[if_neg f,Zh,if_neg (by rw[d];exact FG f)]
  ·rename_i d;have d:e.1≠k:=by simpa using d
   rw[Zh,j g.2,Zh];by_cases f:k'=k
   ·simp[f,d]
   ·rw[if_neg f,if_neg f]
theorem TZ(h:Hg m)(c:Qf)(k:Int) :
  Uu (c.done m) k=if k=c.seg then(if c.drop then none else AF ((Uu m k).getD []++c.p))else Uu m k:=by
 unfold Qf.done;cases f:c.drop
 ·simp only[FH,if_false];by_cases d:k=c.seg
  ·rw[if_pos d,d,Ie]
  ·rw[if_neg d,Ad d]
 ·simp only[if_true];rw[TE h]
def Jf (a b:Kk):Prop:=∀k,Uu a k=Uu b k
theorem Jf.step(h:Jf a b)(d:Kd a)(f:Hg b)(c:Qf):Jf (Xa a c) (c.done b):=λk=>by
 rw[SK d,TZ f,h k]
theorem JS(m:Kk)(k k':Int):Uu (m.filter (λe=>e.1 != k)) k'=if k'=k then none else Uu m k':=by
 induction m with
 | nil=>simp[Uu]
 | cons e m g =>
  rw[List.filter_cons];by_cases f:e.1=k
  ·have:(e.1 != k)=false:=by simp[f]
   rw[this];simp only[FH,if_false];rw[g,Zh];by_cases d:k'=k
   ·simp[d]
   ·rw[if_neg d,if_neg d,if_neg (by rw[f];exact FG d)]
  ·have:(e.1 != k)=true:=by simp[f]
   rw[this];simp only[if_true];rw[Zh,g,Zh];by_cases d:k'=k
   ·simp[d,f]
   ·rw[if_neg d,if_neg d]
theorem JR(h:Uu m k=AF l):(k,l)∈m:=by
 induction m with
 | nil=>simp[Uu]at h
 | cons e m f =>
  rw[Zh]at h
  split at h
  ·rename_i d;simp at h;exact C1.2 (.inl (by rw[<- d,<- h]))
  ·exact C1.2 (.inr (f h))
theorem Jf.sum:∀{b:Kk},Hg a->Hg b->Jf a b->msum a=msum b:=by
 induction a with
 | nil =>
  intro b _ f h;cases b with
  | nil=>rfl
  | cons e b=>have:=h e.1;rw[Zh,if_pos rfl]at this;cases this
 | cons e a n =>
  intro b i f h;have g:=DE.1 i;have j:Uu b e.1=AF e.2:=by rw[<- h e.1,Zh,if_pos rfl]
  rw[El f (JR j),<- n g.2 (f.filter _) (λk=>?_)]
  ·rfl
  ·rw[JS];by_cases d:k=e.1
   ·rw[if_pos d];exact Q8 (λx m=>by rw[d];exact FG (g.1 x m))
   ·rw[if_neg d,<- h k,Zh,if_neg (FG d)]
end
section
open Go Go.RowKit Go.Dr
theorem Qo.foot_kind[bn:Ib](h:Qo base w p n s wv d)(i:foot p n s wv b)(f:w.heap[b]?=AF (.cells cs t fr)) :
  t=135\/t=137:=by
 rcases i with rfl|rfl|rfl|i
 ·rw[h.blk]at f;simp at f;exact .inl f.2.1.symm
 ·obtain⟨_,_,g⟩:=h.now.kind;rw[g]at f;cases f
 ·obtain⟨_,_,g⟩:=h.safe.kind;rw[g]at f;cases f
 ·obtain⟨_,j,g⟩:=h.wait.kind b i;rw[g]at f;simp at f;exact .inr f.2.1.symm
end
end Go.Proofs.YtfdmbomlkpkegaaGreat
