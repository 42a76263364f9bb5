/- Lemmas. -/
import Derived.RangeFuncNested
import Derived.RangeFuncBound
import Derived.RangeFuncCalls
import Derived.RangeFuncLeaves
import Derived.Shelf.Abstract
import Derived.Shelf.RegionOpen
import Derived.OwnWalkIn
import Derived.TacticsInMore
import Derived.LoopNIn
import Derived.LoopIn
import Derived.Shelf.AbstractIn
import Derived.RegionIn
import Derived.Sort.MapsRangeIn
import Derived.Test.YtfdmbomlkpkegaaGreatS16
import Derived.RangeFuncBox
import Derived.Maps.AppendAt
set_option maxRecDepth 100000
set_option maxHeartbeats 8000000
set_option linter.all false
set_option autoImplicit true
set_option relaxedAutoImplicit true
open Array renaming replicate_succ->LQ,replicate_zero->LR
open Go renaming Calls->DJ,MapEntry->C2,World->AC,leftOf->CZ,undef->LW
open Go.ChangeMaps renaming setBlock->D4
open Go.Fence renaming wide->LM
open Go.Instr renaming next->CY,range->CV
open Go.Lib renaming hid->BX
open Go.Value renaming int->DA
open List renaming append_toArray->LU,cons_append->DD,eq_nil_of_length_eq_zero->BJ,filter_map->D2,filter_sublist->LL,getElem?_map->CK,length_cons->AT,length_map->D6,length_nil->LN,map_fst_zip->D0,map_map->LI,map_snd_zip->CX,mem_filter->LJ,mergeSort_perm->I5,nil_append->LV,nodup_iff_pairwise_ne->LK,pairwise_map->CN,push_toArray->LS,size_toArray->E1
open Nat renaming le_refl->BE,ne_of_lt->D5,reduceAdd->LO,reduceSub->LP
open Option renaming none->AI,some->AF
namespace Go.Proofs.YtfdmbomlkpkegaaGreat
section
open Go Go.RowKit Go.Shelf
attribute [local go_sem] Oper.semAt_some
structure Kf (es:List C2)(clock:Nat)(ks:List Int):Prop where
 keys:es.map (·.key)=ks.map (.int .u64 ·)
 born:es.Pairwise (λa b=>a.born<b.born)
 clock:∀e∈es,e.born<clock
 nodup:ks.Nodup
theorem Xm.keyEnts[bn:Ib]{base:Nat}{w:AC}{r:Nat}{m:Kk}(h:Xm base w r m):∃es clock,w.heap[r]?=AF (.map es clock)/\Kf es.toList clock (m.map (·.1)):=by
 obtain⟨es,clock,i,d⟩:=h;refine⟨es,clock,i,?_,d.born,d.clock,d.keys.nodup⟩;have f:es.toList=(es.toList.zip m).map (·.1):=(D0 (by rw[d.len];exact BE _)).symm;have g:m=(es.toList.zip m).map (·.2):=(CX (by rw[d.len];exact BE _)).symm
 conv=>lhs;rw[f]
 conv=>rhs;rw[g]
 rw[LI,LI,LI];exact List.map_congr_left (λp j=>(d.all p j).1)
structure Rj (w:AC)(it r:Nat)(ks left:List Int):Prop where
 ex:∃es clock seen,w.heap[it]?=AF (.mapIter (AF r) clock seen clock)/\w.heap[r]?=AF (.map es clock)/\Kf es.toList clock ks /\
  left=((es.toList.zip ks).filter (λp=>!seen.contains p.1.born)).map (·.2)
theorem Kf.len{clock:Nat}(h:Kf es clock ks):es.length=ks.length:=by have:=congrArg List.length h.keys;simpa using this
theorem Kf.at_{clock:Nat}(h:Kf es clock ks)(f:p∈es.zip ks):p.1.key=.int .u64 p.2:=by
 obtain⟨i,hi⟩:=List.mem_iff_getElem?.1 f;rw[List.getElem?_zip_eq_some]at hi;have d:(es.map (·.key))[i]?=AF p.1.key:=by rw[CK,hi.1];rfl
 rw[h.keys,CK,hi.2]at d;simpa using d.symm
theorem US(d:w.heap[r]?=AF (.map es clock))(f:Kf es.toList clock ks) :
  (CV 131 (.map (AF r))).run Tryz.prog w=.ok (.pointer (AF ⟨w.heap.size,0,AI⟩)) (w.alloc (.mapIter (AF r) clock #[] clock))/\Rj (w.alloc (.mapIter (AF r) clock #[] clock)) w.heap.size r ks ks:=by
 have g:Xy No w (w.alloc (.mapIter (AF r) clock #[] clock)):=(Xy.refl _ w).alloc _;refine⟨?_,⟨es,clock,#[],Qy w _,g.heap d id,f,?_⟩⟩
 ·simp[CV,run_underlying Tryz.underlying131,MapKept.run_getObj_map d,newObj,Sem.run,Result.andThen]
 ·have e:(es.toList.zip ks).filter (λp=>!(#[]:Array Nat).contains p.1.born)=es.toList.zip ks:=List.filter_eq_self.2 (λp _=>by simp);rw[e];exact(CX (by rw[f.len];exact BE _)).symm
theorem Rj.num(h:Rj w d r ks left):He w d=left.length:=by
 obtain⟨es,clock,seen,hi,i,j,k⟩:=h.ex;have e:es.toList=(es.toList.zip ks).map (·.1):=(D0 (by rw[j.len];exact BE _)).symm;have f:(CZ es seen).toList=es.toList.filter (λe=>!seen.contains e.born):=by simp[CZ]
 have g:(CZ es seen).size=left.length:=by
  rw[<- Array.length_toList,f,k,D6]
  conv=>lhs;rw[e]
  rw[D2,D6];rfl
 simp only[He,hi,i,g]
theorem RP{w:AC}{d r:Nat}{ks left:List Int}(h:Rj w d r ks left)(O:TypeId) :
  (left=[]/\(CY (.pointer (AF ⟨d,0,AI⟩)) false O).run Tryz.prog w=.ok (.tuple #[.bool false]) w) \/
  ∃k∈left,∃v H,(CY (.pointer (AF ⟨d,0,AI⟩)) false O).run Tryz.prog w=.ok (.tuple #[.bool true,.int .u64 k,v]) H /\
   (Instr.entry (.pointer (AF ⟨d,0,AI⟩))).run Tryz.prog H=.ok (.tuple #[.int .u64 k,v]) H /\
   Rj H d r ks (left.filter (λx=>x != k))/\Xy (·=d) w H:=by
 obtain⟨es,clock,seen,hi,J,j,M⟩:=h.ex;have E:r≠d:=by rintro rfl;rw[hi]at J;cases J
 have i:(CZ es seen).toList=((es.toList.zip ks).filter (λp=>!seen.contains p.1.born)).map (·.1):=by
  have e:es.toList=(es.toList.zip ks).map (·.1):=(D0 (by rw[j.len];exact BE _)).symm;have:(CZ es seen).toList=es.toList.filter (λe=>!seen.contains e.born):=by simp[CZ]
  rw[this]
  conv=>lhs;rw[e]
  rw[D2];rfl
 rcases run_next_at (P:=Tryz.prog) w O d r clock clock seen es clock hi J j.clock (BE _)with⟨U,g⟩|⟨e,B,K,G,g⟩
 ·left;refine⟨?_,g⟩;have:(CZ es seen).toList=[]:=BJ (by simpa using U);rw[i]at this;rw[M,List.map_eq_nil_iff.1 this];rfl
 ·right;rw[i]at B;obtain⟨p,R,rfl⟩:=List.mem_map.1 B;obtain⟨m,W⟩:=LJ.1 R;have D:=j.at_ m;have Q:Xy (·=d) w (D4 K d (.mapIter (AF r) clock (seen.push p.1.born) clock)):=by
   rcases G with rfl|rfl
   ·exact Xy.setObj (F:=(·=d)) (Xy.refl _ K) (r:=d) (.inl rfl) _
   ·exact Xy.setObj (F:=(·=d)) (Xy.drew (Xy.refl _ w)) (r:=d) (.inl rfl) _
  have L:d<K.heap.size:=by rcases G with rfl|rfl<;>exact Qt hi
  have C:(D4 K d (.mapIter (AF r) clock (seen.push p.1.born) clock)).heap[d]?=AF (.mapIter (AF r) clock (seen.push p.1.born) clock):=by simp[D4,L]
  have A:=Q.heap J E;have N:(es.toList.map (λe:C2=>e.born)).Nodup:=by rw[LK,CN];exact j.born.imp (λh=>D5 h)
  rw[D]at g;refine⟨p.2,by rw[M];exact List.mem_map_of_mem R,p.1.val,_,g,?_,⟨es,clock,seen.push p.1.born,C,A,j,?_⟩,Q⟩
  ·rw[run_entry_at _ d r clock seen es clock p.1 C A (List.of_mem_zip (a:=p.1) (b:=p.2) m).1 N,D]
  ·rw[M,D2];congr 1;rw[List.filter_filter];apply List.filter_congr;intro q T;have o:(es.toList.zip ks).Pairwise (λa b=>a.1.born≠b.1.born):=by have:=j.born.imp (S:=λa b:C2=>a.born≠b.born) (λh=>D5 h);have e:es.toList=(es.toList.zip ks).map (·.1):=(D0 (by rw[j.len];exact BE _)).symm;rw[e,CN]at this;exact this
   have z:(es.toList.zip ks).Pairwise (λa b=>a.2≠b.2):=by have:=j.nodup;have e:ks=(es.toList.zip ks).map (·.2):=(CX (by rw[j.len];exact BE _)).symm;rw[e,LK,CN]at this;exact this
   have n:q.1.born=p.1.born↔q.2=p.2:=by
    constructor
    ·intro h;rw[Mj (f:=λa:C2×Int=>a.1.born) o q T p m h]
    ·intro h;rw[Mj (f:=λa:C2×Int=>a.2) z q T p m h]
   by_cases I:q.1.born=p.1.born
   ·simp[I,n.1 I]
   ·have V:¬q.2=p.2:=λh=>I (n.2 h);simp[I,V]
theorem Rj.walks(h:Rj w d r ks left)(k:KeepsWalks w f):Rj f d r ks left:=by obtain⟨es,clock,seen,hi,g,i,j⟩:=h.ex;exact⟨es,clock,seen,k.same _ _ hi rfl,k.same _ _ g rfl,i,j⟩
theorem Xy.grownIt{w f:AC}{d:Nat}(k:Xy (·=d) w f):w.grownBy f (AF d) :=
 ⟨k.os,k.tape,k.output,k.size,λb g h=>k.block b g (λe=>h (by rw[e]))⟩
theorem Ab{k:Int}(f:k∈left)(d:left.Nodup):(k::left.filter (λx=>x != k)).Perm left:=by
 refine(List.perm_ext_iff_of_nodup ?_ d).2 (λx=>?_)
 ·exact List.nodup_cons.2 ⟨by simp,d.sublist LL⟩
 ·simp only[List.mem_cons,LJ,bne_iff_ne];constructor
  ·rintro(rfl|h)
   ·exact f
   ·exact h.1
  ·intro h;by_cases e:x=k
   ·exact .inl e
   ·exact .inr ⟨h,e⟩
end
section
open Go Go.RowKit Go.Shelf Go.Maps
attribute [local go_sem] Oper.semAt_some
theorem XV(n:Nat)(hn:1<=n){w:AC}{Bm r:Nat}{es:Array C2}{clock:Nat}{ks:List Int}(P:w.heap[r]?=AF (.map es clock))(Z:Kf es.toList clock ks)(L:Bm<w.heap.size)(hm:w.cell? ⟨Bm,0,AI⟩=AF (.map (AF r))) :
  SeqStops LM n Tryz.prog 184 #[.pointer (AF ⟨Bm,0,AI⟩)] (λx:Int=>.int .u64 x) (λss=>ss.Perm ks) (λ_=>True) ks.length w:=by
 intro l J Jx W O M _ Y X;have S:r<w.heap.size:=Qt P;have Q:W.heap[r]?=AF (.map es clock):=(O.block r S).trans P;have aC:W.cell? ⟨Bm,0,AI⟩=AF (.map (AF r)):=(O.cell (p:=⟨Bm,0,AI⟩) L).trans hm;obtain⟨g,q⟩:=US Q Z;have A:J [] (W.alloc (.mapIter (AF r) clock #[] clock)):=M [] W _ AI X (World.grownBy_alloc W _ AI) (λr e=>by cases e);have V:=BX (A2 M Y);clear M Y O X P hm;refine callsIn_of_wp Tryz.func184 rfl trivial ?_ rfl;simp only[Tryz.ntmps184,E1,AT,LN,LO,LP,LQ,LR,LS,LU,LV,DD]
 gi_wp2
 gi_loopw [3] (λ_ wr=>∃(left ss:List Int),Rj wr W.heap.size r ks left/\left.Nodup/\(ss++left).Perm ks/\J ss wr) (λ_ wr=>He wr W.heap.size)
 case atStart=>exact⟨ks,[],q,Z.nodup,by simp,A⟩
 case round =>
  clear q A g;obtain⟨left,ss,m,j,d,i⟩:=hrel;have F:ss.length+left.length=ks.length:=by rw[<- List.length_append];exact d.length_eq
  rcases RP m 0 with⟨rfl,g⟩|⟨k,R,v,U,g,aA,z,f⟩
  ·have h:=BX (A2 d i);clear m j d i
   gi_wp2
   go_end0
   exact⟨⟨_,rfl⟩,.inl ⟨ss,by simpa using h.out.1,h.out.2⟩⟩
  ·have D:∃o:Obj,wr.heap[W.heap.size]?=AF o/\o.isWalk=true:=by obtain⟨aB,c',T,K,_⟩:=m.ex;exact⟨_,K,rfl⟩
   have B:J ss U:=V.out.1 ss wr U (AF W.heap.size) i f.grownIt (λr e=>by cases e;exact⟨BE _,D⟩);have I:0<left.length:=List.length_pos_of_mem R;obtain⟨fn,tmps,assign,body,hy,hR⟩:=V.out.2 ss k U B (by omega);have H:=Ab R j;have G:=m.num;have h:=BX (A5 z (j.sublist (LL (p:=λx=>x != k))) H d G);clear m j d i z f D B H G F I R
   gi_wp2
   refine hR.mono ?_;rintro e W3 (⟨rfl,N,E⟩|⟨rfl,C⟩)
   ·gi_wp2
    go_roundw;case rel =>refine⟨left.filter (λx=>x != k),ss++[k],h.out.1.walks E,h.out.2.1,?_,N⟩;rw[List.append_assoc];exact(List.Perm.append_left ss h.out.qc).trans h.out.qd
    case measure =>have K:=h.out.2.2.1.length_eq;rw[(h.out.1.walks E).num,h.out.re];simp only[AT]at K;omega
   ·gi_wp2
    refine bodyPost_ret (results_none rfl _ _ _) rfl ?_;exact⟨⟨_,rfl⟩,.inr ⟨ss++[k],trivial,C⟩⟩
theorem RK(n:Nat)(mb:Option Nat)(w:AC) :
  Go.CallsIn LM n Tryz.prog 129 #[.map mb] w λe d=>e=.returned (.func (.func 184) #[] #[.pointer (AF ⟨w.heap.size,0,AI⟩)])/\d=w.alloc (.cells #[.map mb] 131):=by
 refine callsIn_of_wp Tryz.func129 rfl trivial ?_ rfl;simp only[Tryz.ntmps129,E1,AT,LN,LO,LP,LQ,LR,LS,LU,LV,DD]
 gi_wp2
 go_ret;exact⟨rfl,rfl⟩
end
section
open Go Go.RowKit Go.Shelf Go.Sort
attribute [local go_sem] Oper.semAt_some
theorem TM:(Tryz.prog.info? 27).map (λi=>(i.zero,i.size,i.bytes))=AF (AF (.int .u64 0),1,8):=by kernel_rfl
theorem KeepsOthers.walks(h:KeepsOthers W d):KeepsWalks W d :=
 ⟨h.size,λk o f g=>h.same k o f (by cases o<;>simp_all [Obj.isWalk,Obj.isCells])⟩
theorem YP(n:Nat)(hn:3<=n){w:AC}{Bm r:Nat}{es:Array C2}{clock:Nat}{ks:List Int}(Q:w.heap[r]?=AF (.map es clock))(U:Kf es.toList clock ks)(B:Bm<w.heap.size)(Y:w.cell? ⟨Bm,0,AI⟩=AF (.map (AF r)))(M:ks.length<=1099511627776) :
  Go.CallsIn LM n Tryz.prog 210 #[.slice AI 0 0,.func (.func 184) #[] #[.pointer (AF ⟨Bm,0,AI⟩)]] w λe J=>∃v,∃ss:List Int,e=.returned v/\ss.Perm ks /\
   J.ownsRow w.heap.size 27 1 v ss.length (ss.map (.int .u64 ·))/\(v=.slice AI 0 0↔ss=[])/\Below w.heap.size w J:=by
 have O:1<=n:=by omega
 obtain⟨i0,hi,G,H,I⟩:=info_parts TM;have N:=Boxed.new w 52 (.slice AI 0 0);have m:Below w.heap.size w (w.alloc (.cells #[.slice AI 0 0] 52)):=(Below.refl _ w).alloc (BE _) _;have q:=XV (n-1) (by omega) Q U B Y;have Z:(ks.length:Nat)<=maxLen:=by unfold maxLen;omega
 have R:ks.length*8<=140737488355328:=by omega
 refine callsIn_of_wp_marks Tryz.func210 rfl trivial ?_ rfl;simp only[Tryz.ntmps210,E1,AT,LN,LO,LP,LQ,LR,LS,LU,LV,DD]
 gi_wp2
 refine wpIn_rangeFunc_ownF rfl O (gf:=184) (lb:=#[.pointer (AF ⟨Bm,0,AI⟩)]) rfl trivial (enters_of Tryz.func184 (by kernel_rfl) rfl)
  q walksK_t walksK_b m (λ_=>rfl)
  (λpre W=>(∃v,Boxed W w.heap.size 52 v/\W.ownsRow w.heap.size 27 1 v pre.length (pre.map (DA .u64 ·))/\(v=.slice AI 0 0↔pre=[]))/\Below w.heap.size w W)
  (λ_ _ _=>False)
  (OwnFrom.and (Own.from (holdsRow_own w.heap.size w.heap.size 52 27 1 (λpre:List Int=>pre.length) (λpre=>pre.map (DA .u64 ·)) (λpre v=>v=.slice AI 0 0↔pre=[])) _) (ownFrom_below (BE _) (by simp)))
  (λ_ _ _ _ _ hs _ _=>hs)
  ⟨⟨_,N,World.ownsRow_nil _ _ _ _,by simp⟩,m⟩
  (λx=>{tmps:=#[.slice AI 0 0,.func (.func 184) #[] #[.pointer (AF ⟨Bm,0,AI⟩)],.pointer (AF ⟨w.heap.size,0,AI⟩),LW,.slice AI 0 0,.int .u64 x,.func (.func 184) #[] #[.pointer (AF ⟨Bm,0,AI⟩)],.int .u64 x,LW,LW,LW,LW,LW],defers:=[]}) ?assign ?body ?done ?stop
 case assign =>
  intro l x W K o
  gi_wp2
  exact o
 case body =>
  rintro l pre x W⟨⟨v,A,d,g⟩,k⟩X;have S:=A.cell
  gi_wp2_with (gi_at_builtin;refine wpListIn_append_own _ rfl _ _ 52 rfl w.heap.size 27 i0 (.int .u64 0) 1 8 Tryz.underlying52 hi G H I rfl (by decide) _ _ _ rfl (d.alloc _) ⟨W.heap.size,0,AI⟩ 1 1 [.int .u64 x] rfl rfl (cell_one_new _ _ _) (by simp[Value.oneCell']) (by omega) (by omega) (by have:=k.size;simp;omega) ?_;intro v' w1 f i _;obtain⟨g',L,rfl⟩:=ownsRow_succ f;obtain⟨z,F,E,p,C⟩:=A.appended (by decide) d k.size (BE _) f i;have T:=z.cell;have V:=z.frozen)
  exact⟨p,KeepsOthers.walks p,⟨_,F,by simpa using E,by simp⟩,k.trans C⟩
 case done =>
  rintro D ys W P j⟨⟨v,A,d,g⟩,k⟩o;have S:=A.cell
  gi_wp2
  refine⟨by simp,.inl ⟨_,_,rfl,run_takeDeferred o,?_⟩⟩;exact⟨_,results_tmp rfl _ _ _,v,ys,rfl,j,ownsRow_putObj d _ o rfl,g,k.trans (belowK_b (w:=w) (BE _) W D _ _ (by simp at P;omega) o rfl rfl)⟩
 case stop =>rintro D c pre W _ _ h _;exact h.elim
theorem N1(w:AC):DJ Tryz.prog 217 #[.slice AI 0 0,.int .i64 0,.int .i64 0] w λe f=>e=.returned (.tuple #[])/\f=w:=by
 go_enter Tryz.func217,Tryz.ntmps217;go_wp2;go_loopw [6] (λd wr=>d=.int .i64 1/\wr=w) (λ_ _=>0);case atStart=>exact⟨rfl,rfl⟩
 case round =>
  obtain⟨rfl,rfl⟩:=hrel;go_wp2
  go_end0
  exact⟨rfl,rfl⟩
theorem N5(w:AC):DJ Tryz.prog 211 #[.slice AI 0 0,.int .i64 0,.int .i64 0,.int .i64 0] w λe g=>e=.returned (.tuple #[])/\g=w:=by
 go_enter Tryz.func211,Tryz.ntmps211;go_wp2;go_loopw [1,2,3,8,9] (λd f _ _ _ wr=>d=.int .i64 0/\f=.int .i64 0/\wr=w) (λ_ _ _ _ _ _=>0);case atStart=>exact⟨rfl,rfl,rfl⟩
 case round =>obtain⟨rfl,rfl,rfl⟩:=hrel;go_wp2_with(go_at_call 217;refine(N1 _).mono ?_;rintro e h ⟨rfl,rfl⟩);refine bodyPost_ret (results_none rfl _ _ _) rfl ?_;exact⟨rfl,rfl⟩
theorem NG(w:AC):DJ Tryz.prog 183 #[.slice AI 0 0] w λe d=>e=.returned (.tuple #[])/\d=w:=by
 have f:∀w,DJ Tryz.prog 212 #[.int .u64 0] w λe d=>e=.returned (.int .i64 0)/\d=w:=λw=>by
  have:=An 0 (by decide) (by decide) w;exact this
 go_enter Tryz.func183,Tryz.ntmps183;go_wp2_with(first
  | (go_at_call 212;refine(f _).mono ?_;rintro e g ⟨rfl,rfl⟩)
  | (go_at_call 211;refine(N5 _).mono ?_;rintro e h ⟨rfl,rfl⟩))
 go_end0
 exact⟨rfl,rfl⟩
theorem SV{w:AC}{g cap:Nat}{d:Array Int}(h:Zj w g 0 d)(f:Hid (d.size<65536)) :
  DJ Tryz.prog 183 #[.slice (AF ⟨g,0,AI⟩) d.size cap] w λe i=>e=.returned (.tuple #[])/\∃d',PermIn 0 d.size d d'/\SortedIn ltInt 0 d.size d'/\Zj i g 0 d'/\Xy (·=g) w i:=by
 have k:∀w,DJ Tryz.prog 212 #[.int .u64 d.size] w λe i=>e=.returned (.int .i64 (bitsLen d.size))/\i=w:=λw=>by
  have:=An (d.size:Int) (by omega) (by have:=f.out;omega) w;simpa using this
 have j:bitsLen d.size<=1000:=Nat.le_trans ((bitsLen_le_iff d.size 17).2 (by have:=f.out;omega)) (by decide);have m:=T7 (g:=g) (off:=0) (cap:=cap) d.size w d 0 d.size (bitsLen d.size) (by omega) h (Nat.zero_le _) (BE _) f j (Or.inl rfl);have o:(d.size:Int)<=1099511627776:=by have:=f.out;omega
 clear j h;go_enter Tryz.func183,Tryz.ntmps183;go_wp2_with(first
  | (go_at_call 212;refine(k _).mono ?_;rintro e p ⟨rfl,rfl⟩)
  | (go_at_call 211;refine m.mono ?_;rintro e q ⟨rfl,n⟩))
 go_end0
 exact⟨rfl,n⟩
theorem Aa{a b:List Int}(h:a.Perm b):a.mergeSort (λx y=>decide (x<=y))=b.mergeSort (λx y=>decide (x<=y)):=by
 have g:∀l:List Int,(l.mergeSort (λx y=>decide (x<=y))).Pairwise (λx y=>x<=y):=λl=>by
  have:=List.pairwise_mergeSort (le:=λx y:Int=>decide (x<=y)) (λx y z d f=>by simp at d f⊢;omega) (λx y=>by simp;omega) l;exact this.imp (λh=>by simpa using h)
 exact(((I5 a _).trans h).trans (I5 b _).symm).eq_of_pairwise (le:=λx y=>x<=y) (λx y _ _ d f=>Int.le_antisymm d f) (g a) (g b)
theorem J8(g:PermIn 0 d.size d d')(i:SortedIn ltInt 0 d.size d'):d'.toList=d.toList.mergeSort (λx y=>decide (x<=y)):=by
 have:=sorted_unique_holds swo_ltInt (λx y j k=>by simp[ltInt]at j k;omega) d d' g i;rw[this];congr 1
 funext x y
 simp only[ltInt];by_cases h:y<x
 ·have f:¬x<=y:=by omega
  simp[h,f]
 ·have f:x<=y:=by omega
  simp[h,f]
theorem Below.keepNo(h:Go.RowKit.Below w.heap.size w d):Xy No w d:=⟨h.os,h.tape,h.output,h.size,λb f _=>h.block b f⟩
theorem ZE{w:AC}{Bm r:Nat}{es:Array C2}{clock:Nat}{ks:List Int}(i:w.heap[r]?=AF (.map es clock))(q:Kf es.toList clock ks)(f:Bm<w.heap.size)(j:w.cell? ⟨Bm,0,AI⟩=AF (.map (AF r)))(d:ks.length<=1099511627776) :
  DJ Tryz.prog 182 #[.func (.func 184) #[] #[.pointer (AF ⟨Bm,0,AI⟩)]] w λe h=>∃v,∃ss:List Int,e=.returned v/\ss.Perm ks /\
   h.ownsRow w.heap.size 27 1 v ss.length (ss.map (.int .u64 ·))/\(v=.slice AI 0 0↔ss=[])/\Xy No w h:=by
 have g:=(callsIn_wide (n:=6)).1 (YP 6 (by omega) i q f j d);clear i j;go_enter Tryz.func182,Tryz.ntmps182;go_wp2_with(go_at_call 210;refine g.mono ?_;rintro e z ⟨v,ss,rfl,k,m,o,p⟩);go_ret;exact⟨v,ss,rfl,k,m,o,Below.keepNo p⟩
theorem J9(Q:w.heap[r]?=AF (.map es clock))(R:Kf es.toList clock ks)(C:Bm<w.heap.size)(V:w.cell? ⟨Bm,0,AI⟩=AF (.map (AF r)))(k:Hid (ks.length<65536)) :
  DJ Tryz.prog 128 #[.func (.func 184) #[] #[.pointer (AF ⟨Bm,0,AI⟩)]] w λe K=>∃v,e=.returned v/\Kh K v (ks.mergeSort (λx y=>decide (x<=y)))/\Xy No w K:=by
 have n:=ZE Q R C V (by have:=k.out;omega);clear Q V R;go_enter Tryz.func128,Tryz.ntmps128;go_wp2_with(go_at_call 182;refine n.mono ?_;rintro e w1 ⟨v,ss,rfl,f,i,p,U⟩);have h:=f.length_eq;rcases i.2 with⟨rfl,X⟩|⟨g,cap,m,rfl,E,S,M,N,Y,O⟩
 ·have J:ss=[]:=BJ X;subst J;have H:ks=[]:=by simpa using f.symm.eq_nil
  subst H;go_wp2_with(go_at_call 183;refine(NG _).mono ?_;rintro e w2 ⟨rfl,rfl⟩);go_ret;exact⟨_,rfl,⟨AI,0,by simp,by simp,by decide,.inl (by simp)⟩,U⟩
 ·have P:Zj w1 g 0 ss.toArray:=by
   refine⟨m,S,λj T=>?_⟩;have F:j<ss.length:=by simpa using T
   have L:(m.toList.take (ss.length*1))[j]?=(ss.map (DA .u64 ·))[j]?:=by rw[O]
   rw[List.getElem?_take,if_pos (by omega),CK,Array.getElem?_toList]at L;rw[Nat.zero_add,L,List.getElem?_eq_getElem F];have W:ss.toArray[j]! = ss[j]:=by rw[getElem!_pos ss.toArray j T];simp
   rw[W];rfl
  have z:=SV (cap:=cap) P (by have:=k.out;exact BX (by simp;omega));have A:ss.toArray.size=ss.length:=by simp
  rw[A]at z;have B:=BX (A4 f h M N);clear P i M N Y O S p n f h A;go_wp2_with(go_at_call 183;refine z.mono ?_;rintro e w2 ⟨rfl,d',Z,hs,D,G⟩);go_ret;have q:=J8 (d:=ss.toArray) (by simpa using Z) (by simpa using hs);have I:ks.mergeSort (λx y=>decide (x<=y))=d'.toList:=by rw[q,<- Aa B.out.1]
  have o:d'.toList.length=ss.length:=by rw[q,(I5 _ _).length_eq]
  rw[I];refine⟨.slice (AF ⟨g,0,AI⟩) ss.length cap,rfl,⟨AF ⟨g,0,AI⟩,cap,by rw[o],by rw[o];exact B.out.qc,B.out.2.2.2,.inr ⟨g,rfl,by simpa using D⟩⟩,U.absorb G (λb e=>by rw[e];exact E)⟩
theorem V2[bn:Ib](h:Qo base w p n s wv d)(B:d.now.length<=10000) :
  DJ Tryz.prog 83 #[.pointer (AF ⟨p,0,AI⟩)] w λe m=>∃v,e=.returned v/\Kh m v (Yk d.now)/\Xy No w m:=by
 have q:=Qq h.blk 2;simp at q;obtain⟨es,clock,j,k⟩:=h.now.keyEnts;have i:Xy No w (w.alloc (.cells #[.map (AF n)] 131)):=(Xy.refl _ _).alloc _;have f:=(callsIn_wide (n:=6)).1 (RK 6 (AF n) w);have g:=J9 (w:=w.alloc (.cells #[.map (AF n)] 131)) (Bm:=w.heap.size) (i.heap j id) k (by simp) (by simp) (BX (by simp;omega));have o:=BX i;clear j k i h;go_enter Tryz.func83,Tryz.ntmps83;go_wp2_with(first
  | (go_at_call 129;refine f.mono ?_;rintro e C ⟨rfl,rfl⟩)
  | (go_at_call 128;refine g.mono ?_;rintro e D ⟨v,rfl,z,A⟩))
 go_ret;exact⟨v,rfl,z,o.out.then A⟩
end
end Go.Proofs.YtfdmbomlkpkegaaGreat
