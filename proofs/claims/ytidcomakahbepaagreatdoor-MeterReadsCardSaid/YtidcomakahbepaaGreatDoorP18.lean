/- P18: a part of the proof: the rules, or what functions compute. Conditions: as each theorem says. -/
import Derived.Test.YtidcomakahbepaaGreatDoorP17
import Derived.Test.YtidcomakahbepaaGreatDoorP15
import Derived.Test.YtidcomakahbepaaGreatDoorP11
set_option linter.unusedSimpArgs false
set_option linter.unusedVariables false
set_option maxRecDepth 20000
namespace Go.Ai
open Go.Proofs
def Gl.zero:Gl:=⟨[],0,0,0,0,0,[],[]⟩
open Go.Proofs
theorem cu_len (a:Array Int): ∀m,(Lib.compactUpTo a m).length≤m
 |0=>by simp [Lib.compactUpTo]
 |m+1=>by
  rw [Lib.compactUpTo_succ]
  have:=cu_len a m
  split<;>simp<;>omega
theorem winP_len (x:Gl):(winP x).length≤2*x.ru.length+1:=by
 have e:winP x=Lib.compactUpTo (sortI (allW x)).toArray (sortI (allW x)).length:=rfl
 have h1:=cu_len (sortI (allW x)).toArray (sortI (allW x)).length
 have h2:(sortI (allW x)).length=(allW x).length:=(List.mergeSort_perm _ _).length_eq
 have h3:=allW_len x
 rw [e];omega
open Go.Proofs
structure Ac where
 k:Int
 a:Int
 g:Nat
 t:Nat
def Ac.row (x:Ac):List AV:=[i6 x.k,i6 x.a,u x.g,u x.t]
structure Mt where
 t:Nat
 L:List Ev
 sd:Bool
structure MtOk (x:Gl) (n:Nat) (K w:Nat→Nat) (s:Mt) (k:Nat):Prop where
 t:s.t≤253402300799
 L:LOk n K w s.t s.L
 P:pcT x.c s.t s.L≤9223372036854775807
 l:s.L.length≤k
def mvT (s:Mt) (a:Int):Mt:=if 0≤a∧a≤253402300799∧(s.t:Int)≤a then ⟨a.toNat,s.L,s.sd⟩ else s
theorem inW_down {K w t t' a:Nat} (h:t≤t') (hp:inW K (t' / w) (a / w)=true):inW K (t / w) (a / w)=true:=by
 have:=Nat.div_le_div_right (c:=w) h
 unfold inW at *
 rw [decide_eq_true_eq] at *
 omega
theorem LOk.move {n:Nat} {K w:Nat→Nat} {t t':Nat} {L:List Ev} (h:LOk n K w t L) (ht:t≤t'):LOk n K w t' L:=
 ⟨h.ok,fun e he=>Nat.le_trans (h.le e he) ht,fun i hi=>Nat.le_trans (sm_le fun e _ hp=>inW_down ht hp) (h.sm i hi)⟩
theorem pcT_move (c:Int) {t t':Nat} {L:List Ev} (h:t≤t') (ht:t'≤253402300799) (hL:EvLe L t) (hP:pcT c t L≤9223372036854775807):pcT c t' L≤9223372036854775807:=by
 by_cases e:pF c t'=pF c t
 ·rw [(pc_same e).2];exact hP
 ·rw [(pc_move h ht hL e).2];omega
theorem MtOk.mono {x:Gl} {n:Nat} {K w:Nat→Nat} {s:Mt} {k k':Nat} (h:MtOk x n K w s k) (hk:k≤k'):MtOk x n K w s k':=⟨h.t,h.L,h.P,Nat.le_trans h.l hk⟩
theorem mvT_ok {x:Gl} {n:Nat} {K w:Nat→Nat} {s:Mt} {k:Nat} (h:MtOk x n K w s k) (a:Int):MtOk x n K w (mvT s a) k:=by
 unfold mvT
 split
 ·rename_i g
  obtain ⟨g1,g2,g3⟩:=g
  have e:(a.toNat:Int)=a:=Int.toNat_of_nonneg g1
  have q1:s.t≤a.toNat:=by omega
  have q2:a.toNat≤253402300799:=by omega
  exact ⟨q2,h.L.move q1,pcT_move x.c q1 q2 h.L.le h.P,h.l⟩
 ·exact h
theorem LOk.add {c:Int} {n:Nat} {K w:Nat→Nat} {t:Nat} {L:List Ev} (h:LOk n K w t L) {a g m:Nat} (ha:a≤t) (hg:g≤m) (hr:roomB c n K w t L a m=true):LOk n K w t (L++[(a,g,m)]):=by
 obtain ⟨h1,h2⟩:=roomB_all hr
 refine ⟨fun e he=>?_,fun e he=>?_,fun i hi=>?_⟩
 ·rcases List.mem_append.1 he with q|q
  ·exact h.ok e q
  ·rw [List.mem_singleton] at q;subst q;exact hg
 ·rcases List.mem_append.1 he with q|q
  ·exact h.le e q
  ·rw [List.mem_singleton] at q;subst q;exact ha
 ·have q:=h1 i hi
  have s:=h.sm i hi
  unfold okW fitB sumT at *
  rw [sm_app]
  have e1:Go.Ai.sm eT (w i) (inW (K i) (t / w i)) [(a,g,m)]=if inW (K i) (t / w i) (a / w i)=true then m else 0:=rfl
  rw [e1]
  cases hp:inW (K i) (t / w i) (a / w i) with
  |false=>simpa using s
  |true=>
   rw [hp] at q
   simp only [Bool.not_true,Bool.false_or,decide_eq_true_eq] at q
   simp only [if_true]
   omega
def mt0:Mt:=⟨0,[],false⟩
theorem mt0_ok (x:Gl) (n:Nat) (K w:Nat→Nat):MtOk x n K w mt0 0:=by
 refine ⟨by show (0:Nat)≤_;omega,⟨fun e he=>(by simp [mt0] at he),fun e he=>(by simp [mt0] at he),fun i hi=>?_⟩,?_,Nat.le_refl _⟩
 ·show sm _ _ _ []≤_
  simp [sm]
 ·show pcT _ _ []≤_
  unfold pcT;split<;>simp [sm]
def gN (x:Gl):Nat:=x.g.toNat
def wdN (x:Gl) (i:Nat):Nat:=((winP x).getD i 0).toNat
def kN (x:Gl) (i:Nat):Nat:=wK (wdN x i) (gN x)
def wN (x:Gl) (i:Nat):Nat:=wW (wdN x i) (gN x)
theorem goal_parts {x:Gl} (h:goalP x=true):(1≤x.g∧x.g≤86400)∧(0≤x.a∧x.a≤86400)∧(0≤x.o∧x.o≤34560000)∧x.o.tmod x.g=0∧(0≤x.c∧x.c≤2)∧1≤x.ru.length∧ ∀r∈x.ru,(1≤r.s∧r.s≤r.l)∧(1≤r.l∧r.l≤34560000)∧r.l.tmod x.g=0∧r.s.tmod x.g=0:=by
 unfold goalP rulesP btw ruP btw at h
 simp only [Bool.and_eq_true,decide_eq_true_eq,beq_iff_eq,List.all_eq_true] at h
 obtain ⟨-,-,h1,h2,h3,h4,h5,-,h6,h7,-⟩:=h
 refine ⟨h1,h2,h3,h4,h5,by omega,fun r hr=>?_⟩
 obtain ⟨q1,q2,q3,q4,q5,q6,-⟩:=h6 r hr
 exact ⟨q2,q3,q5,q6⟩
theorem goal_wd {x:Gl} (h:goalP x=true) (hl:x.ru.length≤10):WdOk x (winP x).length (gN x) (wdN x):=by
 obtain ⟨g1,-,g3,g4,-,-,g7⟩:=goal_parts h
 have eg:((gN x:Nat):Int)=x.g:=Int.toNat_of_nonneg (by omega)
 have md: ∀z:Int,0≤z→z.tmod x.g=0→z.toNat%gN x=0:=by
  intro z hz hm
  have e:((z.toNat:Nat):Int)=z:=Int.toNat_of_nonneg hz
  rw [←eg,←e] at hm
  have:((z.toNat%gN x:Nat):Int)=0:=by
   rw [Int.natCast_emod,←Int.tmod_eq_emod_of_nonneg (by omega)];exact hm
  omega
 refine ⟨eg.symm,?_,rfl,fun i hi=>?_⟩
 ·have:=winP_len x
  omega
 ·have e1:(winP x)[i]?=some (winP x)[i]:=List.getElem?_eq_getElem hi
  have e2:(winP x).getD i 0=(winP x)[i]:=by rw [List.getD_eq_getElem?_getD,e1];rfl
  have hm:=(winP_mem x _).1 (List.getElem_mem hi)
  have hz:1≤(winP x)[i]∧(winP x)[i]≤34560000∧((winP x)[i]).tmod x.g=0:=by
   generalize (winP x)[i]=z at hm ⊢
   unfold allW ruW at hm
   rcases List.mem_append.1 hm with q|q
   ·rw [List.mem_flatMap] at q
    obtain ⟨r,hr,q⟩:=q
    obtain ⟨q1,q2,q3,q4⟩:=g7 r hr
    simp only [List.mem_cons,List.not_mem_nil,or_false] at q
    rcases q with rfl|rfl
    ·exact ⟨by omega,by omega,q3⟩
    ·exact ⟨by omega,by omega,q4⟩
   ·split at q
    ·simp at q
    ·rw [List.mem_singleton] at q
     subst q
     exact ⟨by omega,by omega,g4⟩
  have e3:((wdN x i:Nat):Int)=(winP x)[i]:=by unfold wdN;rw [e2];exact Int.toNat_of_nonneg (by omega)
  refine ⟨by rw [e3,e1],by omega,by omega,?_,?_,?_⟩
  ·omega
  ·omega
  ·have:=md _ (by omega) hz.2.2
   rw [←e3,Int.toNat_natCast] at this
   exact this
theorem goal_n1 {x:Gl} (h:goalP x=true):1≤(winP x).length:=by
 obtain ⟨-,-,-,-,-,g6,-⟩:=goal_parts h
 cases hr:x.ru with
 |nil=>rw [hr] at g6;simp at g6
 |cons r l=>
  have hm:r.l∈winP x:=by rw [winP_mem];unfold allW ruW;rw [hr];simp
  exact List.length_pos_of_mem hm
open Go.Proofs
structure NmX (M A:Id) (R B:Nat→Id) (X:Id) (Zp:Nat→Prop:=fun _=>True):Prop where
 h:Nms M A R B
 xi:X.isIt=false
 xm:X≠M
 xa:X≠A
 xr: ∀i,X≠R i
 xb: ∀i,X≠B i
 nx: ∀e,Zp e→M.isNw e=false→X.isNw e=false
theorem NmX.up {M A:Id} {R B:Nat→Id} {X:Id} {Zp:Nat→Prop} (h:NmX M A R B X Zp):NmX (.up M) (.up A) (fun i=> .up (R i)) (fun i=> .up (B i)) (.up X) Zp:=
 ⟨h.h.up,h.xi,fun e=>h.xm (Id.up.inj e),fun e=>h.xa (Id.up.inj e),fun i e=>h.xr i (Id.up.inj e),fun i e=>h.xb i (Id.up.inj e),fun _ _ _=>rfl⟩
section
variable {P:Program} {GL:List (Nat×List Value)} {K:St→Prop} {σ:St} {f d:Nat} {xs:List X} {pre l l':List (Id×List AV)} {vs:List AV} {r:AV} {X:Id} {q:List (Pl×Nat)}
end
open Go.Proofs
theorem goal_k {x:Gl} (hx:goalP x=true) (hl:x.ru.length≤10):KwOk (winP x).length (kN x) (wN x):=(goal_wd hx hl).kw
theorem goal_n {x:Gl} (hl:x.ru.length≤10):(winP x).length≤1000000:=by have:=winP_len x;omega
theorem lk_mid {pre l suf:List (Id×List AV)} (hu: ∀p∈l,lkB l p.1=some p.2) (hp: ∀p∈pre,lkB l p.1=none): ∀p∈l,lkB (pre++l++suf) p.1=some p.2:=by
 intro p h
 rw [List.append_assoc,lkB_app,lkB_app,hu p h]
 cases h4:lkB pre p.1 with
 |none=>rfl
 |some c=>
  have:=hp _ (lkB_mem _ _ _ h4)
  simp only at this
  rw [hu p h] at this;cases this
theorem mt_uq {M A:Id} {R B:Nat→Id} (h:Nms M A R B) (x:Gl) (n:Nat) (W:List (List AV)) (K w:Nat→Nat) (t:Nat) (L:List Ev) (sd:Bool): ∀p∈mtB M A R B x n W K w t L sd,lkB (mtB M A R B x n W K w t L sd) p.1=some p.2:=mt_uniq h _ _ _ _ n
theorem mt_ks {M A:Id} {R B:Nat→Id} (x x':Gl) (n:Nat) (W:List (List AV)) (K w:Nat→Nat) (t t':Nat) (L L':List Ev) (sd sd':Bool) (j:Id):(lkB (mtB M A R B x' n W K w t' L' sd') j).isSome=(lkB (mtB M A R B x n W K w t L sd) j).isSome:=mt_keys _ _ _ _ _ _ _ _ n j
open Go.Proofs
theorem less6_spec (a b:Int):Sp Tryz.prog gl 102 [i6 a,i6 b] (.bool (decide (a<b))):=by
 refine s102 rfl rfl ?_
 have N:=fun a:Int=>(show Sp Tryz.prog gl 160 [i6 a] (.bool false) from by
  refine s160 rfl rfl ?_
  simp -implicitDefEqProofs [c160])
 have N1:=N a
 have N2:=N b
 have h1:decide (a<b)=decide (a<b):=rfl
 by_cases h:a<b
 ·simp [c102,h]
  refine onC_mk _ N1 ?_
  simp -implicitDefEqProofs [h]
 ·have h2:b≤a:=by omega
  simp -implicitDefEqProofs [c102,h]
  refine onC_mk _ N1 ?_
  simp -implicitDefEqProofs [h,h2]
theorem nan6_spec (a:Int):Sp Tryz.prog gl 103 [i6 a] (.bool false):=by
 refine s103 rfl rfl ?_
 simp -implicitDefEqProofs [c103]
def bsI (W:List Int) (z:Int):Nat:=(W.filter fun y=>decide (y<z)).length
theorem bsI_le (W:List Int) (z:Int):bsI W z≤W.length:=List.length_filter_le _ _
theorem bsI_lt: ∀ {W:List Int} {z:Int} (_:Rising W) (j:Nat) (h:j<W.length),(W[j]<z↔j<bsI W z)
 |y::W,z,hr,j,h=>by
  simp only [Rising,List.pairwise_cons] at hr
  by_cases hy:y<z
  ·have e:bsI (y::W) z=bsI W z+1:=by unfold bsI;rw [List.filter_cons_of_pos (by simpa using hy)];rfl
   cases j with
   |zero=>simp only [List.getElem_cons_zero,e];constructor<;>intro _<;>omega
   |succ j=>simp only [List.getElem_cons_succ,e];rw [bsI_lt hr.2 j (by simpa using h)];omega
  ·have e:bsI (y::W) z=0:=by
    unfold bsI
    rw [List.length_eq_zero_iff,List.filter_eq_nil_iff]
    intro v hv
    rcases List.mem_cons.1 hv with rfl|hv
    ·simpa using hy
    ·have:=hr.1 v hv
     simp;omega
   rw [e]
   cases j with
   |zero=>simp only [List.getElem_cons_zero];constructor<;>intro _<;>omega
   |succ j=>
    simp only [List.getElem_cons_succ]
    have:=hr.1 _ (List.getElem_mem (by simpa using h:j<W.length))
    constructor<;>intro _<;>omega
theorem bsI_mem {W:List Int} {z:Int} (hr:Rising W):z∈W↔W[bsI W z]?=some z:=by
 constructor
 ·intro hz
  obtain ⟨j,hj,e⟩:=List.getElem_of_mem hz
  have h1: ¬j<bsI W z:=fun q=>by have:=(bsI_lt hr j hj).2 q;omega
  have h2:bsI W z≤j:=by omega
  have h3:j≤bsI W z:=by
   rcases Nat.lt_or_ge (bsI W z) j with q|q
   ·exfalso
    have hl:bsI W z<W.length:=by omega
    have:=List.pairwise_iff_getElem.1 hr (bsI W z) j hl hj q
    have h4: ¬W[bsI W z]<z:=fun w=>by have:=(bsI_lt hr _ hl).1 w;omega
    omega
   ·exact q
  have:j=bsI W z:=by omega
  subst this
  rw [List.getElem?_eq_getElem hj,e]
 ·intro h
  obtain ⟨hl,e⟩:=List.getElem?_eq_some_iff.1 h
  rw [←e];exact List.getElem_mem hl
theorem bsearch_spec (Wl:List Int) (hr:Rising Wl) (hn:Wl.length≤1000000) (z:Int):Sp Tryz.prog gl 59 [.sl (intRows Wl),i6 z] (.tup [i6 (bsI Wl z),.bool (decide (z∈Wl))]):=by
 refine s59 rfl rfl ?_
 have hm:=bsI_mem (z:=z) hr
 have hlt:=fun j h=>bsI_lt (z:=z) hr j h
 have hle:=bsI_le Wl z
 obtain ⟨n,hn2⟩: ∃n,n=Wl.length:=⟨_,rfl⟩
 have hWl:(intRows Wl).length=n:=by rw [hn2];exact intRows_len Wl
 have hW1:=intRows_one Wl
 have hWa: ∀k,(hk:k<(intRows Wl).length)→(intRows Wl)[k]=[i6 (Wl[k]'(by rw [←hn2,←hWl];exact hk))]:=fun k hk=>by simp [intRows]
 rw [←hn2] at hle hn
 generalize hI:bsI Wl z=I at *
 simp -implicitDefEqProofs [c59,hWl]
 refine wp_lpk (α:=Nat×Nat) (fun p=>⟨[(0,.sl (intRows Wl)),(1,i6 z),(6,i6 n),(7,i6 p.1),(8,i6 p.2)],[],[]⟩) (fun p=>p.1≤I∧I≤p.2∧p.2≤n) (fun p=>p.2 - p.1) ?_ (0,n) ?_ ?_
 ·rintro K ⟨lo,hh⟩ hK ⟨k1,k2,k3⟩
  simp only at k1 k2 k3
  by_cases g:lo<hh
  ·have g':(lo:Int)<hh:=by omega
   have m0:(2:Int)^min 1 IntKind.u64.bits=2:=by decide
   have m1:IntKind.i64.wrap ((lo:Int)+hh)=(lo+hh:Nat):=by rw [wr]<;>omega
   have m2:IntKind.u64.wrap ((lo+hh:Nat):Int)=(lo+hh:Nat):=by rw [wrap_u64]<;>omega
   have m3:((lo+hh:Nat):Int).fdiv 2=((lo+hh) / 2:Nat):=by
    rw [Int.fdiv_eq_ediv_of_nonneg _ (by omega)];omega
   have m4:IntKind.i64.wrap (((lo+hh) / 2:Nat):Int)=((lo+hh) / 2:Nat):=by rw [wr]<;>omega
   have ml:(lo+hh) / 2<n:=by omega
   have q1:lo≤(lo+hh) / 2:=by omega
   have q2:(lo+hh) / 2<hh:=by omega
   generalize (lo+hh) / 2=m at *
   have m5:IntKind.i64.wrap ((m:Int)+1)=(m+1:Nat):=by rw [wr]<;>omega
   have rl:m<(intRows Wl).length:=by omega
   have ew:=hWa m rl
   have rl':m<Wl.length:=by omega
   have hlm:=hlt m rl'
   have ml':(m:Int)<n:=by omega
   generalize Wl[m]'rl'=y at *
   have ew0:(intRows Wl)[m]?=some [i6 y]:=by rw [List.getElem?_eq_getElem rl,ew]
   have LS:=less6_spec y z
   by_cases c:y<z
   ·rw [decide_eq_true c] at LS
    have fin:=fun σ' hσ=>hK (m+1,hh) σ' ⟨by have:=hlm.1 c;simp only;omega,k2,k3⟩ (by simp only;omega) hσ
    clear hK hlt hWa hm hlm
    generalize ((lo+hh:Nat):Int)=s2 at *
    generalize intRows Wl=W at *
    simp -implicitDefEqProofs [g,g',m0,m1,m2,m3,m4,ew,ew0,rl,ml,ml',hWl,hW1]
    refine onC_mk _ LS ?_
    simp -implicitDefEqProofs
    refine fin _ ?_
    refine weak_mk ?_ ?_ ?_ ?_ ?_ ?_<;>simp -implicitDefEqProofs [m5]
   ·rw [decide_eq_false c] at LS
    have fin:=fun σ' hσ=>hK (lo,m) σ' ⟨k1,by
     have:=fun q=>c (hlm.2 q)
     simp only;omega,by simp only;omega⟩ (by simp only;omega) hσ
    clear hK hlt hWa hm hlm
    generalize ((lo+hh:Nat):Int)=s2 at *
    generalize intRows Wl=W at *
    simp -implicitDefEqProofs [g,g',m0,m1,m2,m3,m4,ew,ew0,rl,ml,ml',hWl,hW1]
    refine onC_mk _ LS ?_
    simp -implicitDefEqProofs
    refine fin _ ?_
    refine weak_mk ?_ ?_ ?_ ?_ ?_ ?_<;>simp -implicitDefEqProofs
  ·obtain rfl:lo=I:=by omega
   have g': ¬(lo:Int)<hh:=by omega
   have NN:=fun a=>nan6_spec a
   clear hK
   by_cases c:lo<n
   ·have c':(lo:Int)<n:=by omega
    have rl:lo<(intRows Wl).length:=by omega
    have ew:=hWa lo rl
    have rl':lo<Wl.length:=by omega
    have e0:Wl[lo]?=some (Wl[lo]'rl'):=List.getElem?_eq_getElem _
    rw [e0] at hm
    generalize Wl[lo]'rl'=y at *
    have ew0:(intRows Wl)[lo]?=some [i6 y]:=by rw [List.getElem?_eq_getElem rl,ew]
    have N1:=NN y
    by_cases d:y=z
    ·have d1:decide (z∈Wl)=true:=decide_eq_true (hm.2 (by rw [d]))
     rw [d1]
     subst d
     clear hm hWa hlt
     generalize intRows Wl=W at *
     simp -implicitDefEqProofs [g,g',c,c',ew,ew0,rl,hWl,hW1]
    ·have d1:decide (z∈Wl)=false:=decide_eq_false (fun q=>d (Option.some.inj (hm.1 q)))
     rw [d1]
     have d2:(y==z)=false:=by rw [beq_eq_false_iff_ne];exact d
     clear hm hWa hlt
     generalize intRows Wl=W at *
     simp -implicitDefEqProofs [g,g',c,c',ew,ew0,rl,hWl,hW1,d2]
     refine onC_mk _ N1 ?_
     simp -implicitDefEqProofs
   ·have c': ¬(lo:Int)<n:=by omega
    have d1:decide (z∈Wl)=false:=decide_eq_false (fun q=>by
     have:=hm.1 q
     rw [List.getElem?_eq_none (by omega)] at this;cases this)
    rw [d1]
    clear hm hWa hlt
    generalize intRows Wl=W at *
    simp -implicitDefEqProofs [g,g',c,c']
 ·exact ⟨Nat.zero_le _,hle,Nat.le_refl _⟩
 ·generalize intRows Wl=W at *
  refine weak_mk ?_ ?_ ?_ ?_ ?_ ?_<;>simp -implicitDefEqProofs [hWl]
end Go.Ai
