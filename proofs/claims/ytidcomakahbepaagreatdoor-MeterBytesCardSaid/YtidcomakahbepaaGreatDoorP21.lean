/- P21: a part of the proof: the rules, or what functions compute. Conditions: as each theorem says. -/
import Derived.Test.YtidcomakahbepaaGreatDoorP20
import Derived.Test.YtidcomakahbepaaGreatDoorP18
import Derived.Test.YtidcomakahbepaaGreatDoorCode
import Derived.Lib.LaidU8
import GoSem.PinnedTables
set_option linter.unusedSimpArgs false
set_option linter.unusedVariables false
set_option maxRecDepth 20000
namespace Go.Ai
open Go.Proofs
theorem nmXQ:NmX (qM 60) (qA 60) (qR 60) (qB 60) (fX 26) (fun e=>e≠26):=by
 refine ⟨nmsQ 60,rfl,?_,?_,fun i=>?_,fun i=>?_,fun e he h=>?_⟩
 ·intro e;simp [qM,fX] at e
 ·intro e;simp [qA,fX] at e
 ·intro e;simp [qR,fX,R0] at e
 ·intro e;simp [qB,fX,B0] at e
 ·have: ¬26=e:=fun q=>he q.symm
  simp [fX,Id.isNw,Id.isUp,this]
theorem mbytes_tail (x:Gl) (hx:goalP x=true) (hl:x.ru.length≤10) (l:List Ac) (hal: ∀a∈l,a.t<18446744073709551616) (s0:Mt) (k0:Nat) (hk0:k0≤1000) (hs0:MtOk x (winP x).length (kN x) (wN x) s0 k0)
  (e:List (Nat×AV)) (bx:List (Id×List AV)) (pm:List (Pl×Nat)) (e2:lk e 2= .sl (acRows l)) (e8:lk e 8= .ptr (fX 26) 0) (e13:lk e 13= .ptr (qM 60) 0)
  (hbx: ∀p∈mxB (qM 60) (qA 60) (qR 60) (qB 60) (fX 26) x (winP x).length (winP x) (kN x) (wN x) s0,lkB bx p.1=some p.2) (hpm:lkP pm (.b (fX 26) 10)=some 3) (hps:dlS pm 14=pm):
  wpA (SpH Tryz.prog gl) (AC.tl 10 c8) (postA [.t 6] (.bool true)) ⟨e,bx,pm⟩:=by
 have NM:=nmXQ
 obtain ⟨G,hG⟩: ∃G:Mt→List (Id×List AV),G=fun s=>mxB (qM 60) (qA 60) (qR 60) (qB 60) (fX 26) x (winP x).length (winP x) (kN x) (wN x) s:=⟨_,rfl⟩
 have gu: ∀s,∀p∈G s,lkB (G s) p.1=some p.2:=fun s=>by rw [hG];exact mx_uniq NM x _ _ _ _ s
 have gk: ∀s s' j,(lkB (G s') j).isSome=(lkB (G s) j).isSome:=fun s s' j=>by rw [hG];exact mx_keys x x _ _ _ _ s s' j
 have gX: ∀s,(lkB (G s) (fX 26)).isSome=true:=fun s=>by rw [hG];exact mx_x ..
 have gM: ∀s,(lkB (G s) (qM 60)).isSome=true:=fun s=>by rw [hG];exact lkB_isSome (p:=(qM 60,_)) (List.mem_cons_of_mem _ (List.mem_cons_self ..))
 have gi: ∀s,∀p∈G s,∀i∈idsL p.2,(lkB (G s) i).isSome=true:=fun s=>by rw [hG];exact mx_ids NM x _ _ _ _ s
 have gw: ∀s j,j≠26→j≠60→ ∀p∈G s,p.1.isNw j=false:=fun s j h1 h2 p hp=>by
  rw [hG] at hp
  have h1': ¬26=j:=fun q=>h1 q.symm
  have h2': ¬60=j:=fun q=>h2 q.symm
  obtain ⟨a,b⟩:=p
  rcases mx_mem hp with rfl|rfl|rfl|⟨i,rfl|rfl⟩
  ·simp [fX,Id.isNw,Id.isUp,h1']
  ·simp [qM,Id.isNw,Id.isUp,h2']
  ·simp [qA,Id.isNw,Id.isUp,h2']
  ·simp [qR,R0,Id.isNw,Id.isUp,h2']
  ·simp [qB,B0,Id.isNw,Id.isUp,h2']
 have SM: ∀s k,k≤1000000→MtOk x (winP x).length (kN x) (wN x) s k→SpH Tryz.prog gl 24 109 ⟨[.ptr (qM 60) 0,.ptr (fX 26) 0],G s,[(.b (fX 26) 10,3)]⟩ ⟨.bool true,G s,[(.b (fX 26) 10,3)]⟩:=fun s k h1 h2=>by
  rw [hG];exact msame_spec _ _ _ _ _ NM x hx hl s k h1 h2 109 rfl (by decide)
 have DO: ∀s k,k≤1000000→MtOk x (winP x).length (kN x) (wN x) s k→ ∀a:Ac,a.t<18446744073709551616→SpH Tryz.prog gl 17 105 ⟨[.ptr (qM 60) 0,.ptr (fX 26) 0,.agg a.row],G s,[(.b (fX 26) 10,3)]⟩ ⟨.bool true,G (stS x (winP x).length (kN x) (wN x) s a),[(.b (fX 26) 10,3)]⟩:=fun s k h1 h2 a ha=>by
  rw [hG];exact does_spec _ _ _ _ _ NM x hx hl s k h1 h2 a ha 105 rfl (by decide)
 have hok:=fun s k (h:MtOk x (winP x).length (kN x) (wN x) s k) a=>stS_ok h a
 have al:=acRows_len l
 have a4:=acRows_4 l
 have aat:=acRows_at l
 have hG0: ∀p∈G s0,lkB bx p.1=some p.2:=by rw [hG];exact hbx
 generalize acRows l=RW at *
 generalize hstS:stS x (winP x).length (kN x) (wN x)=ST at *
 clear hG hbx hstS NM
 generalize qM 60=QM at *
 generalize fX 26=FX at *
 simp only [c8,AC.tl]
 simp -implicitDefEqProofs [hps]
 refine wp_lpk (α:=Nat×Mt) (fun p=>⟨[(2,.sl RW),(8,.ptr FX 0),(13,.ptr QM 0),(14,i6 p.1)],G p.2,[(.b FX 10,3)]⟩)
  (fun p=>p.1≤l.length∧p.1≤100∧MtOk x (winP x).length (kN x) (wN x) p.2 (k0+p.1)) (fun p=>l.length - p.1) ?_ (0,s0) ?_ ?_
 ·rintro K ⟨k,s⟩ hK ⟨k1,k2,k3⟩
  by_cases c:k<l.length∧k<100
  ·obtain ⟨c1,c2⟩:=c
   have c1':(k:Int)<l.length:=by omega
   have c2':(k:Int)<100:=by omega
   have w1:IntKind.i64.wrap ((k:Int)+1)=(k+1:Nat):=by rw [wr]<;>omega
   have kl:k<RW.length:=by omega
   have ew0:=aat k c1
   have ew:RW[k]'kl=l[k].row:=by rw [List.getElem?_eq_getElem kl] at ew0;exact Option.some.inj ew0
   have r4:=a4 _ (List.getElem_mem kl)
   have D1:=DO s (k0+k) (by simp only at k2;omega) k3 l[k] (hal _ (List.getElem_mem c1))
   have fin:=fun σ' (hσ:Weak σ' _)=>hK (k+1,ST s l[k]) σ' ⟨by simp only;omega,by simp only;omega,hok s (k0+k) k3 l[k]⟩ (by simp only;omega) hσ
   rw [ew] at r4
   clear hK DO hok aat SM
   generalize ST s l[k]=s' at *
   generalize l[k].row=r at *
   have e4:List.take 4 r=r:=List.take_of_length_le (by omega)
   simp -implicitDefEqProofs [al,c1,c1',c2',c2,kl,ew,ew0,a4,r4,e4]
   refine onH_x (pre:=[]) (q:=[]) D1 rfl rfl (gX _) (fun p hp=>by cases hp) (gu _) (gk _ _) ?_ ?_ ?_ ?_
   ·exact gw _ _ (by decide) (by decide)
   ·simp
   ·simp
   simp -implicitDefEqProofs [w1]
   refine fin _ (weak_mk ?_ (wkB_self (gu s')) ?_ ?_ ?_ ?_)
   ·simp [w1]
   ·simp
   ·simp [gM,gX]
   ·exact fun p hp d hd=> .inl (gi s' p hp d hd)
   ·simp [gM,gX]
  ·have c1: ¬(k<l.length)∨ ¬(k<100):=by omega
   have F1:=SM s (k0+k) (by simp only at k2;omega) k3
   clear hK DO hok aat SM
   by_cases c2:k<l.length
   ·have c3: ¬(k:Int)<100:=by omega
    have c2':(k:Int)<l.length:=by omega
    have c3': ¬k<100:=by omega
    simp -implicitDefEqProofs [al,c2,c2',c3,c3']
    refine onH_x (pre:=[]) (q:=[]) F1 rfl rfl (gX _) (fun p hp=>by cases hp) (gu _) (gk _ _) ?_ ?_ ?_ ?_
    ·exact gw _ _ (by decide) (by decide)
    ·simp
    ·simp
    simp -implicitDefEqProofs
   ·have c2': ¬(k:Int)<l.length:=by omega
    simp -implicitDefEqProofs [al,c2,c2']
    refine onH_x (pre:=[]) (q:=[]) F1 rfl rfl (gX _) (fun p hp=>by cases hp) (gu _) (gk _ _) ?_ ?_ ?_ ?_
    ·exact gw _ _ (by decide) (by decide)
    ·simp
    ·simp
    simp -implicitDefEqProofs
 ·exact ⟨Nat.zero_le _,Nat.zero_le _,hs0⟩
 ·refine weak_mk ?_ (fun p hp=>by simp only [wkB,hG0 p hp];exact wkL_rfl' _) ?_ ?_ ?_ ?_
  ·simp [e2,e8,e13]
  ·simp [hpm]
  ·simp [gM,gX]
  ·exact fun p hp d hd=> .inl (gi s0 p hp d hd)
  ·simp [gM,gX]
open Go.Proofs
section
variable {P:Program} {GL:List (Nat×List Value)} {f d:Nat} {xs:List X} {vs:List AV} {r:AV} {pre l l' suf:List (Id×List AV)} {σ:St} {K:St→Prop}
theorem onH_psa {t k:Nat} (S:SpH P GL f d ⟨vs,l,[(.s 1,k)]⟩ ⟨r,l',[(.s 0,k)]⟩) (hσ:σ.bx=pre++(l++suf)) (hpre: ∀p∈pre,lkB l p.1=none) (hsuf: ∀p∈suf,lkB l p.1=none) (hu: ∀p∈l,lkB l p.1=some p.2) (hkeep: ∀i,(lkB l' i).isSome=(lkB l i).isSome)
  (hf: ∀p∈σ.bx,p.1.isNw d=false) (hpm: ∀p∈σ.pm,∀e∈p.1.ids,lkB l e=none) (hx:xs[1]?=some (.s t)) (hp:lkP σ.pm (.s t)=some k) (hv:wkL (xs.map σ.v) vs) (hk:K ⟨(d,r)::σ.e,l'++(pre++suf),(.s d,k)::dlS (dl σ.pm (.s t)) d⟩):onH (SpH P GL) f d xs K σ:=by
 refine onH_mk _ _ S ⟨hv,fun p hp=>?_,fun p hp'=>?_,⟨fun p hp=>(by cases hp),trivial⟩,fun p hp=>?_,fun p hp=>?_,hf⟩ ?_
 ·have h3:=lk_ps (suf:=suf) hpre hu p hp
  rw [←hσ] at h3
  simp only [wkB,h3];exact wkL_rfl' _
 ·rw [List.mem_singleton] at hp'
  subst hp'
  simp only [pmIn,hx]
  exact .inl hp
 ·simp only [hkeep,hu p hp];rfl
 ·left;simp only [←hkeep];exact lkB_isSome hp
 ·simp only [callSt,retP,dlXs,hx,List.nil_append,List.cons_append]
  rw [hσ,rmBs_ps hpre hsuf,dlBs_off hpm]
  exact hk
end
theorem mput_mt (M A:Id) (R B:Nat→Id) (h:Nms M A R B) (x:Gl) (hx:goalP x=true) (hl':x.ru.length≤10) (s:Mt) (k:Nat) (hs:MtOk x (winP x).length (kN x) (wN x) s k) (l:List UInt8) (hl:l.length≤500000) (d:Nat) (hd:M.isNw d=false):
  SpH Tryz.prog gl 33 d ⟨[.ptr M 0,.sl (byteRows l)],mtB M A R B x (winP x).length (intRows (winP x)) (kN x) (wN x) s.t s.L s.sd,[(.s 1,1)]⟩ ⟨.sl (byteRows (l++docB x.c s.sd s.t s.L (kN x) (wN x) (winP x).length)),mtB M A R B x (winP x).length (intRows (winP x)) (kN x) (wN x) s.t s.L s.sd,[(.s 0,1)]⟩:=by
 have hGT:=pc_GT (c:=x.c) (t:=s.t) hs.L.ok
 have hP:=hs.P
 rw [mtB_mtG,docB_metB hs.L.le]
 exact mput_spec M A R B h x (winP x).length (by have:=winP_len x;omega) (intRows (winP x)) (pF x.c s.t) (pT x.c s.t) (pcG x.c s.t s.L) (pcT x.c s.t s.L) (by omega) (by omega) s.sd (kN x) (wN x) (fun i=>s.t / wN x i) s.t _ _ _ _ (gk_of (goal_k hx hl') hs.t hs.L) l hl d hd
theorem docB_len (x:Gl) (hx:goalP x=true) (hl':x.ru.length≤10) (s:Mt) (k:Nat) (hs:MtOk x (winP x).length (kN x) (wN x) s k):(docB x.c s.sd s.t s.L (kN x) (wN x) (winP x).length).length≤100000:=by
 have h1:=ringsD_len (goal_k hx hl') hs.L (k:=(winP x).length) (Nat.le_refl _)
 have h2:=winP_len x
 have hGT:=pc_GT (c:=x.c) (t:=s.t) hs.L.ok
 have hP:=hs.P
 have n1:=numB_len (pcG x.c s.t s.L) (by omega)
 have n2:=numB_len (pcT x.c s.t s.L) (by omega)
 have h3:(calB x.c (pcG x.c s.t s.L) (pcT x.c s.t s.L)).length≤18:=by
  unfold calB;split
  ·simp
  ·rw [List.length_append];omega
 unfold docB
 rw [List.length_append,List.length_append]
 simp only [flagB,List.length_cons,List.length_nil]
 omega
open Go.Proofs
theorem rmB_no {j:Id}: ∀ {l:List (Id×List AV)},lkB l j=none→rmB l j=l
 |[],_=>rfl
 |(d,c)::r,h=>by
  simp only [lkB] at h
  simp only [rmB]
  by_cases e:d=j
  ·rw [if_pos e] at h;cases h
  ·rw [if_neg e] at h
   rw [if_neg e,rmB_no h]
theorem inF_nw {fr:List Nat} {t:Nat} (hf:fr.contains t=false): ∀ {a:Id},a.isNw t=true→inF fr a=false
 | .nw k i,h=>by
  simp only [Id.isNw,Bool.and_eq_true,beq_iff_eq] at h
  simp only [inF,h.1,hf]
 | .n _,h=>by cases h
 | .up _,h=>by cases h
 | .ix _ _,h=>by cases h
 | .it _,h=>by cases h
theorem lkB_nw {j:Id} {t:Nat}: ∀ {l:List (Id×List AV)},(∀(a:Id) (b:List AV),(a,b)∈l→a.isNw t=true)→j.isNw t=false→lkB l j=none
 |[],_,_=>rfl
 |(d,c)::r,h,hj=>by
  simp only [lkB]
  rw [if_neg (fun e=>by have:=h d c (List.mem_cons_self ..);rw [e,hj] at this;cases this),lkB_nw (fun a b hm=>h a b (List.mem_cons_of_mem _ hm)) hj]
set_option maxHeartbeats 1000000 in
theorem meterBytes_spec (x:Gl) (l m:List Ac) (hal: ∀a∈l,a.t<18446744073709551616) (ham: ∀a∈m,a.t<18446744073709551616):Sp Tryz.prog gl 8 [.agg x.row,.sl (acRows l),.sl (acRows m)] (.bool true):=by
 refine s8 rfl rfl ?_
 have AW:=mawake_spec
 have H:=heavyG_spec x
 have P1:x.row.length=8:=rfl
 have P2:idsL x.row=[]:=rfl
 have P3:shutL x.row=some x.row:=rfl
 cases hh:heavyG x with
 |true=>
  rw [hh] at H
  generalize x.row=P at *
  have e8:List.take 8 P=P:=List.take_of_length_le (by omega)
  simp -implicitDefEqProofs [c8]
  refine onC_mk _ (AW) ?_
  simp -implicitDefEqProofs [P1,e8,P3]
  refine onC_mk _ (H) ?_
  simp -implicitDefEqProofs
 |false=>
  rw [hh] at H
  have hf:=heavyG_fit hh
  have hl:=hf.ru
  have RG:=qgoal_spec x hf
  cases hx:goalP x with
  |false=>
   rw [hx] at RG
   generalize x.row=P at *
   have e8:List.take 8 P=P:=List.take_of_length_le (by omega)
   simp -implicitDefEqProofs [c8]
   refine onC_mk _ (AW) ?_
   simp -implicitDefEqProofs [P1,e8,P3]
   refine onC_mk _ (H) ?_
   simp -implicitDefEqProofs [P1,e8,P3]
   refine onC_mk _ (RG) ?_
   simp -implicitDefEqProofs
  |true=>
   rw [hx] at RG
   have NM:=nmF 26
   have hk:=goal_k hx hl
   have hn:=goal_n hl
   obtain ⟨G,hG⟩: ∃G:Mt→List (Id×List AV),G=fun s=>mxB (fM 26) (fA 26) (fR 26) (fB 26) (fX 26) x (winP x).length (winP x) (kN x) (wN x) s:=⟨_,rfl⟩
   obtain ⟨rest,hrest⟩: ∃r:Mt→List (Id×List AV),r=fun s=>(fA 26,ptrC (fR 26) (winP x).length)::rgsB (fR 26) (fB 26) (rgC (kN x) (wN x) s.t s.L) (rgD (kN x) (wN x) s.t s.L) (winP x).length:=⟨_,rfl⟩
   have hGs: ∀s,G s=(fX 26,xC x s.t s.sd s.L)::(fM 26,mtC x (fA 26) (winP x).length (intRows (winP x)) (pF x.c s.t) (pT x.c s.t) (pcG x.c s.t s.L) (pcT x.c s.t s.L) s.t s.sd)::rest s:=fun s=>by rw [hG,hrest];rfl
   have gu: ∀s,∀p∈G s,lkB (G s) p.1=some p.2:=fun s=>by rw [hG];exact mx_uniq NM x _ _ _ _ s
   have gk: ∀s s' j,(lkB (G s') j).isSome=(lkB (G s) j).isSome:=fun s s' j=>by rw [hG];exact mx_keys x x _ _ _ _ s s' j
   have gX: ∀s,(lkB (G s) (fX 26)).isSome=true:=fun s=>by rw [hG];exact mx_x ..
   have gM: ∀s,(lkB (G s) (fM 26)).isSome=true:=fun s=>by rw [hG];exact lkB_isSome (p:=(fM 26,_)) (List.mem_cons_of_mem _ (List.mem_cons_self ..))
   have gi: ∀s,∀p∈G s,∀i∈idsL p.2,(lkB (G s) i).isSome=true:=fun s=>by rw [hG];exact mx_ids NM x _ _ _ _ s
   have gw: ∀s (a:Id) (b:List AV),(a,b)∈G s→a.isIt=false∧ ∀t,a.isNw t=(26==t):=fun s=>by rw [hG];exact fx_nw 26 x _ _ _ _ s
   have gn: ∀s j,lkB (G s) (.n j)=none:=fun s j=>by rw [hG];exact fx_n 26 x _ _ _ _ s j
   have gf: ∀s fr,fr.contains 26=false→ ∀p∈G s,inF fr p.1=false:=fun s fr h=>by rw [hG];exact fx_inF 26 x _ _ _ _ s fr h
   have mX: ∀t,(fX 26).isNw t=(26==t):=fun t=>by simp [fX,Id.isNw,Id.isUp]
   have mM: ∀t,(fM 26).isNw t=(26==t):=fun t=>by simp [fM,Id.isNw,Id.isUp]
   have iX:(fX 26).isIt=false:=rfl
   have iM:(fM 26).isIt=false:=rfl
   have fXn: ∀fr:List Nat,fr.contains 26=false→inF fr (fX 26)=false:=fun _ h=>h
   have nX: ∀j,¬fX 26= .n j:=fun j=>by simp [fX]
   have nM: ∀j,¬fM 26= .n j:=fun j=>by simp [fM]
   have nX': ∀j,¬Id.n j=fX 26:=fun j=>by simp [fX]
   have nM': ∀j,¬Id.n j=fM 26:=fun j=>by simp [fM]
   have xm:=NM.xm
   have xm': ¬fM 26=fX 26:=fun e=>NM.xm e.symm
   have nmpa:=NM.h.pa
   obtain ⟨mt,hmt⟩: ∃r:Mt→List (Id×List AV),r=fun s=>mtB (fM 26) (fA 26) (fR 26) (fB 26) x (winP x).length (intRows (winP x)) (kN x) (wN x) s.t s.L s.sd:=⟨_,rfl⟩
   have hGm: ∀s,G s=(fX 26,xC x s.t s.sd s.L)::mt s:=fun s=>by rw [hG,hmt];rfl
   have hMs: ∀s,mt s=(fM 26,mtC x (fA 26) (winP x).length (intRows (winP x)) (pF x.c s.t) (pT x.c s.t) (pcG x.c s.t s.L) (pcT x.c s.t s.L) s.t s.sd)::rest s:=fun s=>by rw [hmt,hrest];rfl
   have mu: ∀s,∀p∈mt s,lkB (mt s) p.1=some p.2:=fun s=>by rw [hmt];exact mt_uq NM.h x _ _ _ _ _ _ _
   have mk: ∀s s' j,(lkB (mt s') j).isSome=(lkB (mt s) j).isSome:=fun s s' j=>by rw [hmt];exact mt_ks x x _ _ _ _ _ _ _ _ _ _ j
   have m0: ∀s,lkB (mt s) (fX 26)=none:=fun s=>by rw [hmt];exact mt_nox NM x _ _ _ _ _ _ _
   have mr: ∀s,rmB (mt s) (fX 26)=mt s:=fun s=>by rw [hmt];exact mt_norm NM x _ _ _ _ _ _ _
   have mn: ∀s j,lkB (mt s) (.n j)=none:=fun s j=>by
    have q:=gn s j
    rw [hGm] at q;simp only [lkB] at q
    rw [if_neg (nX j)] at q;exact q
   have mw: ∀s (a:Id) (b:List AV),(a,b)∈mt s→a.isIt=false∧ ∀t,a.isNw t=(26==t):=fun s a b hm=>gw s a b (by rw [hGm];exact List.mem_cons_of_mem _ hm)
   have rX: ∀s,lkB (rest s) (fX 26)=none:=fun s=>by
    have q:=m0 s
    rw [hMs] at q;simp only [lkB] at q
    rw [if_neg xm'] at q;exact q
   have rn: ∀s j,lkB (rest s) (.n j)=none:=fun s j=>by
    have q:=mn s j
    rw [hMs] at q;simp only [lkB] at q
    rw [if_neg (nM j)] at q;exact q
   have rw': ∀s (a:Id) (b:List AV),(a,b)∈rest s→a.isIt=false∧ ∀t,a.isNw t=(26==t):=fun s a b hm=>mw s a b (by rw [hMs];exact List.mem_cons_of_mem _ hm)
   have rmX: ∀s,rmB (rest s) (fX 26)=rest s:=fun s=>by
    have q:=mr s
    rw [hMs] at q;simp only [rmB] at q
    rw [if_neg xm'] at q;exact (List.cons.inj q).2
   have rmM: ∀s,rmB (rest s) (fM 26)=rest s:=fun s=>by
    rw [hrest]
    simp only [rmB]
    rw [if_neg (fun e=>NM.h.ma e.symm),rgsB_rm NM.h.mr NM.h.mb]
   have rM: ∀s,lkB (rest s) (fM 26)=none:=fun s=>by
    rw [hrest]
    simp only [lkB]
    rw [if_neg (fun e=>NM.h.ma e.symm),rgsB_none NM.h.mr NM.h.mb]
   have F:SpH Tryz.prog gl 15 26 ⟨[.agg x.row],[],[]⟩ ⟨.tup [.ptr (fM 26) 0,.ptr (fX 26) 0,.bool true],G mt0,[(.b (fX 26) 10,3)]⟩:=by
    have q:=fresh_spec x hf hl hx 26
    rw [hG];exact q
   have DO: ∀s k,k≤1000000→MtOk x (winP x).length (kN x) (wN x) s k→ ∀a:Ac,a.t<18446744073709551616→ ∀e,(fM 26).isNw e=false→SpH Tryz.prog gl 17 e ⟨[.ptr (fM 26) 0,.ptr (fX 26) 0,.agg a.row],G s,[(.b (fX 26) 10,3)]⟩ ⟨.bool true,G (stS x (winP x).length (kN x) (wN x) s a),[(.b (fX 26) 10,3)]⟩:=fun s k h1 h2 a ha e he=>by
    rw [hG];exact does_spec _ _ _ _ _ NM x hx hl s k h1 h2 a ha e he
   have TL:=fun s k (h1:k≤1000) (h2:MtOk x (winP x).length (kN x) (wN x) s k) e bx pm=>mbytes_tail x hx hl m ham s k h1 h2 e bx pm
   have hok:=fun s k (h:MtOk x (winP x).length (kN x) (wN x) s k) a=>stS_ok h a
   have ok0:=mt0_ok x (winP x).length (kN x) (wN x)
   have al:=acRows_len l
   have a4:=acRows_4 l
   have aat:=acRows_at l
   obtain ⟨mt2,hmt2⟩: ∃r:Mt→List (Id×List AV),r=fun s=>mtB (qM 60) (qA 60) (qR 60) (qB 60) x (winP x).length (intRows (winP x)) (kN x) (wN x) s.t s.L s.sd:=⟨_,rfl⟩
   obtain ⟨D,hD⟩: ∃D:Mt→List UInt8,D=fun s=>docB x.c s.sd s.t s.L (kN x) (wN x) (winP x).length:=⟨_,rfl⟩
   have MP: ∀s k,MtOk x (winP x).length (kN x) (wN x) s k→SpH Tryz.prog gl 33 52 ⟨[.ptr (fM 26) 0,.sl (byteRows [7])],mt s,[(.s 1,1)]⟩ ⟨.sl (byteRows ([7]++D s)),mt s,[(.s 0,1)]⟩:=fun s k h=>by
    rw [hmt,hD];exact mput_mt _ _ _ _ NM.h x hx hl s k h [7] (by simp) 52 rfl
   have XP: ∀s k,k≤1000000→MtOk x (winP x).length (kN x) (wN x) s k→SpH Tryz.prog gl 38 70 ⟨[.ptr (fX 26) 0],[(fX 26,xC x s.t s.sd s.L)],[(.b (fX 26) 10,3)]⟩ ⟨.sl (byteRows (D s)),[(fX 26,xC x s.t s.sd s.L)],[(.b (fX 26) 10,3)]⟩:=fun s k h1 h=>by
    have hcc:0≤x.c:=(goal_parts hx).2.2.2.2.1.1
    have hL:=h.L
    have hll:=h.l
    rw [hD];exact xput_spec (fX 26) rfl x hcc hl (winP x).length (gN x) (by have:=winP_len x;omega) (wdN x) (goal_wd hx hl) s.t h.t s.sd s.L hL h.P (by omega) 70 rfl
   have MG: ∀s k,MtOk x (winP x).length (kN x) (wN x) s k→SpH Tryz.prog gl 29 60 ⟨[.ptr (.nw 55 (.n 5)) 0,.agg x.row,i6 s.t],[(.nw 55 (.n 5),rdv (some (D s)))],[]⟩ ⟨.ptr (qM 60) 0,(.nw 55 (.n 5),rdv (some []))::mt2 s,[]⟩:=fun s k h=>by
    have:=docB_len x hx hl s k h
    rw [hD,hmt2];exact mget_back x hf hl hx s k h 60 (.nw 55 (.n 5)) rfl rfl (by omega)
   have SM: ∀s k,k≤1000000→MtOk x (winP x).length (kN x) (wN x) s k→SpH Tryz.prog gl 24 86 ⟨[.ptr (qM 60) 0,.ptr (fX 26) 0],(fX 26,xC x s.t s.sd s.L)::mt2 s,[(.b (fX 26) 10,3)]⟩ ⟨.bool true,(fX 26,xC x s.t s.sd s.L)::mt2 s,[(.b (fX 26) 10,3)]⟩:=fun s k h1 h2=>by
    rw [hmt2];exact msame_spec _ _ _ _ _ nmXQ x hx hl s k h1 h2 86 rfl (by decide)
   have WN:=fun s=>wNew_spec (D s) 55
   have WE:=wEnd_spec (some []) 80 (.nw 55 (.n 5)) rfl rfl
   have en:endN (some [])=0:=rfl
   rw [en] at WE
   have q0: ∀s,lkB (mt2 s) (fX 26)=none:=fun s=>by rw [hmt2];exact mt_nox nmXQ x _ _ _ _ _ _ _
   have qw: ∀s (a:Id) (b:List AV),(a,b)∈mt2 s→a.isIt=false∧ ∀t,a.isNw t=(60==t):=fun s a b hp=>by
    rw [hmt2] at hp
    simp only at hp
    unfold mtB at hp
    rcases List.mem_cons.1 hp with e|hp
    ·cases e;exact ⟨rfl,fun s=>by simp [qM,Id.isNw,Id.isUp]⟩
    ·rcases List.mem_cons.1 hp with e|hp
     ·cases e;exact ⟨rfl,fun s=>by simp [qA,Id.isNw,Id.isUp]⟩
     ·obtain ⟨i,_,e|e⟩:=mem_rgsB.1 hp
      ·cases e;exact ⟨rfl,fun s=>by simp [qR,R0,Id.isNw,Id.isUp]⟩
      ·cases e;exact ⟨rfl,fun s=>by simp [qB,B0,Id.isNw,Id.isUp]⟩
   have qnw: ∀s j,Id.isNw 60 j=false→lkB (mt2 s) j=none:=fun s j h=>lkB_nw (fun a b hm=>by rw [(qw s a b hm).2];rfl) h
   have mnw: ∀s j,Id.isNw 26 j=false→lkB (mt s) j=none:=fun s j h=>lkB_nw (fun a b hm=>by rw [(mw s a b hm).2];rfl) h
   have qc: ∀s,lkB (mt2 s) (.nw 55 (.n 5))=none:=fun s=>qnw s _ rfl
   have mc: ∀s,lkB (mt s) (.nw 55 (.n 5))=none:=fun s=>mnw s _ rfl
   have qrX: ∀s,rmB (mt2 s) (fX 26)=mt2 s:=fun s=>rmB_no (q0 s)
   have qrc: ∀s,rmB (mt2 s) (.nw 55 (.n 5))=mt2 s:=fun s=>rmB_no (qc s)
   have mrc: ∀s,rmB (mt s) (.nw 55 (.n 5))=mt s:=fun s=>rmB_no (mc s)
   have gm2: ∀s,mxB (qM 60) (qA 60) (qR 60) (qB 60) (fX 26) x (winP x).length (winP x) (kN x) (wN x) s=(fX 26,xC x s.t s.sd s.L)::mt2 s:=fun s=>by rw [hmt2];rfl
   have q2u: ∀s,∀p∈(fX 26,xC x s.t s.sd s.L)::mt2 s,lkB ((fX 26,xC x s.t s.sd s.L)::mt2 s) p.1=some p.2:=fun s=>by rw [←gm2];exact mx_uniq nmXQ x _ _ _ _ s
   simp only [gm2] at TL
   have N1:=fun (s:Mt) e he=>mnow_spec (fM 26) (fA 26) nmpa x (winP x).length (intRows (winP x)) (pF x.c s.t) (pT x.c s.t) (pcG x.c s.t s.L) (pcT x.c s.t s.L) s.t s.sd e he
   obtain ⟨XC,hXC⟩: ∃XC:Mt→List AV,XC=fun s=>xC x s.t s.sd s.L:=⟨_,rfl⟩
   obtain ⟨MC,hMC⟩: ∃MC:Mt→List AV,MC=fun s=>mtC x (fA 26) (winP x).length (intRows (winP x)) (pF x.c s.t) (pT x.c s.t) (pcG x.c s.t s.L) (pcT x.c s.t s.L) s.t s.sd:=⟨_,rfl⟩
   have xCe: ∀s:Mt,xC x s.t s.sd s.L=XC s:=fun s=>by rw [hXC]
   have mCe: ∀s:Mt,mtC x (fA 26) (winP x).length (intRows (winP x)) (pF x.c s.t) (pT x.c s.t) (pcG x.c s.t s.L) (pcT x.c s.t s.L) s.t s.sd=MC s:=fun s=>by rw [hMC]
   simp only [xCe,mCe] at hGs hGm hMs N1 XP SM q2u TL
   have kG2: ∀s j,(lkB ((fX 26,XC s)::mt2 s) j).isSome=(lkB ((fX 26,XC s)::mt2 s) j).isSome:=fun _ _=>rfl
   have ec:c8=AC.cutAt 6 (AC.cutAt 4 (AC.tl 10 c8) (AC.tl 6 c8)) c8:=rfl
   rw [ec]
   generalize AC.tl 10 c8=t0 at TL ⊢
   generalize acRows l=RW at *
   generalize acRows m=RW2 at *
   generalize hstS:stS x (winP x).length (kN x) (wN x)=ST at *
   clear hG hrest hstS NM hmt hmt2 hD hXC hMC xCe mCe gm2
   generalize fM 26=FM at *
   generalize fX 26=FX at *
   generalize fA 26=FA at *
   generalize qM 60=QM at *
   generalize hP:x.row=P at *
   have e8:List.take 8 P=P:=List.take_of_length_le (by omega)
   have lM: ∀s:Mt,lkB (G s) FM=some (MC s):=fun s=>by rw [hGs s];simp [lkB,xm]
   have lX: ∀s:Mt,lkB (G s) FX=some (XC s):=fun s=>by rw [hGs s];simp [lkB]
   have GP: ∀s,∀p∈G s++[(Id.n 3,P)],lkB (G s++[(Id.n 3,P)]) p.1=some p.2:=fun s p hp=>by
    rcases List.mem_append.1 hp with hp|hp
    ·rw [lkB_app,gu s p hp]
    ·rw [List.mem_singleton] at hp
     subst hp
     rw [lkB_app,gn];simp [lkB]
   have GK: ∀s d,(lkB (G s) d).isSome=true→(lkB (G s++[(Id.n 3,P)]) d).isSome=true:=fun s d h=>by
    rw [lkB_app]
    obtain ⟨c,hc⟩:=Option.isSome_iff_exists.1 h
    rw [hc];rfl
   have REST: ∀(s:Mt) (k:Nat),k≤1000→MtOk x (winP x).length (kN x) (wN x) s k→ ∀e:List (Nat×AV),lk e 2= .sl RW2→lk e 3= .ptr (.n 3) 0→lk e 7= .ptr FM 0→lk e 8= .ptr FX 0→
     wpA (SpH Tryz.prog gl) (AC.cutAt 4 t0 (AC.tl 6 c8)) (postA [.t 6] (.bool true)) ⟨e,G s++[(.n 3,P)],[(.b FX 10,3)]⟩:=by
    intro s k k2 k3 e e2 e3 e7 e8'
    have MPs:=MP s k k3
    have XPs:=XP s k (by omega) k3
    have MGs:=MG s k k3
    have SMs:=SM s k (by omega) k3
    have WNs:=WN s
    have N1s:=N1 s
    have TLs:=TL s k k2 k3
    have b7:byteRows [7]=[[.int .u8 7]]:=rfl
    have b8:byteRows ([7]++D s)=[.int .u8 7]::byteRows (D s):=rfl
    have o1:=byteRows_one (D s)
    have rb:=rowBytes_of (D s)
    have muS:=mu s
    have m0S:=m0 s
    have mnS:=mn s
    have mwS:=mw s
    have q0S:=q0 s
    have qwS:=qw s
    have qcS:=qc s
    have mcS:=mc s
    have qrXS:=qrX s
    have qrcS:=qrc s
    have mrcS:=mrc s
    have mrS:=mr s
    have q2S:=q2u s
    have qnS:=qnw s
    have lMs:=hMs s
    rw [hGm s]
    rw [b7,b8] at MPs
    clear hGs hGm hMs DO MP XP MG SM WN N1 TL F gu gk gX gM gi gw gn mu mk m0 mn mw q0 qw qc mc qrX qrc mrc mr q2u kG2 GP GK lM lX hok ok0 aat
    have lMm:lkB (mt s) FM=some (MC s):=by rw [lMs];simp [lkB]
    clear lMs
    have nXc: ¬FX=Id.nw 55 (.n 5):=fun e=>by have:=mX 55;rw [e] at this;simp [Id.isNw,Id.isUp] at this
    have nXc': ¬Id.nw 55 (.n 5)=FX:=fun e=>nXc e.symm
    have nMc: ¬FM=Id.nw 55 (.n 5):=fun e=>by have:=mM 55;rw [e] at this;simp [Id.isNw,Id.isUp] at this
    have nMc': ¬Id.nw 55 (.n 5)=FM:=fun e=>nMc e.symm
    generalize byteRows (D s)=DB at *
    generalize mt s=M1 at *
    generalize mt2 s=M2 at *
    generalize MC s=MCs at *
    generalize XC s=XCs at *
    simp only [c8,AC.tl,AC.cutAt]
    simp -implicitDefEqProofs [e7]
    refine onH_psa (t:=51) (k:=1) (pre:=[(FX,XCs)]) (suf:=[(.n 3,P)]) MPs rfl ?_ ?_ muS (fun _=>rfl) ?_ ?_ rfl ?_ ?_ ?_
    ·simp [m0S]
    ·simp [mnS]
    ·simp [mX]
     intro a b hm
     rcases hm with hm|hm
     ·rw [(mwS a b hm).2];rfl
     ·rw [hm.1];rfl
    ·simp [m0S]
    ·simp
    ·simp [e7]
    simp -implicitDefEqProofs
    refine ⟨by omega,o1,?_⟩
    refine onH_mk _ _ WNs ⟨?_,?_,?_,?_,?_,?_,?_⟩ ?_
    iterate 6 (· simp)
    ·simp [mX]
     intro a b hm
     rcases hm with hm|hm|hm
     ·rw [(mwS a b hm).2];rfl
     ·rw [hm.1,mX];rfl
     ·rw [hm.1];rfl
    simp -implicitDefEqProofs [e3,e7,lkB_app,mnS,nX,nX',nM',P1,e8,P3]
    refine onR_mk _ (by simp -implicitDefEqProofs [lMm,lkB_app,nMc']) (fun e he=>N1s e he) ?_
    simp -implicitDefEqProofs [xm,xm',nXc,nXc']
    refine onQ_mk _ _ MGs ⟨?_,?_,?_,?_,?_,?_,?_⟩ ⟨?_,?_,?_⟩ ?_
    iterate 5 (· simp)
    ·simp
     exact fun a b hm=> .inr ⟨by rw [(qwS a b hm).2];rfl,(qwS a b hm).1⟩
    ·simp [mX]
     intro a b hm
     rcases hm with hm|hm|hm
     ·rw [(mwS a b hm).2];rfl
     ·rw [hm.1,mX];rfl
     ·rw [hm.1];rfl
    ·simp
    ·simp
    ·intro p hp
     rcases List.mem_cons.1 hp with rfl|hp
     ·rfl
     ·exact inF_nw (fr:=[3]) (t:=60) rfl (by rw [(qwS p.1 p.2 hp).2];rfl)
    simp -implicitDefEqProofs [rmB_app,mrcS,nXc,nXc',rb]
    refine ⟨by omega,o1,?_⟩
    have fx3:inF [3] FX=false:=fXn [3] rfl
    have fr0: ∀(j:Nat),j≠26→j≠60→j≠55→ ∀(a:Id) (b:List AV),(a=Id.nw 55 (.n 5)∧b=rdv (some [])∨a=FX∧b=XCs∨(a,b)∈M2∨(a,b)∈M1∨a=Id.n 3∧b=P)→a.isNw j=false:=by
     intro j j1 j2 j3 a b hm
     have j1':(26==j)=false:=by rw [beq_eq_false_iff_ne];exact fun q=>j1 q.symm
     have j2':(60==j)=false:=by rw [beq_eq_false_iff_ne];exact fun q=>j2 q.symm
     have j3':(55==j)=false:=by rw [beq_eq_false_iff_ne];exact fun q=>j3 q.symm
     rcases hm with hm|hm|hm|hm|hm
     ·rw [hm.1];simp only [Id.isNw,j3'];rfl
     ·rw [hm.1,mX,j1']
     ·rw [(qwS a b hm).2,j2']
     ·rw [(mwS a b hm).2,j1']
     ·rw [hm.1];rfl
    refine onQ_mk _ _ XPs ⟨?_,?_,?_,?_,?_,?_,?_⟩ ⟨?_,?_,?_⟩ ?_
    ·simp [e8']
    ·simp [lkB_app,q0S,m0S,nXc']
    ·simp
    ·simp
    ·simp
    ·simp
    ·intro p hp
     refine fr0 70 (by decide) (by decide) (by decide) p.1 p.2 ?_
     obtain ⟨a,b⟩:=p
     simp only [List.mem_cons,List.mem_append,List.mem_nil_iff,or_false,Prod.mk.injEq] at hp
     rcases hp with h|h|h|h|h
     ·exact .inl h
     ·exact .inr (.inr (.inl h))
     ·exact .inr (.inr (.inr (.inl h)))
     ·exact .inr (.inl h)
     ·exact .inr (.inr (.inr (.inr h)))
    ·simp [Pl.isB]
    ·intro p hp
     rw [List.mem_singleton] at hp
     subst hp
     simp only [Pl.isF,fx3];rfl
    ·intro p hp
     rw [List.mem_singleton] at hp
     subst hp
     exact fx3
    simp -implicitDefEqProofs [rmB_app,qrXS,mrS,nXc',nX',rb,lkB_app,q0S,m0S]
    refine onQ_mk _ _ WE ⟨?_,?_,?_,?_,?_,?_,?_⟩ ⟨?_,?_,?_⟩ ?_
    ·simp
    ·simp [lkB_app,nXc,nXc']
    ·simp
    ·simp
    ·simp
    ·simp
    ·intro p hp
     refine fr0 80 (by decide) (by decide) (by decide) p.1 p.2 ?_
     obtain ⟨a,b⟩:=p
     simp only [List.mem_cons,List.mem_append,List.mem_nil_iff,or_false,Prod.mk.injEq] at hp
     rcases hp with h|h|h|h|h
     ·exact .inr (.inl h)
     ·exact .inl h
     ·exact .inr (.inr (.inl h))
     ·exact .inr (.inr (.inr (.inl h)))
     ·exact .inr (.inr (.inr (.inr h)))
    ·simp [Pl.isB]
    ·simp [Pl.isF]
    ·intro p hp
     rw [List.mem_singleton] at hp
     subst hp
     rfl
    simp -implicitDefEqProofs [rmB_app,qrcS,mrcS,nXc,nXc']
    refine onQ_xs (pre:=[(Id.nw 55 (.n 5),rdv (some []))]) (suf:=M1++[(.n 3,P)]) (q:=[(.s 52,1)]) (fr:=[3]) SMs rfl rfl ?_ ?_ ?_ q2S (fun _=>rfl) ?_ ?_ ?_ fx3 ?_ ?_
    ·simp
    ·simp [nXc,nXc',qcS]
    ·intro p hp
     simp only [lkB]
     rcases List.mem_append.1 hp with hp|hp
     ·rw [if_neg (fun e=>by have q:=muS p hp;rw [←e,m0S] at q;cases q)]
      exact qnS _ (by rw [(mwS p.1 p.2 hp).2];rfl)
     ·rw [List.mem_singleton] at hp
      subst hp
      rw [if_neg (nX 3)]
      exact qnS _ rfl
    ·intro p hp
     refine fr0 86 (by decide) (by decide) (by decide) p.1 p.2 ?_
     obtain ⟨a,b⟩:=p
     simp only [List.mem_cons,List.mem_append,List.mem_nil_iff,or_false,Prod.mk.injEq] at hp
     rcases hp with h|h|h|h|h
     ·exact .inl h
     ·exact .inr (.inl h)
     ·exact .inr (.inr (.inl h))
     ·exact .inr (.inr (.inr (.inl h)))
     ·exact .inr (.inr (.inr (.inr h)))
    ·simp
    ·simp [e8']
    ·intro p hp
     rcases List.mem_cons.1 hp with rfl|hp
     ·exact fx3
     ·exact inF_nw (fr:=[3]) (t:=60) rfl (by rw [(qwS p.1 p.2 hp).2];rfl)
    simp -implicitDefEqProofs
    refine TLs _ _ _ ?_ ?_ ?_ ?_ ?_ ?_
    ·simp [e2]
    ·simp [e8']
    ·simp
    ·intro p hp
     have q:=q2S p hp
     change lkB (((FX,XCs)::M2)++([(Id.nw 55 (.n 5),rdv (some []))]++(M1++[(Id.n 3,P)]))) p.1=some p.2
     rw [lkB_app,q]
    ·simp
    ·simp
   generalize AC.cutAt 4 t0 (AC.tl 6 c8)=t1 at REST ⊢
   simp only [c8,AC.cutAt]
   simp -implicitDefEqProofs
   refine onC_mk _ (AW) ?_
   simp -implicitDefEqProofs [P1,e8,P3]
   refine onC_mk _ (H) ?_
   simp -implicitDefEqProofs [P1,e8,P3]
   refine onC_mk _ (RG) ?_
   simp -implicitDefEqProofs [P1,e8,P3]
   refine onH_mk _ _ F ⟨?_,?_,?_,?_,?_,?_,?_⟩ ?_
   iterate 5 (· simp [gn,P1,e8,P3])
   ·simp
    intro a b hm
    obtain ⟨h1,h2⟩:=gw _ a b hm
    exact ⟨by rw [h2];rfl,h1⟩
   ·simp
   simp -implicitDefEqProofs [gn,lkB_app]
   refine wp_lpk (α:=Nat×Mt) (fun p=>⟨[(1,.sl RW),(2,.sl RW2),(3,.ptr (.n 3) 0),(7,.ptr FM 0),(8,.ptr FX 0),(10,i6 p.1)],G p.2++[(.n 3,P)],[(.b FX 10,3)]⟩)
    (fun p=>p.1≤l.length∧p.1≤100∧MtOk x (winP x).length (kN x) (wN x) p.2 p.1) (fun p=>l.length - p.1) ?_ (0,mt0) ?_ ?_
   ·rintro K ⟨k,s⟩ hK ⟨k1,k2,k3⟩
    by_cases c:k<l.length∧k<100
    ·obtain ⟨c1,c2⟩:=c
     have c1':(k:Int)<l.length:=by omega
     have c2':(k:Int)<100:=by omega
     have w1:IntKind.i64.wrap ((k:Int)+1)=(k+1:Nat):=by rw [wr]<;>omega
     have kl:k<RW.length:=by omega
     have ew0:=aat k c1
     have ew:RW[k]'kl=l[k].row:=by rw [List.getElem?_eq_getElem kl] at ew0;exact Option.some.inj ew0
     have r4:=a4 _ (List.getElem_mem kl)
     have D1:=DO s k (by simp only at k2;omega) k3 l[k] (hal _ (List.getElem_mem c1))
     have fin:=fun σ' (hσ:Weak σ' _)=>hK (k+1,ST s l[k]) σ' ⟨by simp only;omega,by simp only;omega,hok s k k3 l[k]⟩ (by simp only;omega) hσ
     rw [ew] at r4
     clear hK DO hok aat SM F TL MP XP MG N1 hGs hGm hMs
     generalize ST s l[k]=s' at *
     generalize l[k].row=r at *
     have e4:List.take 4 r=r:=List.take_of_length_le (by omega)
     simp -implicitDefEqProofs [al,c1,c1',c2',c2,kl,ew,ew0,a4,r4,e4]
     refine onH_xs (pre:=[]) (suf:=[(.n 3,P)]) (q:=[]) (D1 _ (by rw [mM];rfl)) rfl rfl (gX _) ?_ ?_ (gu _) (gk _ _) ?_ ?_ ?_ ?_
     ·simp
     ·simp [gn]
     ·simp
      intro a b hm
      rcases hm with hm|hm
      ·rw [(gw _ a b hm).2];rfl
      ·rw [hm.1];rfl
     ·simp
     ·simp
     simp -implicitDefEqProofs [w1]
     refine fin _ (weak_mk ?_ (wkB_self (GP s')) ?_ ?_ ?_ ?_)
     ·simp [w1]
     ·simp
     ·simp [gM,gX,gn,lkB_app,lM,lX]
     ·intro p hp
      rcases List.mem_append.1 hp with hp|hp
      ·exact fun d hd=> .inl (GK s' d (gi s' p hp d hd))
      ·rw [List.mem_singleton] at hp
       subst hp
       intro d hd
       rw [P2] at hd;simp at hd
     ·simp [gM,gX,gn,lkB_app,lM,lX]
    ·have c1: ¬(k<l.length)∨ ¬(k<100):=by omega
     have fin:=REST s k (by simp only at k2;omega) k3
     clear hK DO hok aat F REST
     by_cases c2:k<l.length
     ·have c3: ¬(k:Int)<100:=by omega
      have c2':(k:Int)<l.length:=by omega
      have c3': ¬k<100:=by omega
      simp -implicitDefEqProofs [al,c2,c2',c3,c3']
      refine fin _ ?_ ?_ ?_ ?_<;>simp -implicitDefEqProofs
     ·have c2': ¬(k:Int)<l.length:=by omega
      simp -implicitDefEqProofs [al,c2,c2']
      refine fin _ ?_ ?_ ?_ ?_<;>simp -implicitDefEqProofs
   ·exact ⟨Nat.zero_le _,Nat.zero_le _,ok0⟩
   ·refine weak_mk ?_ (wkB_self (GP mt0)) ?_ ?_ ?_ ?_
    ·simp
    ·simp
    ·simp [gM,gX,gn,lkB_app,lM,lX]
    ·intro p hp
     rcases List.mem_append.1 hp with hp|hp
     ·exact fun d hd=> .inl (GK mt0 d (gi mt0 p hp d hd))
     ·rw [List.mem_singleton] at hp
      subst hp
      intro d hd
      rw [P2] at hd;simp at hd
    ·simp [gM,gX,gn,lkB_app,lM,lX]
theorem meterBytes_law (x:Gl) (l:List Ac) (hal: ∀a∈l,a.t<18446744073709551616) (m:List Ac) (ham: ∀a∈m,a.t<18446744073709551616):Sp Tryz.prog gl 8 [.agg x.row,.sl (acRows l),.sl (acRows m)] (.bool true):=meterBytes_spec x l m hal ham
end Go.Ai
namespace Go.Ai
open Go.Proofs Go.Lib
set_option maxRecDepth 100000
def accCells:List Value:=(List.range 32).map fun o=>Value.int .u8 (if o%2=0 then (accLo (o / 2):Int) else (accHi (o / 2):Int))
def firstCells:List Value:=firstTab.map fun z=>Value.int .u8 z
theorem first_cell {W:World} (h:VarReads Tryz.prog W "unicode/utf8.first" firstData) (o:Nat) (u:Value) (hu:firstCells[o]?=some u):W.cell? ⟨2,o,none⟩=some u∧u.oneCell'=true:=by
 have hg0:Tryz.prog.globalNamed "unicode/utf8.first"=some 2:=by kernel_rfl
 have ht0:(Tryz.prog.globals[2]?).map (·.type)=some 263:=by kernel_rfl
 obtain ⟨g,t,cs,fuel,p,hg,hty,hvar,hd⟩:=h
 obtain rfl:=Option.some.inj (hg0.symm.trans hg)
 obtain rfl:=Option.some.inj (ht0.symm.trans hty)
 have hcs:=cells_of_tab (t:=263) (e:=5) (n:=256) (by kernel_rfl) (by kernel_rfl) (by kernel_rfl) (by kernel_rfl) hd
 refine ⟨?_,?_⟩
 ·rw [World.var?_cell hg hvar o,←Array.getElem?_toList,hcs]
  exact hu
 ·obtain ⟨z,_,rfl⟩:=List.mem_map.1 (List.mem_of_getElem? hu)
  rfl
theorem acc_cell {W:World} (h:VarReads Tryz.prog W "unicode/utf8.acceptRanges" acceptData) (o:Nat) (u:Value) (hu:accCells[o]?=some u):W.cell? ⟨3,o,none⟩=some u∧u.oneCell'=true:=by
 have hg0:Tryz.prog.globalNamed "unicode/utf8.acceptRanges"=some 3:=by kernel_rfl
 have ht0:(Tryz.prog.globals[3]?).map (·.type)=some 266:=by kernel_rfl
 have hc0:Tryz.prog.cellsOf 265=2:=by kernel_rfl
 obtain ⟨g,t,cs,fuel,p,hg,hty,hvar,hd⟩:=h
 obtain rfl:=Option.some.inj (hg0.symm.trans hg)
 obtain rfl:=Option.some.inj (ht0.symm.trans hty)
 have ho:o<32:=by have:=(List.getElem?_eq_some_iff.1 hu).1;simpa [accCells] using this
 simp only [accCells,List.getElem?_map,List.getElem?_range ho,Option.map_some,Option.some.injEq] at hu
 subst hu
 refine ⟨?_,by split<;>rfl⟩
 have hi:o / 2<16:=by omega
 obtain ⟨fuel',d,q,hdi,he⟩:=array_elem (t:=266) (e:=265) (n:=16) (by kernel_rfl) hd (o / 2) hi
 simp only [List.getElem?_map,List.getElem?_range hi,Option.map_some,Option.some.injEq] at hdi
 subst hdi
 rw [hc0] at he
 obtain ⟨fs,hfs,hsz,hf⟩: ∃fs:Array Field,Tryz.prog.underlying 265=some (.struct fs)∧fs.size=2∧ ∀(i:Nat) (f:Field),fs[i]?=some f→Tryz.prog.underlying f.type=some (.int .u8)∧f.offset=i∧Tryz.prog.cellsOf f.type=1:=by
  refine ⟨_,(by kernel_rfl:Tryz.prog.underlying 265=some (.struct #[Field.mk "lo" 5 0 false "" "unicode/utf8" 0,Field.mk "hi" 5 1 false "" "unicode/utf8" 1])),rfl,fun j f hj=>?_⟩
  match j,hj with
  |0,hj=>simp at hj;subst hj;exact ⟨by kernel_rfl,rfl,by kernel_rfl⟩
  |1,hj=>simp at hj;subst hj;exact ⟨by kernel_rfl,rfl,by kernel_rfl⟩
  |j+2,hj=>simp at hj
 have hcs:=ints_of_struct hfs hf (by rw [hc0,hsz]) he
 have e0:=congrArg (·[0]?) hcs
 have e1:=congrArg (·[1]?) hcs
 simp only [List.getElem?_take,List.getElem?_drop] at e0 e1
 rw [World.var?_cell hg hvar o,←Array.getElem?_toList]
 by_cases hp:o%2=0
 ·rw [if_pos hp]
  have eo:o / 2*2+0=o:=by omega
  rw [eo] at e0
  simpa using e0
 ·rw [if_neg hp]
  have eo:o / 2*2+1=o:=by omega
  rw [eo] at e1
  simpa using e1
end Go.Ai
namespace Go.Ai
open Go.Proofs Go.Lib
set_option maxRecDepth 100000
theorem gl_is:gl=[(2,firstCells),(3,accCells)]:=by kernel_rfl
theorem u8_glo (W:World) (h:laidMet Tryz.prog [("unicode/utf8.acceptRanges",acceptData),("unicode/utf8.first",firstData)] W): ∀i us,List.lookup i gl=some us→ ∀(o:Nat) (u:Value),us[o]?=some u→W.cell? ⟨i,o,none⟩=some u∧u.oneCell'=true:=by
 intro i us hi o u hu
 rw [gl_is] at hi
 simp only [List.lookup] at hi
 split at hi
 ·rename_i e
  have e:=eq_of_beq e
  subst e
  obtain rfl:=Option.some.inj hi
  exact first_cell (laidMet.reads h (by simp)) o u hu
 ·split at hi
  ·rename_i e
   have e:=eq_of_beq e
   subst e
   obtain rfl:=Option.some.inj hi
   exact acc_cell (laidMet.reads h (by simp)) o u hu
  ·cases hi
end Go.Ai
