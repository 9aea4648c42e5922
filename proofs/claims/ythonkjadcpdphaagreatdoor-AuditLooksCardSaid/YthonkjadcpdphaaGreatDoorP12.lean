/- P12: a part of the proof: the rules, or what functions compute. Conditions: as each theorem says. -/
import Derived.Test.YthonkjadcpdphaaGreatDoorP11
import Derived.Test.YthonkjadcpdphaaGreatDoorAiUse
import Derived.Test.YthonkjadcpdphaaGreatDoorP1
set_option linter.unusedSimpArgs false
set_option linter.unusedVariables false
set_option maxRecDepth 20000
namespace Go.Ai
open Go.Proofs
def offS (y m:Nat):Nat:=stN y m - 719468
theorem offS_eq (y m:Nat):offS y m=stN y m - 719468:=rfl
theorem perF_eq (s t:Nat):perF s t=86400*offS (yearN (dayOf t)) (fstM s (dayOf t)):=by unfold perF;rw [offS_eq]
theorem perT_eq (s t:Nat):perT s t=86400*offS (yearN (dayOf t)) (fstM s (dayOf t)+s):=by unfold perT;rw [offS_eq]
theorem rtick05_off (Y:Nat) (y1:1970≤Y) (y2:Y≤10100) (m:Nat) (k1:1≤m) (k2:m≤12):Sp Tryz.prog gl 158 [.agg [i6 Y,i6 m,i6 1]] (i6 (86400*offS Y m:Nat)):=by
  have h:=rtick05_spec Y m y1 y2 k1 k2
  have hst:aheadN Y m=stN Y m:=by
    unfold stN
    rw [if_neg (by omega)]
  rw [hst,←offS_eq] at h
  exact h
theorem offS_le (y m:Nat) (k1:1≤m) (k2:m≤15) (k3:y≤12000):offS y m≤10000000:=by
  have:=stN_lt (y:=y) (m:=m) (by omega) k1 k2
  unfold offS;omega
theorem offS_next (y m:Nat) (h:1970≤y) (k1:1≤m) (k2:m≤12):offS y (m+1)=offS y m+dimN y m:=by
  have e:=stN_next (y:=y) (m:=m) (by omega) k1 k2
  have g:=stN_ge (y:=y) (m:=m) h k1 (by omega)
  unfold offS;omega
theorem offV (O:Nat→Nat) (F:Nat): ∃V:Nat→Int,(∀i,V i=((86400*O (F+i):Nat):Int))∧V 0=((86400*O F:Nat):Int):=⟨_,fun _=>rfl,rfl⟩
theorem dimN_le (y m : Nat) : dimN y m ≤ 31 := by unfold dimN; repeat' split
                                                  all_goals omega
set_option maxHeartbeats 1600000 in
theorem rperiod05_spec (s t:Nat) (hs:s=1∨s=3) (ht:t≤253402300799):Sp Tryz.prog gl 100 [i6 t,i6 s] (.tup [i6 (perF s t),i6 (perT s t)]):=by
  refine s100 rfl rfl ?_
  have A:=rat05_spec t ht
  obtain ⟨y1,y2,m1,m2,-,-⟩:=at_ok (dayOf t) (by unfold dayOf;omega) (by unfold dayOf;omega)
  have f:=fstM_ok (n:=dayOf t) hs m1 m2
  have hf:fstM s (dayOf t)%s=1%s:=by
    unfold fstM
    rcases hs with rfl|rfl<;>omega
  rw [perF_eq,perT_eq]
  have T':=rtick05_off (yearN (dayOf t)) y1 y2
  have ub: ∀m,1≤m→m≤15→offS (yearN (dayOf t)) m≤10000000:=fun m k1 k2=>offS_le _ m k1 k2 (by omega)
  have nx: ∀m,1≤m→m≤12→offS (yearN (dayOf t)) (m+1)=offS (yearN (dayOf t)) m+dimN (yearN (dayOf t)) m:=fun m k1 k2=>offS_next _ m y1 k1 k2
  have dl:=dimN_le (yearN (dayOf t))
  have DM:=fun m k1 k2=>rdays_spec (yearN (dayOf t)) m k1 k2
  generalize fstM s (dayOf t)=F at *
  generalize offS (yearN (dayOf t))=O at *
  generalize dimN (yearN (dayOf t))=Dn at *
  generalize (dayOf t - aheadN (yearN (dayOf t)) (monthN (dayOf t))+1)=D at *
  generalize yearN (dayOf t)=Y at *
  generalize monthN (dayOf t)=M at *
  obtain ⟨V,hV,hV0⟩:=offV O F
  rw [←hV s,←hV0]
  simp -implicitDefEqProofs [c100]
  refine onC_mk _ A ?_
  simp -implicitDefEqProofs
  refine wp_lpk (α:=Nat) (fun g=>⟨[(7,i6 g),(1,i6 s),(6,.ptr (.n 6) 0)],[(.n 6,[i6 Y,i6 M,i6 D])],[]⟩) (fun g=>1≤g∧g≤M∧g%s=1%s) (fun g=>M - g) ?_ 1 ?_ ?_
  · rintro K g hK ⟨g1,g2,g3⟩
    have w1:IntKind.i64.wrap ((g:Int)+s)=(g+s:Nat):=by rw [wr]<;>omega
    by_cases h:g+s≤M
    · have h':((g+s:Nat):Int)≤M:=by omega
      have fin: ∀σ',Weak σ' ⟨[(7,i6 (g+s:Nat)),(1,i6 s),(6,.ptr (.n 6) 0)],[(.n 6,[i6 Y,i6 M,i6 D])],[]⟩→K σ':=
        fun σ' hσ=>hK (g+s) σ' ⟨by omega,h,by rw [Nat.add_mod_right];exact g3⟩ (by omega) hσ
      clear hK
      generalize ((g+s:Nat):Int)=G at *
      generalize g+s=G' at *
      simp -implicitDefEqProofs
      simp only [w1,h',decide_true,onB_true]
      simp -implicitDefEqProofs
      try simp only [w1]
      refine fin _ ?_
      refine weak_mk ?_ ?_ ?_ ?_ ?_ ?_<;>simp -implicitDefEqProofs
    · have eg:g=F:=by rcases hs with rfl|rfl<;>omega
      subst eg
      clear hK
      have h': ¬(((g+s:Nat):Int)≤M):=by omega
      generalize ((g+s:Nat):Int)=G at *
      have T1:=T' g g1 (by omega)
      rw [←hV0] at T1
      clear hV0 T'
      simp -implicitDefEqProofs
      simp only [w1,h',decide_false,onB_false]
      simp -implicitDefEqProofs
      refine onC_mk _ T1 ?_
      simp -implicitDefEqProofs
      refine wp_lpk (α:=Nat) (fun i=>⟨[(8,i6 (V 0)),(9,i6 (V i)),(10,i6 i),(7,i6 g),(1,i6 s),(6,.ptr (.n 6) 0)],[(.n 6,[i6 Y,i6 M,i6 D])],[]⟩) (fun i=>i≤s) (fun i=>s - i) ?_ 0 ?_ ?_
      · intro K i hK k1
        have u1:=ub (g+i) (by omega) (by omega)
        by_cases k:i<s
        · have k':(i:Int)<s:=by omega
          have u2:=ub (g+i+1) (by omega) (by omega)
          have A2:=DM (g+i) (by omega) (by omega)
          have e:=nx (g+i) (by omega) (by omega)
          have d1:=dl (g+i)
          have w2:IntKind.i64.wrap ((g:Int)+i)=(g+i:Nat):=by rw [wr]<;>omega
          have w3:IntKind.i64.wrap (86400*((Dn (g+i):Nat):Int))=86400*((Dn (g+i):Nat):Int):=wr (by omega) (by omega)
          have w4:IntKind.i64.wrap (V i+86400*((Dn (g+i):Nat):Int))=V (i+1):=by rw [hV,hV,show g+(i+1)=g+i+1 by omega,wr]<;>omega
          have w5:IntKind.i64.wrap ((i:Int)+1)=(i+1:Nat):=by rw [wr]<;>omega
          have fin: ∀σ',Weak σ' ⟨[(8,i6 (V 0)),(9,i6 (V (i+1))),(10,i6 (i+1:Nat)),(7,i6 g),(1,i6 s),(6,.ptr (.n 6) 0)],[(.n 6,[i6 Y,i6 M,i6 D])],[]⟩→K σ':=
            fun σ' hσ=>hK (i+1) σ' (by omega) (by omega) hσ
          clear hK u1 u2 e d1
          clear hV nx ub
          generalize V (i+1)=V2 at *
          generalize V i=V1 at *
          generalize V 0=V0 at *
          generalize ((i+1:Nat):Int)=i2 at *
          generalize Dn (g+i)=Dg at *
          generalize ((g+i:Nat):Int)=gi at *
          simp -implicitDefEqProofs [k,k']
          simp only [w2]
          refine onC_mk _ A2 ?_
          simp -implicitDefEqProofs
          simp only [w3,w4,w5]
          refine fin _ ?_
          refine weak_mk ?_ ?_ ?_ ?_ ?_ ?_<;>simp -implicitDefEqProofs
        · obtain rfl:i=s:=by omega
          have k': ¬((i:Int)<i):=by omega
          clear hK
          simp -implicitDefEqProofs [k,k']
      · exact Nat.zero_le _
      · refine weak_mk ?_ ?_ ?_ ?_ ?_ ?_<;>simp -implicitDefEqProofs
  · exact ⟨by omega,m1,rfl⟩
  · refine weak_mk ?_ ?_ ?_ ?_ ?_ ?_<;>simp -implicitDefEqProofs
end Go.Ai
namespace Go.Ai
abbrev Ev:=Nat×Nat×Nat
def eT (e:Ev):Nat:=e.2.2
open Go.Proofs
end Go.Ai
namespace Go.Ai
open Go.Proofs
structure Pr2 (R B:Id):Prop where
 ri:R.isIt=false
 bi:B.isIt=false
 ne:R≠B
 nw: ∀e,R.isNw e=B.isNw e
theorem Pr2.up {R B:Id} (h:Pr2 R B):Pr2 (.up R) (.up B):=⟨h.ri,h.bi,fun e=>h.ne (by cases e;rfl),fun _=>rfl⟩
open Go.Proofs
end Go.Ai
namespace Go.Ai
open Go.Proofs
end Go.Ai
