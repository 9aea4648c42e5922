/- P7: a part of the proof: the rules, or what functions compute. Conditions: as each theorem says. -/
import Derived.Test.YtggemlhclppciaaGreatDoorP6
import Derived.Test.YtggemlhclppciaaGreatDoorP4
import Derived.Test.YtggemlhclppciaaGreatDoorP2
import Derived.Test.YtggemlhclppciaaGreatDoorP5
import Derived.Test.YtggemlhclppciaaGreatDoorP1
import Derived.Test.YtggemlhclppciaaGreatDoorLib10
set_option linter.unusedSimpArgs false
set_option linter.unusedVariables false
set_option maxRecDepth 20000
namespace Go.Ai
open Go.Proofs
theorem cutSuf_le (s t:List UInt8):(cutSuf s t).length≤s.length:=by
 unfold cutSuf
 split
 ·rw [List.length_take];omega
 ·exact Nat.le_refl _
theorem ppread_spec (s:List UInt8) (hl:s.length≤1000000):Sp Tryz.prog gl 146 [.str s] (.tup [.int .u32 (ppF s).1,i6 (ppF s).2]):=by
 refine s146 rfl rfl ?_
 have CS:=cutSuf_spec s [37] hl (by simp)
 have bl:=cutSuf_le s [37]
 unfold ppF
 generalize cutSuf s [37]=b at *
 have hb:b.length≤1000000:=by omega
 cases hs:sufB s [37]
 ·rw [hs] at CS
  rw [if_pos rfl]
  clear bl
  simp -implicitDefEqProofs [c146]
  refine onC_mk _ (CS) ?_
  simp -implicitDefEqProofs
 rw [hs] at CS
 rw [if_neg (by decide)]
 have CB:=cutBy_spec 46 b hb
 unfold cutBV at CB
 by_cases g:(b.takeWhile (notB 46)).length<b.length
 ·rw [if_pos g] at CB ⊢
  have W:=whole_spec (b.takeWhile (notB 46)) (by omega)
  have PN:=pnumber_spec (b.drop ((b.takeWhile (notB 46)).length+1)) (by rw [List.length_drop];omega) 4 (by omega)
  have HS:=hasSufP_spec (b.drop ((b.takeWhile (notB 46)).length+1)) [48] (by rw [List.length_drop];omega) (by simp)
  clear g hb bl hs
  generalize b.drop ((b.takeWhile (notB 46)).length+1)=tl at *
  generalize b.takeWhile (notB 46)=hd at *
  generalize wholeF hd=wh at *
  generalize pnF (runesL tl 0) 4=q at *
  generalize sufB tl [48]=sb at *
  obtain ⟨n,o⟩:=wh
  obtain ⟨m,i⟩:=q
  unfold ppFin
  dsimp only at W PN ⊢
  cases o
  ·rw [if_pos (.inl rfl)]
   cases i
   ·simp [c146]
    refine onC_mk _ (CS) ?_
    simp -implicitDefEqProofs
    refine onC_mk _ (CB) ?_
    simp -implicitDefEqProofs
    refine onC_mk _ (W) ?_
    simp -implicitDefEqProofs
    refine onC_mk _ (PN) ?_
    simp -implicitDefEqProofs
   ·simp [c146]
    refine onC_mk _ (CS) ?_
    simp -implicitDefEqProofs
    refine onC_mk _ (CB) ?_
    simp -implicitDefEqProofs
    refine onC_mk _ (W) ?_
    simp -implicitDefEqProofs
    refine onC_mk _ (PN) ?_
    simp -implicitDefEqProofs
    refine onC_mk _ (HS) ?_
    simp -implicitDefEqProofs
  cases i
  ·rw [if_pos (.inr rfl)]
   simp -implicitDefEqProofs [c146]
   refine onC_mk _ (CS) ?_
   simp -implicitDefEqProofs
   refine onC_mk _ (CB) ?_
   simp -implicitDefEqProofs
   refine onC_mk _ (W) ?_
   simp -implicitDefEqProofs
   refine onC_mk _ (PN) ?_
   simp -implicitDefEqProofs
  cases sb
  rotate_left
  ·rw [if_pos (.inr rfl)]
   simp -implicitDefEqProofs [c146]
   refine onC_mk _ (CS) ?_
   simp -implicitDefEqProofs
   refine onC_mk _ (CB) ?_
   simp -implicitDefEqProofs
   refine onC_mk _ (W) ?_
   simp -implicitDefEqProofs
   refine onC_mk _ (PN) ?_
   simp -implicitDefEqProofs
   refine onC_mk _ (HS) ?_
   simp -implicitDefEqProofs
  rw [if_neg (by rintro (h|h)<;>cases h)]
  have w1:IntKind.u32.wrap ((n:Int)*10000)=((n*10000%4294967296:Nat):Int):=by
   rw [wrap_u32m]
   omega
  have w2:IntKind.u32.wrap (((n*10000%4294967296:Nat):Int)+(m:Int))=(((n*10000%4294967296+m)%4294967296:Nat):Int):=by
   rw [wrap_u32m]
   omega
  generalize (n*10000%4294967296+m)%4294967296=z at *
  generalize ((n*10000%4294967296:Nat):Int)=y at *
  by_cases c1:100<n
  ·have c1':(100:Int)<n:=by omega
   rw [if_pos (.inl c1)]
   simp -implicitDefEqProofs [c146]
   refine onC_mk _ (CS) ?_
   simp -implicitDefEqProofs
   refine onC_mk _ (CB) ?_
   simp -implicitDefEqProofs
   refine onC_mk _ (W) ?_
   simp -implicitDefEqProofs
   refine onC_mk _ (PN) ?_
   simp -implicitDefEqProofs
   refine onC_mk _ (HS) ?_
   simp -implicitDefEqProofs [c1,c1']
  have c1': ¬(100:Int)<n:=by omega
  by_cases c2:n=100
  ·subst c2
   have w1':IntKind.u32.wrap 1000000=y:=by rw [←w1];rfl
   by_cases c3:0<m
   ·have c3':(0:Int)<m:=by omega
    rw [if_pos (.inr ⟨rfl,c3⟩)]
    simp -implicitDefEqProofs [c146]
    refine onC_mk _ (CS) ?_
    simp -implicitDefEqProofs
    refine onC_mk _ (CB) ?_
    simp -implicitDefEqProofs
    refine onC_mk _ (W) ?_
    simp -implicitDefEqProofs
    refine onC_mk _ (PN) ?_
    simp -implicitDefEqProofs
    refine onC_mk _ (HS) ?_
    simp -implicitDefEqProofs [c3,c3']
   ·have c3': ¬(0:Int)<m:=by omega
    rw [if_neg (by omega)]
    simp -implicitDefEqProofs [c146]
    refine onC_mk _ (CS) ?_
    simp -implicitDefEqProofs
    refine onC_mk _ (CB) ?_
    simp -implicitDefEqProofs
    refine onC_mk _ (W) ?_
    simp -implicitDefEqProofs
    refine onC_mk _ (PN) ?_
    simp -implicitDefEqProofs
    refine onC_mk _ (HS) ?_
    simp -implicitDefEqProofs [c3,c3',w1',w2]
  ·have c2':((n:Int)==100)=false:=beq_eq_false_iff_ne.2 (by omega)
   rw [if_neg (by omega)]
   simp -implicitDefEqProofs [c146]
   refine onC_mk _ (CS) ?_
   simp -implicitDefEqProofs
   refine onC_mk _ (CB) ?_
   simp -implicitDefEqProofs
   refine onC_mk _ (W) ?_
   simp -implicitDefEqProofs
   refine onC_mk _ (PN) ?_
   simp -implicitDefEqProofs
   refine onC_mk _ (HS) ?_
   simp -implicitDefEqProofs [c1,c1',c2,c2',w1,w2]
 ·rw [if_neg g] at CB ⊢
  have W:=whole_spec b hb
  clear g hb bl hs
  generalize wholeF b=wh at *
  obtain ⟨n,o⟩:=wh
  unfold ppFin
  dsimp only at W ⊢
  cases o
  ·rw [if_pos (.inl rfl)]
   simp -implicitDefEqProofs [c146]
   refine onC_mk _ (CS) ?_
   simp -implicitDefEqProofs
   refine onC_mk _ (CB) ?_
   simp -implicitDefEqProofs
   refine onC_mk _ (W) ?_
   simp -implicitDefEqProofs
  rw [if_neg (by rintro (h|h)<;>cases h)]
  have w1:IntKind.u32.wrap ((n:Int)*10000)=((n*10000%4294967296:Nat):Int):=by
   rw [wrap_u32m]
   omega
  have w2:IntKind.u32.wrap ((n*10000%4294967296:Nat):Int)=(((n*10000%4294967296+0)%4294967296:Nat):Int):=by
   rw [wrap_u32m]
   omega
  generalize (n*10000%4294967296+0)%4294967296=z at *
  generalize ((n*10000%4294967296:Nat):Int)=y at *
  by_cases c1:100<n
  ·have c1':(100:Int)<n:=by omega
   rw [if_pos (.inl c1)]
   simp -implicitDefEqProofs [c146]
   refine onC_mk _ (CS) ?_
   simp -implicitDefEqProofs
   refine onC_mk _ (CB) ?_
   simp -implicitDefEqProofs
   refine onC_mk _ (W) ?_
   simp -implicitDefEqProofs [c1,c1']
  have c1': ¬(100:Int)<n:=by omega
  rw [if_neg (by omega)]
  by_cases c2:n=100
  ·subst c2
   have w1':IntKind.u32.wrap 1000000=y:=by rw [←w1];rfl
   simp -implicitDefEqProofs [c146]
   refine onC_mk _ (CS) ?_
   simp -implicitDefEqProofs
   refine onC_mk _ (CB) ?_
   simp -implicitDefEqProofs
   refine onC_mk _ (W) ?_
   simp -implicitDefEqProofs [w1',w2]
  ·have c2':((n:Int)==100)=false:=beq_eq_false_iff_ne.2 (by omega)
   simp -implicitDefEqProofs [c146]
   refine onC_mk _ (CS) ?_
   simp -implicitDefEqProofs
   refine onC_mk _ (CB) ?_
   simp -implicitDefEqProofs
   refine onC_mk _ (W) ?_
   simp -implicitDefEqProofs [c1,c1',c2,c2',w1,w2]
open Go.Proofs
def hasB (c:UInt8) (s:List UInt8):Bool:=decide ((s.takeWhile (notB c)).length<s.length)
theorem cidx_spec (s:List UInt8):Sp Tryz.prog gl 191 [.str s,.str [46]] (i6 (Lib.indexByte s 46)):=by
 refine s191 rfl rfl ?_
 have IX:=idxB_spec s 46
 generalize Lib.indexByte s 46=k at *
 simp -implicitDefEqProofs [c191]
 refine onC_mk _ (IX) ?_
 simp -implicitDefEqProofs
theorem ccon_spec (s:List UInt8):Sp Tryz.prog gl 147 [.str s,.str [46]] (.bool (hasB 46 s)):=by
 refine s147 rfl rfl ?_
 have IX:=cidx_spec s
 have e:=ibB_line 46 s
 have hb:hasB 46 s=decide (0≤Lib.indexByte s 46):=by
  unfold hasB
  rw [e]
  split
  ·rename_i h
   rw [decide_eq_true h,decide_eq_true (by omega)]
  ·rename_i h
   rw [decide_eq_false h,decide_eq_false (by omega)]
 rw [hb]
 clear hb e
 generalize Lib.indexByte s 46=k at *
 simp -implicitDefEqProofs [c147]
 refine onC_mk _ (IX) ?_
 simp -implicitDefEqProofs
theorem ppF_lt (s:List UInt8):(ppF s).1<4294967296:=by
 have h: ∀a b,(ppFin a b).1<4294967296:=fun a b=>by
  unfold ppFin
  split
  ·simp
  ·split
   ·simp
   ·exact Nat.mod_lt _ (by decide)
 unfold ppF
 split
 ·simp
 ·split
  ·exact h _ _
  ·exact h _ _
theorem spR_le: ∀(l:List UInt8) (dg:Bool) (n la sm:Nat) (fr:Bool),sm≤253402300799→(spR l dg n la sm fr).1≤253402300799
 |[],dg,n,la,sm,fr,h=>by
  rw [spR]
  split
  ·simp
  ·split
   ·simp
   ·exact h
 |c::l,dg,n,la,sm,fr,h=>by
  rw [spR]
  split
  ·exact spR_le l _ _ _ _ _ h
  ·split
   ·simp
   ·split
    ·exact spR_le l _ _ _ _ _ h
    ·split
     ·exact spR_le l _ _ _ _ _ (by omega)
     ·exact spR_le l _ _ _ _ _ (by omega)
theorem spanU_le (s:List UInt8):(spanU s).1≤253402300799:=by
 rw [spanU_eq]
 unfold spanR
 split
 ·simp
 ·exact spR_le _ _ _ _ _ _ (by omega)
theorem tvA_shut (v:TV):shut v.av=some v.av:=by cases v<;>simp [TV.av]
def vR (w:List UInt8):Int:=if w=[] then 32 else r65 (stepR w 0).1
def sV (w:List UInt8):TV:=
 if digR (vR w)=false then (if nameT w=true then .t 1 w 0 else .e 5)
 else if w.all isDig=true then toldV 3 (numF w)
 else if sufB w [37]=true then toldV 5 (ppF w)
 else if hasB 46 w=true then toldV 4 (facF (w.takeWhile (notB 46)) (w.drop ((w.takeWhile (notB 46)).length+1)))
 else toldV 6 (spanU w)
set_option maxHeartbeats 1000000 in
theorem svalue_spec (w:List UInt8) (hl:w.length≤900000):Sp Tryz.prog gl 109 [.str w] (sV w).av:=by
 refine s109 rfl rfl ?_
 have D:=sdigit_spec (vR w)
 have NM:=tname_spec w hl
 have TR:=trimD_spec w (by omega)
 have TN:=trimD_nil w
 have NU:=snumber_spec w (by omega)
 have HS:=hasSufP_spec w [37] (by omega) (by simp)
 have PP:=ppread_spec w (by omega)
 have CC:=ccon_spec w
 have SP:=sspan_spec w (by omega)
 have FA:=fun h=>sfactor_spec w (by omega) h
 have pl:=ppF_lt w
 have sl:=spanU_le w
 have T5:=stold_spec 5 (ppF w).1 (ppF w).2
 have T6:=stold_spec 6 (spanU w).1 (spanU w).2
 have T3:=stold_spec 3 (numF w).1 0
 have hb:hasB 46 w=true→(w.takeWhile (notB 46)).length<w.length:=fun h=>by unfold hasB at h;exact of_decide_eq_true h
 unfold sV
 generalize toldV 4 (facF (w.takeWhile (notB 46)) (w.drop ((w.takeWhile (notB 46)).length+1)))=f4 at *
 generalize hasB 46 w=has at *
 generalize sufB w [37]=suf at *
 generalize Lib.trimS w [48,49,50,51,52,53,54,55,56,57]=tr at *
 generalize ppF w=q5 at *
 generalize spanU w=q6 at *
 generalize numF w=q3 at *
 generalize nameT w=nm at *
 obtain ⟨n5,e5⟩:=q5
 obtain ⟨n6,e6⟩:=q6
 obtain ⟨n3,e3⟩:=q3
 dsimp only at PP SP T5 T6 T3 pl sl
 have w5:IntKind.u64.wrap (n5:Int)=n5:=by rw [wrap_u64]<;>omega
 have w6:IntKind.u64.wrap (n6:Int)=n6:=by rw [wrap_u64]<;>omega
 obtain ⟨R,hR⟩: ∃R:TV,R=if digR (vR w)=false then (if nm=true then .t 1 w 0 else .e 5)
  else if w.all isDig=true then toldV 3 (n3,e3)
  else if suf=true then toldV 5 (n5,e5)
  else if has=true then f4
  else toldV 6 (n6,e6):=⟨_,rfl⟩
 rw [←hR]
 have i3w:IntKind.i32.wrap 32=32:=by decide
 simp -implicitDefEqProofs [c109]
 refine wp_lpk (α:=Nat) (fun _=>⟨[(0,.str w),(2,.nili),(3,i3 32),(13,.itp 13)],[(.it 13,[.itr w 0])],[]⟩) (fun _=>True) (fun _=>1) ?_ 0 trivial ?_
 ·rintro K _ hK _
  clear hK
  by_cases e:w=[]
  ·have ev:vR w=32:=if_pos e
   subst e
   rw [ev] at D hR
   rw [show digR 32=false from rfl] at D hR
   rw [if_pos rfl] at hR
   clear T3 T5 T6 FA SP CC PP HS NU TR
   cases nm
   ·rw [if_neg (by decide)] at hR
    subst hR
    unfold TV.av
    simp -implicitDefEqProofs
    refine onC_mk _ (D) ?_
    simp -implicitDefEqProofs
    refine onC_mk _ (NM) ?_
    simp -implicitDefEqProofs
   ·rw [if_pos rfl] at hR
    subst hR
    unfold TV.av
    simp -implicitDefEqProofs
    refine onC_mk _ (D) ?_
    simp -implicitDefEqProofs
    refine onC_mk _ (NM) ?_
    simp -implicitDefEqProofs
    refine onC_mk _ (D) ?_
    simp -implicitDefEqProofs
  have g:0<w.length:=List.length_pos_iff.2 e
  have ev:vR w=r65 (stepR w 0).1:=if_neg e
  have sr:=step_r65 w 0 g
  rw [←ev] at sr
  clear ev
  generalize vR w=r at *
  generalize (stepR w 0).2=wd at *
  cases hd:digR r
  ·rw [hd] at D hR
   rw [if_pos rfl] at hR
   clear T3 T5 T6 FA SP CC PP HS NU TR
   cases nm
   ·rw [if_neg (by decide)] at hR
    subst hR
    unfold TV.av
    simp -implicitDefEqProofs [g,sr]
    refine onC_mk _ (D) ?_
    simp -implicitDefEqProofs
    refine onC_mk _ (NM) ?_
    simp -implicitDefEqProofs
   ·rw [if_pos rfl] at hR
    subst hR
    unfold TV.av
    simp -implicitDefEqProofs [g,sr]
    refine onC_mk _ (D) ?_
    simp -implicitDefEqProofs
    refine onC_mk _ (NM) ?_
    simp -implicitDefEqProofs
    refine onC_mk _ (D) ?_
    simp -implicitDefEqProofs
  rw [hd] at D hR
  rw [if_neg (by decide)] at hR
  clear NM
  cases ha:w.all isDig
  ·rw [ha] at TN hR
   have k1:(tr==[])=false:=TN
   have k2: ¬tr=[]:=fun h=>by rw [h] at TN;cases TN
   have k3:tr.isEmpty=false:=by rw [List.isEmpty_eq_false_iff];exact k2
   rw [if_neg (by decide)] at hR
   clear T3 NU
   cases suf
   ·rw [if_neg (by decide)] at hR
    clear T5 PP
    cases has
    ·rw [if_neg (by decide)] at hR
     subst hR
     have hsh:=tvA_shut (toldV 6 (n6,e6))
     generalize (toldV 6 (n6,e6)).av=out at *
     clear FA
     simp -implicitDefEqProofs [g,sr]
     refine onC_mk _ (D) ?_
     simp -implicitDefEqProofs
     refine onC_mk _ (D) ?_
     simp -implicitDefEqProofs
     refine onC_mk _ (TR) ?_
     simp -implicitDefEqProofs [k1,k2,k3]
     refine onC_mk _ (HS) ?_
     simp -implicitDefEqProofs
     refine onC_mk _ (CC) ?_
     simp -implicitDefEqProofs
     refine onC_mk _ (SP) ?_
     simp -implicitDefEqProofs [w6]
     refine onH_mk _ _ ((T6.h)) ⟨?_,?_,?_,?_,?_,?_,?_⟩ ?_
     iterate 7 (· simp)
     simp -implicitDefEqProofs [hsh]
    ·rw [if_pos rfl] at hR
     subst hR
     have FA:=FA (hb rfl)
     have hsh:=tvA_shut R
     generalize R.av=out at *
     clear T6 SP
     simp -implicitDefEqProofs [g,sr]
     refine onC_mk _ (D) ?_
     simp -implicitDefEqProofs
     refine onC_mk _ (D) ?_
     simp -implicitDefEqProofs
     refine onC_mk _ (TR) ?_
     simp -implicitDefEqProofs [k1,k2,k3]
     refine onC_mk _ (HS) ?_
     simp -implicitDefEqProofs
     refine onC_mk _ (CC) ?_
     simp -implicitDefEqProofs
     refine onH_mk _ _ ((FA.h)) ⟨?_,?_,?_,?_,?_,?_,?_⟩ ?_
     iterate 7 (· simp)
     simp -implicitDefEqProofs [hsh]
   ·rw [if_pos rfl] at hR
    subst hR
    have hsh:=tvA_shut (toldV 5 (n5,e5))
    generalize (toldV 5 (n5,e5)).av=out at *
    clear FA T6 SP CC
    simp -implicitDefEqProofs [g,sr]
    refine onC_mk _ (D) ?_
    simp -implicitDefEqProofs
    refine onC_mk _ (D) ?_
    simp -implicitDefEqProofs
    refine onC_mk _ (TR) ?_
    simp -implicitDefEqProofs [k1,k2,k3]
    refine onC_mk _ (HS) ?_
    simp -implicitDefEqProofs
    refine onC_mk _ (PP) ?_
    simp -implicitDefEqProofs [w5]
    refine onH_mk _ _ ((T5.h)) ⟨?_,?_,?_,?_,?_,?_,?_⟩ ?_
    iterate 7 (· simp)
    simp -implicitDefEqProofs [hsh]
  ·rw [ha] at TN hR
   have k2:tr=[]:=by simpa using TN
   subst k2
   rw [if_pos rfl] at hR
   subst hR
   clear FA T6 SP CC T5 PP HS
   unfold numA at NU
   dsimp only at NU
   by_cases c3:e3=0
   ·subst c3
    rw [if_pos rfl] at NU
    have hsh:=tvA_shut (toldV 3 (n3,0))
    generalize (toldV 3 (n3,0)).av=out at *
    simp -implicitDefEqProofs [g,sr]
    refine onC_mk _ (D) ?_
    simp -implicitDefEqProofs
    refine onC_mk _ (D) ?_
    simp -implicitDefEqProofs
    refine onC_mk _ (TR) ?_
    simp -implicitDefEqProofs
    refine onH_mk _ _ ((NU.h)) ⟨?_,?_,?_,?_,?_,?_,?_⟩ ?_
    iterate 7 (· simp)
    simp -implicitDefEqProofs
    refine onH_mk _ _ ((T3.h)) ⟨?_,?_,?_,?_,?_,?_,?_⟩ ?_
    iterate 7 (· simp)
    simp -implicitDefEqProofs [hsh]
   ·rw [if_neg c3] at NU
    have et:(toldV 3 (n3,e3))= .e e3:=by unfold toldV;rw [if_neg c3]
    rw [et]
    unfold TV.av
    clear T3
    simp -implicitDefEqProofs [g,sr]
    refine onC_mk _ (D) ?_
    simp -implicitDefEqProofs
    refine onC_mk _ (D) ?_
    simp -implicitDefEqProofs
    refine onC_mk _ (TR) ?_
    simp -implicitDefEqProofs
    refine onH_mk _ _ ((NU.h)) ⟨?_,?_,?_,?_,?_,?_,?_⟩ ?_
    iterate 7 (· simp)
    simp -implicitDefEqProofs
    refine onH_mk _ _ ((NU.h)) ⟨?_,?_,?_,?_,?_,?_,?_⟩ ?_
    iterate 7 (· simp)
    simp -implicitDefEqProofs
 ·refine weak_mk ?_ ?_ ?_ ?_ ?_ ?_<;>simp -implicitDefEqProofs
open Go.Proofs
end Go.Ai
namespace Go.Ai
open Go.Proofs
def wdR (s:List UInt8):TV:=
 if dgsF s=true then toldV 3 (numF s)
 else if byt s (s.length - 1)=37 then toldV 5 (pprF s)
 else if hasB 46 s=true then toldV 4 (facF (s.takeWhile (notB 46)) (s.drop ((s.takeWhile (notB 46)).length+1)))
 else toldV 6 (spanR s)
def rV (m:List Int):TV:=
 if m=[]∨digR (m.headD 0)=false then (if nameT (textR m)=true then .t 1 (textR m) 0 else .e 5)
 else wdR (textR m)
end Go.Ai
namespace Go.Ai
open Go.Proofs Go.Shelf
def ren_wr:Ren:={
 f:=fun x=>match x with
  |168=>124
  |242=>164
  |278=>198
  |n=>ren_laysJoin.f n
 t:=fun x=>match x with
  |21=>21
  |46=>173
  |51=>39
  |n=>ren_laysJoin.t n
 g:=fun x=>x}
set_option maxRecDepth 100000 in
theorem laysWR:Lays.n168 Tryz.prog ren_wr where
 mixed:=laysJoin.mixed
 f168:=Eq.trans Tryz.func124 (congrArg some (show Tryz.f124=Body.n168 ren_wr by kernel_rfl))
 f240:=Eq.trans Tryz.func133 (congrArg some (show Tryz.f133=Body.n240 ren_wr by kernel_rfl))
 f242:=Eq.trans Tryz.func164 (congrArg some (show Tryz.f164=Body.n242 ren_wr by kernel_rfl))
 f276:=Eq.trans Tryz.func175 (congrArg some (show Tryz.f175=Body.n276 ren_wr by kernel_rfl))
 f278:=Eq.trans Tryz.func198 (congrArg some (show Tryz.f198=Body.n278 ren_wr by kernel_rfl))
 t0:=laysJoin.t0
 a0:=laysJoin.a0
 z0:=laysJoin.z0
 v0:=laysJoin.v0
 t3:=laysJoin.t3
 a3:=laysJoin.a3
 z3:=laysJoin.z3
 v3:=laysJoin.v3
 t4:=laysJoin.t4
 a4:=laysJoin.a4
 z4:=laysJoin.z4
 v4:=laysJoin.v4
 t5:=extraJ.t5
 a5:=extraJ.a5
 z5:=extraJ.z5
 v5:=extraJ.v5
 t9:=laysJoin.t9
 a9:=laysJoin.a9
 z9:=laysJoin.z9
 v9:=laysJoin.v9
 t20:=laysJoin.t20
 a20:=laysJoin.a20
 z20:=laysJoin.z20
 v20:=laysJoin.v20
 t21:=Tryz.underlying21
 a21:=Tryz.isAgg21
 z21:=Tryz.sizeOf21
 v21:=Tryz.zeroValue21
 t37:=laysJoin.t37
 a37:=laysJoin.a37
 z37:=laysJoin.z37
 v37:=laysJoin.v37
 t46:=Tryz.underlying173
 a46:=Tryz.isAgg173
 z46:=Tryz.sizeOf173
 v46:=Tryz.zeroValue173
 t51:=Tryz.underlying39
 a51:=Tryz.isAgg39
 z51:=Tryz.sizeOf39
 v51:=Tryz.zeroValue39
 t70:=laysJoin.t70
 a70:=laysJoin.a70
 z70:=laysJoin.z70
 v70:=laysJoin.v70
 t72:=laysJoin.t72
 a72:=laysJoin.a72
 z72:=laysJoin.z72
 v72:=laysJoin.v72
 t75:=laysJoin.t75
 a75:=laysJoin.a75
 z75:=laysJoin.z75
 v75:=laysJoin.v75
 t164:=laysJoin.t164
 a164:=laysJoin.a164
 z164:=laysJoin.z164
 v164:=laysJoin.v164
theorem extraW:Builder.Extra Tryz.prog ren_wr where
 sizeBuilder:=by kernel_rfl
 liesBuilder:=by kernel_rfl
 t5:=Tryz.underlying5
 a5:=Tryz.isAgg5
 z5:=Tryz.sizeOf5
 v5:=Tryz.zeroValue5
 infoByte:=by kernel_rfl
 cellsByte:=by kernel_rfl
 sizeByte:=by kernel_rfl
 neB5:=by decide
theorem encN_cells (r:Nat) (h:r≤1114111):runeV (r:Int)→Lib.byteCells (encN r)=Lib.runeCells (r:Int):=by
 intro hr
 have b8: ∀n:Nat,n<256→((UInt8.ofNat n).toNat:Int)=n:=fun n hn=>by rw [UInt8.toNat_ofNat_of_lt' (by simpa using hn)]
 unfold encN Lib.byteCells Lib.runeCells
 by_cases c1:r<128
 ·rw [if_pos c1,Lib.encodeRuneZ_one (by omega) (by omega)]
  simp only [List.map_cons,List.map_nil,b8 r (by omega)]
 rw [if_neg c1]
 by_cases c2:r<2048
 ·rw [if_pos c2,Lib.encodeRuneZ_two (by omega) (by omega)]
  simp only [List.map_cons,List.map_nil,b8 (192+r / 64) (by omega),b8 (128+r%64) (by omega)]
  rfl
 rw [if_neg c2]
 by_cases c3:r<65536
 ·rw [if_pos c3,Lib.encodeRuneZ_three (by rcases hr with h|h<;>omega)]
  simp only [List.map_cons,List.map_nil,b8 (224+r / 4096) (by omega),b8 (128+r / 64%64) (by omega),b8 (128+r%64) (by omega)]
  rfl
 rw [if_neg c3,Lib.encodeRuneZ_four (by omega) (by omega)]
 simp only [List.map_cons,List.map_nil,b8 (240+r / 262144) (by omega),b8 (128+r / 4096%64) (by omega),b8 (128+r / 64%64) (by omega),b8 (128+r%64) (by omega)]
 rfl
theorem wr_spec {d:Nat} {b:Id} (hit:b.isIt=false) (hnwb:b.isNw d=false) {T n:Nat} (hT:bldAt Tryz.prog 69 T n) {c0:AV} (hc0:c0= .nilT b T n∨c0= .ptr b 0) (rest:List AV) (l:List UInt8) (r:Nat) (hr:runeV (r:Int)) (h:r≤1114111) (hl:l.length+4≤140737488355328):
  SpH Tryz.prog gl 124 d ⟨[.ptr b 0,.int .i32 r],[(b,c0:: .sl (byteRows l)::rest)],[(.b b 1,bk 5)]⟩ ⟨.tup [.int .i64 (encN r).length,.undef],[(b,.ptr b 0:: .sl (byteRows (l++encN r))::rest)],[(.b b 1,bk 5)]⟩:=
 wr_shelf laysWR extraW (by kernel_rfl) (by kernel_rfl) hit hnwb (T:=T) (n:=n) (hc0.imp (fun h=>⟨h,hT⟩) id) (rest:=rest) l (encN r) r hr (encN_cells r h hr) hl
end Go.Ai
namespace Go.Ai
open Go.Proofs Go.Shelf
def hexR (r:Int):Int:=if digR r=true then r - 48 else if 97≤r∧r≤102 then r - 87 else -1
theorem thex_spec (r:Int):Sp Tryz.prog gl 247 [i3 r] (i3 (hexR r)):=by
 refine s247 rfl rfl ?_
 have D:=tdigit_spec r
 unfold hexR
 cases hd:digR r
 ·rw [hd] at D
  rw [if_neg (by decide)]
  by_cases c1:97≤r
  ·by_cases c2:r≤102
   ·rw [if_pos ⟨c1,c2⟩]
    have t1:IntKind.i32.wrap (r - 97)=r - 97:=by rw [wrap_i32']<;>omega
    have t2:IntKind.i32.wrap (r - 97+10)=r - 87:=by rw [wrap_i32']<;>omega
    simp -implicitDefEqProofs [c247]
    refine onC_mk _ (D) ?_
    simp -implicitDefEqProofs [c1,c2,t1,t2]
   ·rw [if_neg (fun h=>c2 h.2)]
    simp -implicitDefEqProofs [c247]
    refine onC_mk _ (D) ?_
    simp -implicitDefEqProofs [c1,c2]
  ·rw [if_neg (fun h=>c1 h.1)]
   simp -implicitDefEqProofs [c247]
   refine onC_mk _ (D) ?_
   simp -implicitDefEqProofs [c1]
 ·rw [hd] at D
  rw [if_pos rfl]
  have hh:48≤r∧r≤57:=by unfold digR at hd;exact of_decide_eq_true hd
  have t1:IntKind.i32.wrap (r - 48)=r - 48:=by rw [wrap_i32']<;>omega
  simp -implicitDefEqProofs [c247]
  refine onC_mk _ (D) ?_
  simp -implicitDefEqProofs [t1]
def validR (r:Int):Bool:=decide (0≤r∧r<55296)||decide (57343<r∧r≤1114111)
theorem validR_iff (r:Int):validR r=true↔runeV r:=by
 unfold validR runeV
 rw [Bool.or_eq_true,decide_eq_true_iff,decide_eq_true_iff]
theorem vrune_spec (r:Int):Sp Tryz.prog gl 239 [i3 r] (.bool (validR r)):=by
 refine s239 rfl rfl ?_
 unfold validR
 by_cases d1:0≤r
 ·by_cases d2:r<55296
  ·simp [c239,d1,d2]
  ·by_cases c1:57343<r
   ·by_cases c2:r≤1114111
    ·simp [c239,d1,d2,c1,c2]
    ·simp [c239,d1,d2,c1,c2]
   ·simp [c239,d1,d2,c1]
 ·have d2: ¬57343<r:=by omega
  simp -implicitDefEqProofs [c239,d1,d2]
end Go.Ai
namespace Go.Ai
open Go.Proofs Go.Shelf
structure Rd where
 out:List Int
 st:Int
 n:Nat
 c:Nat
def rdHd (b:Id):List Int→List AV
 |[]=>[.nilT b 260 5,.nils]
 |r::l=>[.ptr b 0,.sl (byteRows (textR (r::l)))]
def rdPm (b:Id):List Int→List (Pl×Nat)
 |[]=>[]
 |r::l=>[(.b b 1,bk 5)]
def rdBx (b:Id) (x:Rd):List AV:=rdHd b x.out++[i6 x.st,i3 x.n,i6 x.c]
def afterR (x:Rd) (r:Int):Rd×Bool:=
 if r=34∨r=92 then ({x with st:=0,out:=x.out++[r]},true)
 else if r=110 then ({x with st:=0,out:=x.out++[10]},true)
 else if r=116 then ({x with st:=0,out:=x.out++[9]},true)
 else if r=117 then ({x with st:=2},true)
 else ({x with st:=0},false)
def withinR (x:Rd) (r:Int):Rd×Bool:=
 if 0≤hexR r∧x.c<6 then ({x with n:=16*x.n+(hexR r).toNat,c:=x.c+1},true)
 else if r≠125∨x.c=0∨validR x.n=false then (x,false)
 else ({x with out:=x.out++[(x.n:Int)],st:=0},true)
theorem bld_reader:bldAt Tryz.prog 69 260 5:=by unfold bldAt;kernel_rfl
theorem rdHd_snoc (b:Id) (l:List Int) (r:Nat):rdHd b (l++[(r:Int)])=[.ptr b 0,.sl (byteRows (textR l++encN r))]:=by
 have e:textR (l++[(r:Int)])=textR l++encN r:=by
  rw [textR_append]
  have:encR (r:Int)=encN r:=by unfold encR;rw [if_neg (by omega),Int.toNat_natCast]
  rw [textR,textR,List.append_nil,this]
 rw [←e]
 cases l<;>rfl
theorem rdPm_snoc (b:Id) (l:List Int) (r:Int):rdPm b (l++[r])=[(.b b 1,bk 5)]:=by cases l<;>rfl
theorem rafter_spec (x:Rd) (hl:x.out.length≤1000000) (r:Int) (d:Nat) (b:Id) (hb:b.isIt=false) (hbd:b.isNw d=false):
  SpH Tryz.prog gl 241 d ⟨[.ptr b 0,i3 r],[(b,rdBx b x)],rdPm b x.out⟩ ⟨.bool (afterR x r).2,[(b,rdBx b (afterR x r).1)],rdPm b (afterR x r).1.out⟩:=by
 refine h241 rfl ?_
 have hib:=inn_notNw hbd
 have ne: ∀z:Int,¬r=z→(r==z)=false:=fun z h=>beq_eq_false_iff_ne.2 h
 have tl:=textR_len x.out
 have W:=fun (q:Nat) (hq:runeV (q:Int)) (hq2:q≤1114111) (c0:AV) (hc0:c0= .nilT (.up b) 260 5∨c0= .ptr (.up b) 0) e he=>wr_spec (d:=e) (b:= .up b) hb he bld_reader hc0 [i6 0,i3 x.n,i6 x.c] (textR x.out) q hq hq2 (by omega)
 unfold afterR
 by_cases c1:r=34∨r=92
 ·rw [if_pos c1]
  dsimp only
  obtain ⟨q,rfl⟩: ∃q:Nat,r=q:=⟨r.toNat,by omega⟩
  have hq:runeV (q:Int):=by unfold runeV;omega
  have W:=W q hq (by omega)
  unfold rdBx
  rw [rdHd_snoc,rdPm_snoc]
  have c1':((q:Int)==34)=true∨(((q:Int)==34)=false∧((q:Int)==92)=true):=by
   by_cases h:(q:Int)=34
   ·left;rw [h];rfl
   ·right;exact ⟨beq_eq_false_iff_ne.2 h,by rw [beq_iff_eq];omega⟩
  cases hx:x.out with
  |nil=>
   rw [hx] at W
   have W:=W _ (.inl rfl)
   rw [show textR []=[] from rfl,List.nil_append] at W ⊢
   rw [show byteRows []=[] from rfl] at W
   generalize byteRows (encN q)=B at *
   simp only [rdHd,rdPm]
   simp only [inSt,mpB,mpL,AV.mp,mpP,Pl.mp,List.cons_append,List.nil_append]
   rcases c1' with c1'|⟨c1',c2'⟩
   ·simp [c241,c1']
    refine onH_mk _ _ (W _ rfl) ⟨?_,?_,?_,?_,?_,?_,?_⟩ ?_
    iterate 7 (· simp [hb])
    simp -implicitDefEqProofs
    refine postH_r ⟨?_,?_,?_,?_,?_,?_⟩<;>simp -implicitDefEqProofs [hib,hb]
   ·simp [c241,c1',c2']
    refine onH_mk _ _ (W _ rfl) ⟨?_,?_,?_,?_,?_,?_,?_⟩ ?_
    iterate 7 (· simp [hb])
    simp -implicitDefEqProofs
    refine postH_r ⟨?_,?_,?_,?_,?_,?_⟩<;>simp -implicitDefEqProofs [hib,hb]
  |cons a l=>
   rw [hx] at W
   have W:=W _ (.inr rfl)
   generalize byteRows (textR (a::l)++encN q)=B at *
   simp only [rdHd,rdPm]
   generalize byteRows (textR (a::l))=B0 at *
   simp only [inSt,mpB,mpL,AV.mp,mpP,Pl.mp,List.cons_append,List.nil_append]
   rcases c1' with c1'|⟨c1',c2'⟩
   ·simp [c241,c1']
    refine onH_mk _ _ (W _ rfl) ⟨?_,?_,?_,?_,?_,?_,?_⟩ ?_
    iterate 7 (· simp [hb])
    simp -implicitDefEqProofs
    refine postH_r ⟨?_,?_,?_,?_,?_,?_⟩<;>simp -implicitDefEqProofs [hib,hb]
   ·simp [c241,c1',c2']
    refine onH_mk _ _ (W _ rfl) ⟨?_,?_,?_,?_,?_,?_,?_⟩ ?_
    iterate 7 (· simp [hb])
    simp -implicitDefEqProofs
    refine postH_r ⟨?_,?_,?_,?_,?_,?_⟩<;>simp -implicitDefEqProofs [hib,hb]
 rw [if_neg c1]
 have n1:=ne 34 (fun h=>c1 (.inl h))
 have n2:=ne 92 (fun h=>c1 (.inr h))
 by_cases c3:r=110
 ·rw [if_pos c3]
  subst c3
  dsimp only
  have W:=W 10 (by unfold runeV;omega) (by omega)
  unfold rdBx
  rw [show (10:Int)=((10:Nat):Int) from rfl,rdHd_snoc,rdPm_snoc]
  cases hx:x.out with
  |nil=>
   rw [hx] at W
   have W:=W _ (.inl rfl)
   rw [show textR []=[] from rfl,List.nil_append] at W ⊢
   rw [show byteRows []=[] from rfl] at W
   generalize byteRows (encN 10)=B at *
   simp only [rdHd,rdPm]
   simp only [inSt,mpB,mpL,AV.mp,mpP,Pl.mp,List.cons_append,List.nil_append]
   simp -implicitDefEqProofs [c241]
   refine onH_mk _ _ (W _ rfl) ⟨?_,?_,?_,?_,?_,?_,?_⟩ ?_
   iterate 7 (· simp [hb])
   simp -implicitDefEqProofs
   refine postH_r ⟨?_,?_,?_,?_,?_,?_⟩<;>simp -implicitDefEqProofs [hib,hb]
  |cons a l=>
   rw [hx] at W
   have W:=W _ (.inr rfl)
   generalize byteRows (textR (a::l)++encN 10)=B at *
   simp only [rdHd,rdPm]
   generalize byteRows (textR (a::l))=B0 at *
   simp only [inSt,mpB,mpL,AV.mp,mpP,Pl.mp,List.cons_append,List.nil_append]
   simp -implicitDefEqProofs [c241]
   refine onH_mk _ _ (W _ rfl) ⟨?_,?_,?_,?_,?_,?_,?_⟩ ?_
   iterate 7 (· simp [hb])
   simp -implicitDefEqProofs
   refine postH_r ⟨?_,?_,?_,?_,?_,?_⟩<;>simp -implicitDefEqProofs [hib,hb]
 rw [if_neg c3]
 have n3:=ne 110 c3
 by_cases c4:r=116
 ·rw [if_pos c4]
  subst c4
  dsimp only
  have W:=W 9 (by unfold runeV;omega) (by omega)
  unfold rdBx
  rw [show (9:Int)=((9:Nat):Int) from rfl,rdHd_snoc,rdPm_snoc]
  cases hx:x.out with
  |nil=>
   rw [hx] at W
   have W:=W _ (.inl rfl)
   rw [show textR []=[] from rfl,List.nil_append] at W ⊢
   rw [show byteRows []=[] from rfl] at W
   generalize byteRows (encN 9)=B at *
   simp only [rdHd,rdPm]
   simp only [inSt,mpB,mpL,AV.mp,mpP,Pl.mp,List.cons_append,List.nil_append]
   simp -implicitDefEqProofs [c241]
   refine onH_mk _ _ (W _ rfl) ⟨?_,?_,?_,?_,?_,?_,?_⟩ ?_
   iterate 7 (· simp [hb])
   simp -implicitDefEqProofs
   refine postH_r ⟨?_,?_,?_,?_,?_,?_⟩<;>simp -implicitDefEqProofs [hib,hb]
  |cons a l=>
   rw [hx] at W
   have W:=W _ (.inr rfl)
   generalize byteRows (textR (a::l)++encN 9)=B at *
   simp only [rdHd,rdPm]
   generalize byteRows (textR (a::l))=B0 at *
   simp only [inSt,mpB,mpL,AV.mp,mpP,Pl.mp,List.cons_append,List.nil_append]
   simp -implicitDefEqProofs [c241]
   refine onH_mk _ _ (W _ rfl) ⟨?_,?_,?_,?_,?_,?_,?_⟩ ?_
   iterate 7 (· simp [hb])
   simp -implicitDefEqProofs
   refine postH_r ⟨?_,?_,?_,?_,?_,?_⟩<;>simp -implicitDefEqProofs [hib,hb]
 rw [if_neg c4]
 have n4:=ne 116 c4
 clear W
 by_cases c5:r=117
 ·rw [if_pos c5]
  subst c5
  dsimp only
  unfold rdBx
  cases hx:x.out with
  |nil=>
   simp only [rdHd,rdPm]
   simp only [inSt,mpB,mpL,AV.mp,mpP,Pl.mp,List.cons_append,List.nil_append]
   simp -implicitDefEqProofs [c241]
   refine postH_r ⟨?_,?_,?_,?_,?_,?_⟩<;>simp -implicitDefEqProofs [hib,hb]
  |cons a l=>
   simp only [rdHd,rdPm]
   generalize byteRows (textR (a::l))=B0 at *
   simp only [inSt,mpB,mpL,AV.mp,mpP,Pl.mp,List.cons_append,List.nil_append]
   simp -implicitDefEqProofs [c241]
   refine postH_r ⟨?_,?_,?_,?_,?_,?_⟩<;>simp -implicitDefEqProofs [hib,hb]
 rw [if_neg c5]
 have n5:=ne 117 c5
 dsimp only
 unfold rdBx
 cases hx:x.out with
 |nil=>
  simp only [rdHd,rdPm]
  simp only [inSt,mpB,mpL,AV.mp,mpP,Pl.mp,List.cons_append,List.nil_append]
  simp -implicitDefEqProofs [c241,n1,n2,n3,n4,n5]
  refine postH_r ⟨?_,?_,?_,?_,?_,?_⟩<;>simp -implicitDefEqProofs [hib,hb]
 |cons a l=>
  simp only [rdHd,rdPm]
  generalize byteRows (textR (a::l))=B0 at *
  simp only [inSt,mpB,mpL,AV.mp,mpP,Pl.mp,List.cons_append,List.nil_append]
  simp -implicitDefEqProofs [c241,n1,n2,n3,n4,n5]
  refine postH_r ⟨?_,?_,?_,?_,?_,?_⟩<;>simp -implicitDefEqProofs [hib,hb]
end Go.Ai
namespace Go.Ai
open Go.Proofs Go.Shelf
theorem hexR_lt (r:Int):hexR r<16:=by
 unfold hexR digR
 split
 ·rename_i h
  have:=of_decide_eq_true h
  omega
 ·split<;>omega
theorem or_hex (x h:Nat) (hx:x<16777216) (hh:h<16):bits BinOp.or IntKind.i32 ((x*16:Nat):Int) (h:Int)=((16*x+h:Nat):Int):=by
 have hx2:x*16|||h=16*x+h:=by
  rw [show x*16=2^4*x by omega,←Nat.two_pow_add_eq_or_of_lt (by omega)]
 have h1:(BitVec.ofInt 32 ((x*16:Nat):Int)).toNat=x*16:=by
  rw [BitVec.ofInt_natCast,BitVec.toNat_ofNat];exact Nat.mod_eq_of_lt (by omega)
 have h2:(BitVec.ofInt 32 (h:Int)).toNat=h:=by
  rw [BitVec.ofInt_natCast,BitVec.toNat_ofNat];exact Nat.mod_eq_of_lt (by omega)
 show IntKind.i32.wrap ((BitVec.ofInt 32 ((x*16:Nat):Int)|||BitVec.ofInt 32 (h:Int)).toNat:Int)=_
 rw [BitVec.toNat_or,h1,h2,hx2,wrap_i32']<;>omega
theorem shl_hex (x:Nat) (hx:x<16777216):IntKind.i32.wrap ((x:Int)*2^(min 4 IntKind.i32.bits))=((x*16:Nat):Int):=by
 have e:(2:Int)^(min 4 IntKind.i32.bits)=16:=by decide
 rw [e,wrap_i32']<;>omega
theorem rwithinR_spec (x:Rd) (hl:x.out.length≤1000000) (hc:x.c≤6) (hn:x.n<16^x.c) (r:Int) (d:Nat) (b:Id) (hb:b.isIt=false) (hbd:b.isNw d=false):
  SpH Tryz.prog gl 242 d ⟨[.ptr b 0,i3 r],[(b,rdBx b x)],rdPm b x.out⟩ ⟨.bool (withinR x r).2,[(b,rdBx b (withinR x r).1)],rdPm b (withinR x r).1.out⟩:=by
 refine h242 rfl ?_
 have hib:=inn_notNw hbd
 have tl:=textR_len x.out
 have HX:=thex_spec r
 have hlt:=hexR_lt r
 have nlt:x.n<16777216:=Nat.lt_of_lt_of_le hn (Nat.le_trans (Nat.pow_le_pow_right (by omega) hc) (by decide))
 have VS:=vrune_spec (x.n:Int)
 unfold withinR
 by_cases c1:0≤hexR r∧x.c<6
 ·rw [if_pos c1]
  dsimp only
  obtain ⟨h,hh⟩: ∃h:Nat,hexR r=h:=⟨(hexR r).toNat,by omega⟩
  rw [hh] at HX hlt c1 ⊢
  rw [Int.toNat_natCast]
  have k1:=shl_hex x.n nlt
  have k2:=or_hex x.n h nlt (by omega)
  have k3:IntKind.i64.wrap ((x.c:Int)+1)=(x.c+1:Nat):=by rw [wrap_i64]<;>omega
  have k4:(x.c:Int)<6:=by omega
  have k5:=c1.2
  have k6:=c1.1
  have kk:((16*x.n+h:Nat):Int)=16*(x.n:Int)+h:=by omega
  rw [kk] at k2
  generalize ((x.n*16:Nat):Int)=SV at *
  unfold rdBx
  clear VS
  cases hx:x.out with
  |nil=>
   simp only [rdHd,rdPm]
   simp only [inSt,mpB,mpL,AV.mp,mpP,Pl.mp,List.cons_append,List.nil_append]
   simp -implicitDefEqProofs [c242]
   refine onC_mk _ (HX) ?_
   simp -implicitDefEqProofs [k1,k2,k3,k4,k5,k6]
   refine postH_r ⟨?_,?_,?_,?_,?_,?_⟩<;>simp -implicitDefEqProofs [hib,hb]
  |cons a l=>
   simp only [rdHd,rdPm]
   generalize byteRows (textR (a::l))=B0 at *
   simp only [inSt,mpB,mpL,AV.mp,mpP,Pl.mp,List.cons_append,List.nil_append]
   simp -implicitDefEqProofs [c242]
   refine onC_mk _ (HX) ?_
   simp -implicitDefEqProofs [k1,k2,k3,k4,k5,k6]
   refine postH_r ⟨?_,?_,?_,?_,?_,?_⟩<;>simp -implicitDefEqProofs [hib,hb]
 rw [if_neg c1]
 by_cases c2:r=125
 ·subst c2
  have e:hexR 125= -1:=by decide
  rw [e] at HX
  by_cases c3:x.c=0
  ·rw [if_pos (.inr (.inl c3))]
   dsimp only
   unfold rdBx
   clear VS
   cases hx:x.out with
   |nil=>
    simp only [rdHd,rdPm]
    simp only [inSt,mpB,mpL,AV.mp,mpP,Pl.mp,List.cons_append,List.nil_append]
    simp -implicitDefEqProofs [c242]
    refine onC_mk _ (HX) ?_
    simp -implicitDefEqProofs [c3]
    refine postH_r ⟨?_,?_,?_,?_,?_,?_⟩<;>simp -implicitDefEqProofs [hib,hb,c3]
   |cons a l=>
    simp only [rdHd,rdPm]
    generalize byteRows (textR (a::l))=B0 at *
    simp only [inSt,mpB,mpL,AV.mp,mpP,Pl.mp,List.cons_append,List.nil_append]
    simp -implicitDefEqProofs [c242]
    refine onC_mk _ (HX) ?_
    simp -implicitDefEqProofs [c3]
    refine postH_r ⟨?_,?_,?_,?_,?_,?_⟩<;>simp -implicitDefEqProofs [hib,hb,c3]
  ·have c3':((x.c:Int)==0)=false:=beq_eq_false_iff_ne.2 (by omega)
   cases hv:validR (x.n:Int)
   ·rw [hv] at VS
    rw [if_pos (.inr (.inr rfl))]
    dsimp only
    unfold rdBx
    cases hx:x.out with
    |nil=>
     simp only [rdHd,rdPm]
     simp only [inSt,mpB,mpL,AV.mp,mpP,Pl.mp,List.cons_append,List.nil_append]
     simp -implicitDefEqProofs [c242]
     refine onC_mk _ (HX) ?_
     simp -implicitDefEqProofs [c3,c3']
     refine onC_mk _ (VS) ?_
     simp -implicitDefEqProofs
     refine postH_r ⟨?_,?_,?_,?_,?_,?_⟩<;>simp -implicitDefEqProofs [hib,hb]
    |cons a l=>
     simp only [rdHd,rdPm]
     generalize byteRows (textR (a::l))=B0 at *
     simp only [inSt,mpB,mpL,AV.mp,mpP,Pl.mp,List.cons_append,List.nil_append]
     simp -implicitDefEqProofs [c242]
     refine onC_mk _ (HX) ?_
     simp -implicitDefEqProofs [c3,c3']
     refine onC_mk _ (VS) ?_
     simp -implicitDefEqProofs
     refine postH_r ⟨?_,?_,?_,?_,?_,?_⟩<;>simp -implicitDefEqProofs [hib,hb]
   ·rw [hv] at VS
    rw [if_neg (by rintro (h|h|h)<;>first|exact h rfl|exact c3 h|cases h)]
    dsimp only
    have hq:=(validR_iff _).1 hv
    have W:=fun (s6:Int) (c0:AV) (hc0:c0= .nilT (.up b) 260 5∨c0= .ptr (.up b) 0) (e:Nat) (he:(Id.up b).isNw e=false)=>wr_spec (d:=e) (b:= .up b) hb he bld_reader hc0 [i6 s6,i3 x.n,i6 x.c] (textR x.out) x.n hq (by unfold runeV at hq;omega) (by omega)
    unfold rdBx
    rw [rdHd_snoc,rdPm_snoc]
    cases hx:x.out with
    |nil=>
     rw [hx] at W
     have W:=fun s6=>W s6 _ (.inl rfl)
     rw [show textR []=[] from rfl] at W ⊢
     simp only [List.nil_append] at W ⊢
     rw [show byteRows []=[] from rfl] at W
     generalize byteRows (encN x.n)=B at *
     simp only [rdHd,rdPm]
     simp only [inSt,mpB,mpL,AV.mp,mpP,Pl.mp,List.cons_append,List.nil_append]
     simp -implicitDefEqProofs [c242]
     refine onC_mk _ (HX) ?_
     simp -implicitDefEqProofs [c3,c3']
     refine onC_mk _ (VS) ?_
     simp -implicitDefEqProofs
     refine onH_mk _ _ (W x.st _ rfl) ⟨?_,?_,?_,?_,?_,?_,?_⟩ ?_
     iterate 7 (· simp [hb])
     simp -implicitDefEqProofs
     refine postH_r ⟨?_,?_,?_,?_,?_,?_⟩<;>simp -implicitDefEqProofs [hib,hb]
    |cons a l=>
     rw [hx] at W
     have W:=fun s6=>W s6 _ (.inr rfl)
     generalize byteRows (textR (a::l)++encN x.n)=B at *
     simp only [rdHd,rdPm]
     generalize byteRows (textR (a::l))=B0 at *
     simp only [inSt,mpB,mpL,AV.mp,mpP,Pl.mp,List.cons_append,List.nil_append]
     simp -implicitDefEqProofs [c242]
     refine onC_mk _ (HX) ?_
     simp -implicitDefEqProofs [c3,c3']
     refine onC_mk _ (VS) ?_
     simp -implicitDefEqProofs
     refine onH_mk _ _ (W x.st _ rfl) ⟨?_,?_,?_,?_,?_,?_,?_⟩ ?_
     iterate 7 (· simp [hb])
     simp -implicitDefEqProofs
     refine postH_r ⟨?_,?_,?_,?_,?_,?_⟩<;>simp -implicitDefEqProofs [hib,hb]
 ·rw [if_pos (.inl c2)]
  dsimp only
  have c2':(r !=125)=true:=bne_iff_ne.2 c2
  have c2'':(r==125)=false:=beq_eq_false_iff_ne.2 c2
  unfold rdBx
  clear VS
  by_cases c3:0≤hexR r
  ·have c4: ¬x.c<6:=fun h=>c1 ⟨c3,h⟩
   have c4': ¬(x.c:Int)<6:=by omega
   cases hx:x.out with
   |nil=>
    simp only [rdHd,rdPm]
    simp only [inSt,mpB,mpL,AV.mp,mpP,Pl.mp,List.cons_append,List.nil_append]
    simp -implicitDefEqProofs [c242]
    refine onC_mk _ (HX) ?_
    simp -implicitDefEqProofs [c3,c4,c4',c2',c2'']
    refine postH_r ⟨?_,?_,?_,?_,?_,?_⟩<;>simp -implicitDefEqProofs [hib,hb]
   |cons a l=>
    simp only [rdHd,rdPm]
    generalize byteRows (textR (a::l))=B0 at *
    simp only [inSt,mpB,mpL,AV.mp,mpP,Pl.mp,List.cons_append,List.nil_append]
    simp -implicitDefEqProofs [c242]
    refine onC_mk _ (HX) ?_
    simp -implicitDefEqProofs [c3,c4,c4',c2',c2'']
    refine postH_r ⟨?_,?_,?_,?_,?_,?_⟩<;>simp -implicitDefEqProofs [hib,hb]
  ·cases hx:x.out with
   |nil=>
    simp only [rdHd,rdPm]
    simp only [inSt,mpB,mpL,AV.mp,mpP,Pl.mp,List.cons_append,List.nil_append]
    simp -implicitDefEqProofs [c242]
    refine onC_mk _ (HX) ?_
    simp -implicitDefEqProofs [c3,c2',c2'']
    refine postH_r ⟨?_,?_,?_,?_,?_,?_⟩<;>simp -implicitDefEqProofs [hib,hb]
   |cons a l=>
    simp only [rdHd,rdPm]
    generalize byteRows (textR (a::l))=B0 at *
    simp only [inSt,mpB,mpL,AV.mp,mpP,Pl.mp,List.cons_append,List.nil_append]
    simp -implicitDefEqProofs [c242]
    refine onC_mk _ (HX) ?_
    simp -implicitDefEqProofs [c3,c2',c2'']
    refine postH_r ⟨?_,?_,?_,?_,?_,?_⟩<;>simp -implicitDefEqProofs [hib,hb]
end Go.Ai
namespace Go.Ai
open Go.Proofs Go.Shelf
def takeU (x:Rd) (r:Int):Rd×Bool:=
 if x.st=1 then afterR x r
 else if x.st=2 then ({x with st:=3,n:=0,c:=0},decide (r=123))
 else if x.st=3 then withinR x r
 else if x.st=4 then (x,false)
 else if r=34 then ({x with st:=4},true)
 else if r=92 then ({x with st:=1},true)
 else if r<32∨r=127 then (x,false)
 else ({x with out:=x.out++[r]},true)
theorem rtakeU_spec (x:Rd) (hl:x.out.length≤1000000) (hc:x.c≤6) (hn:x.n<16^x.c) (r:Int) (hr:runeV r) (d:Nat) (b:Id) (hb:b.isIt=false) (hbd:b.isNw d=false):
  SpH Tryz.prog gl 221 d ⟨[.ptr b 0,i3 r],[(b,rdBx b x)],rdPm b x.out⟩ ⟨.bool (takeU x r).2,[(b,rdBx b (takeU x r).1)],rdPm b (takeU x r).1.out⟩:=by
 refine h221 rfl ?_
 have hib:=inn_notNw hbd
 have tl:=textR_len x.out
 have ne: ∀z:Int,¬r=z→(r==z)=false:=fun z h=>beq_eq_false_iff_ne.2 h
 have A:=fun e=>rafter_spec x hl r e (.up b) hb
 have I:=fun e=>rwithinR_spec x hl hc hn r e (.up b) hb
 unfold takeU
 by_cases c1:x.st=1
 ·rw [if_pos c1]
  clear I
  generalize (afterR x r).2=ok at *
  generalize (afterR x r).1=y at *
  unfold rdBx at *
  cases hx:x.out with
  |nil=>
   rw [hx] at A
   cases hy:y.out with
   |nil=>
    rw [hy] at A
    simp only [rdHd,rdPm,List.cons_append,List.nil_append] at A ⊢
    simp only [inSt,mpB,mpL,AV.mp,mpP,Pl.mp,List.cons_append,List.nil_append]
    simp -implicitDefEqProofs [c221,c1]
    refine onH_mk _ _ (A _ rfl) ⟨?_,?_,?_,?_,?_,?_,?_⟩ ?_
    iterate 7 (· simp [hb,c1])
    simp -implicitDefEqProofs
    refine postH_r ⟨?_,?_,?_,?_,?_,?_⟩<;>simp -implicitDefEqProofs [hib,hb]
   |cons a2 l2=>
    rw [hy] at A
    simp only [rdHd,rdPm,List.cons_append,List.nil_append] at A ⊢
    generalize byteRows (textR (a2::l2))=B1 at *
    simp only [inSt,mpB,mpL,AV.mp,mpP,Pl.mp,List.cons_append,List.nil_append]
    simp -implicitDefEqProofs [c221,c1]
    refine onH_mk _ _ (A _ rfl) ⟨?_,?_,?_,?_,?_,?_,?_⟩ ?_
    iterate 7 (· simp [hb,c1])
    simp -implicitDefEqProofs
    refine postH_r ⟨?_,?_,?_,?_,?_,?_⟩<;>simp -implicitDefEqProofs [hib,hb]
  |cons a l=>
   rw [hx] at A
   cases hy:y.out with
   |nil=>
    rw [hy] at A
    simp only [rdHd,rdPm,List.cons_append,List.nil_append] at A ⊢
    generalize byteRows (textR (a::l))=B0 at *
    simp only [inSt,mpB,mpL,AV.mp,mpP,Pl.mp,List.cons_append,List.nil_append]
    simp -implicitDefEqProofs [c221,c1]
    refine onH_mk _ _ (A _ rfl) ⟨?_,?_,?_,?_,?_,?_,?_⟩ ?_
    iterate 7 (· simp [hb,c1])
    simp -implicitDefEqProofs
    refine postH_r ⟨?_,?_,?_,?_,?_,?_⟩<;>simp -implicitDefEqProofs [hib,hb]
   |cons a2 l2=>
    rw [hy] at A
    simp only [rdHd,rdPm,List.cons_append,List.nil_append] at A ⊢
    generalize byteRows (textR (a2::l2))=B1 at *
    generalize byteRows (textR (a::l))=B0 at *
    simp only [inSt,mpB,mpL,AV.mp,mpP,Pl.mp,List.cons_append,List.nil_append]
    simp -implicitDefEqProofs [c221,c1]
    refine onH_mk _ _ (A _ rfl) ⟨?_,?_,?_,?_,?_,?_,?_⟩ ?_
    iterate 7 (· simp [hb,c1])
    simp -implicitDefEqProofs
    refine postH_r ⟨?_,?_,?_,?_,?_,?_⟩<;>simp -implicitDefEqProofs [hib,hb]
 rw [if_neg c1]
 have n1:(x.st==1)=false:=beq_eq_false_iff_ne.2 c1
 clear A
 by_cases c2:x.st=2
 ·rw [if_pos c2]
  clear I
  dsimp only
  have e:(r==123)=decide (r=123):=by by_cases h:r=123<;>simp [h]
  rw [←e]
  unfold rdBx
  cases hx:x.out with
  |nil=>
   simp only [rdHd,rdPm,List.cons_append,List.nil_append]
   simp only [inSt,mpB,mpL,AV.mp,mpP,Pl.mp,List.cons_append,List.nil_append]
   simp -implicitDefEqProofs [c221,c2]
   refine postH_r ⟨?_,?_,?_,?_,?_,?_⟩<;>simp -implicitDefEqProofs [hib,hb]
  |cons a l=>
   simp only [rdHd,rdPm,List.cons_append,List.nil_append]
   generalize byteRows (textR (a::l))=B0 at *
   simp only [inSt,mpB,mpL,AV.mp,mpP,Pl.mp,List.cons_append,List.nil_append]
   simp -implicitDefEqProofs [c221,c2]
   refine postH_r ⟨?_,?_,?_,?_,?_,?_⟩<;>simp -implicitDefEqProofs [hib,hb]
 rw [if_neg c2]
 have n2:(x.st==2)=false:=beq_eq_false_iff_ne.2 c2
 by_cases c3:x.st=3
 ·rw [if_pos c3]
  generalize (withinR x r).2=ok at *
  generalize (withinR x r).1=y at *
  unfold rdBx at *
  cases hx:x.out with
  |nil=>
   rw [hx] at I
   cases hy:y.out with
   |nil=>
    rw [hy] at I
    simp only [rdHd,rdPm,List.cons_append,List.nil_append] at I ⊢
    simp only [inSt,mpB,mpL,AV.mp,mpP,Pl.mp,List.cons_append,List.nil_append]
    simp -implicitDefEqProofs [c221,c3]
    refine onH_mk _ _ (I _ rfl) ⟨?_,?_,?_,?_,?_,?_,?_⟩ ?_
    iterate 7 (· simp [hb,c3])
    simp -implicitDefEqProofs
    refine postH_r ⟨?_,?_,?_,?_,?_,?_⟩<;>simp -implicitDefEqProofs [hib,hb]
   |cons a2 l2=>
    rw [hy] at I
    simp only [rdHd,rdPm,List.cons_append,List.nil_append] at I ⊢
    generalize byteRows (textR (a2::l2))=B1 at *
    simp only [inSt,mpB,mpL,AV.mp,mpP,Pl.mp,List.cons_append,List.nil_append]
    simp -implicitDefEqProofs [c221,c3]
    refine onH_mk _ _ (I _ rfl) ⟨?_,?_,?_,?_,?_,?_,?_⟩ ?_
    iterate 7 (· simp [hb,c3])
    simp -implicitDefEqProofs
    refine postH_r ⟨?_,?_,?_,?_,?_,?_⟩<;>simp -implicitDefEqProofs [hib,hb]
  |cons a l=>
   rw [hx] at I
   cases hy:y.out with
   |nil=>
    rw [hy] at I
    simp only [rdHd,rdPm,List.cons_append,List.nil_append] at I ⊢
    generalize byteRows (textR (a::l))=B0 at *
    simp only [inSt,mpB,mpL,AV.mp,mpP,Pl.mp,List.cons_append,List.nil_append]
    simp -implicitDefEqProofs [c221,c3]
    refine onH_mk _ _ (I _ rfl) ⟨?_,?_,?_,?_,?_,?_,?_⟩ ?_
    iterate 7 (· simp [hb,c3])
    simp -implicitDefEqProofs
    refine postH_r ⟨?_,?_,?_,?_,?_,?_⟩<;>simp -implicitDefEqProofs [hib,hb]
   |cons a2 l2=>
    rw [hy] at I
    simp only [rdHd,rdPm,List.cons_append,List.nil_append] at I ⊢
    generalize byteRows (textR (a2::l2))=B1 at *
    generalize byteRows (textR (a::l))=B0 at *
    simp only [inSt,mpB,mpL,AV.mp,mpP,Pl.mp,List.cons_append,List.nil_append]
    simp -implicitDefEqProofs [c221,c3]
    refine onH_mk _ _ (I _ rfl) ⟨?_,?_,?_,?_,?_,?_,?_⟩ ?_
    iterate 7 (· simp [hb,c3])
    simp -implicitDefEqProofs
    refine postH_r ⟨?_,?_,?_,?_,?_,?_⟩<;>simp -implicitDefEqProofs [hib,hb]
 rw [if_neg c3]
 have n3:(x.st==3)=false:=beq_eq_false_iff_ne.2 c3
 clear I
 by_cases c4:x.st=4
 ·rw [if_pos c4]
  dsimp only
  unfold rdBx
  cases hx:x.out with
  |nil=>
   simp only [rdHd,rdPm,List.cons_append,List.nil_append]
   simp only [inSt,mpB,mpL,AV.mp,mpP,Pl.mp,List.cons_append,List.nil_append]
   simp -implicitDefEqProofs [c221,c4]
   refine postH_r ⟨?_,?_,?_,?_,?_,?_⟩<;>simp -implicitDefEqProofs [hib,hb,c4]
  |cons a l=>
   simp only [rdHd,rdPm,List.cons_append,List.nil_append]
   generalize byteRows (textR (a::l))=B0 at *
   simp only [inSt,mpB,mpL,AV.mp,mpP,Pl.mp,List.cons_append,List.nil_append]
   simp -implicitDefEqProofs [c221,c4]
   refine postH_r ⟨?_,?_,?_,?_,?_,?_⟩<;>simp -implicitDefEqProofs [hib,hb,c4]
 rw [if_neg c4]
 have n4:(x.st==4)=false:=beq_eq_false_iff_ne.2 c4
 by_cases d1:r=34
 ·rw [if_pos d1]
  subst d1
  dsimp only
  unfold rdBx
  cases hx:x.out with
  |nil=>
   simp only [rdHd,rdPm,List.cons_append,List.nil_append]
   simp only [inSt,mpB,mpL,AV.mp,mpP,Pl.mp,List.cons_append,List.nil_append]
   simp -implicitDefEqProofs [c221,n1,n2,n3,n4]
   refine postH_r ⟨?_,?_,?_,?_,?_,?_⟩<;>simp -implicitDefEqProofs [hib,hb]
  |cons a l=>
   simp only [rdHd,rdPm,List.cons_append,List.nil_append]
   generalize byteRows (textR (a::l))=B0 at *
   simp only [inSt,mpB,mpL,AV.mp,mpP,Pl.mp,List.cons_append,List.nil_append]
   simp -implicitDefEqProofs [c221,n1,n2,n3,n4]
   refine postH_r ⟨?_,?_,?_,?_,?_,?_⟩<;>simp -implicitDefEqProofs [hib,hb]
 rw [if_neg d1]
 have m1:=ne 34 d1
 by_cases d2:r=92
 ·rw [if_pos d2]
  subst d2
  dsimp only
  unfold rdBx
  cases hx:x.out with
  |nil=>
   simp only [rdHd,rdPm,List.cons_append,List.nil_append]
   simp only [inSt,mpB,mpL,AV.mp,mpP,Pl.mp,List.cons_append,List.nil_append]
   simp -implicitDefEqProofs [c221,n1,n2,n3,n4]
   refine postH_r ⟨?_,?_,?_,?_,?_,?_⟩<;>simp -implicitDefEqProofs [hib,hb]
  |cons a l=>
   simp only [rdHd,rdPm,List.cons_append,List.nil_append]
   generalize byteRows (textR (a::l))=B0 at *
   simp only [inSt,mpB,mpL,AV.mp,mpP,Pl.mp,List.cons_append,List.nil_append]
   simp -implicitDefEqProofs [c221,n1,n2,n3,n4]
   refine postH_r ⟨?_,?_,?_,?_,?_,?_⟩<;>simp -implicitDefEqProofs [hib,hb]
 rw [if_neg d2]
 have m2:=ne 92 d2
 by_cases d3:r<32∨r=127
 ·rw [if_pos d3]
  dsimp only
  have d4:r<32∨(¬r<32∧(r==127)=true):=by
   by_cases h:r<32
   ·exact .inl h
   ·exact .inr ⟨h,by rw [beq_iff_eq];omega⟩
  unfold rdBx
  cases hx:x.out with
  |nil=>
   simp only [rdHd,rdPm,List.cons_append,List.nil_append]
   simp only [inSt,mpB,mpL,AV.mp,mpP,Pl.mp,List.cons_append,List.nil_append]
   rcases d4 with d4|⟨d4,d5⟩
   ·simp [c221,n1,n2,n3,n4,m1,m2,d4]
    refine postH_r ⟨?_,?_,?_,?_,?_,?_⟩<;>simp -implicitDefEqProofs [hib,hb]
   ·simp [c221,n1,n2,n3,n4,m1,m2,d4,d5]
    refine postH_r ⟨?_,?_,?_,?_,?_,?_⟩<;>simp -implicitDefEqProofs [hib,hb]
  |cons a l=>
   simp only [rdHd,rdPm,List.cons_append,List.nil_append]
   generalize byteRows (textR (a::l))=B0 at *
   simp only [inSt,mpB,mpL,AV.mp,mpP,Pl.mp,List.cons_append,List.nil_append]
   rcases d4 with d4|⟨d4,d5⟩
   ·simp [c221,n1,n2,n3,n4,m1,m2,d4]
    refine postH_r ⟨?_,?_,?_,?_,?_,?_⟩<;>simp -implicitDefEqProofs [hib,hb]
   ·simp [c221,n1,n2,n3,n4,m1,m2,d4,d5]
    refine postH_r ⟨?_,?_,?_,?_,?_,?_⟩<;>simp -implicitDefEqProofs [hib,hb]
 rw [if_neg d3]
 have d4: ¬r<32:=fun h=>d3 (.inl h)
 have d5:=ne 127 (fun h=>d3 (.inr h))
 obtain ⟨q,rfl⟩: ∃q:Nat,r=q:=⟨r.toNat,by omega⟩
 have W:=fun (c0:AV) (hc0:c0= .nilT (.up b) 260 5∨c0= .ptr (.up b) 0) (e:Nat) (he:(Id.up b).isNw e=false)=>wr_spec (d:=e) (b:= .up b) hb he bld_reader hc0 [i6 x.st,i3 x.n,i6 x.c] (textR x.out) q hr (by unfold runeV at hr;omega) (by omega)
 dsimp only
 unfold rdBx
 rw [rdHd_snoc,rdPm_snoc]
 cases hx:x.out with
 |nil=>
  rw [hx] at W
  have W:=W _ (.inl rfl)
  rw [show textR []=[] from rfl] at W ⊢
  simp only [List.nil_append] at W ⊢
  rw [show byteRows []=[] from rfl] at W
  generalize byteRows (encN q)=B at *
  simp only [rdHd,rdPm]
  simp only [inSt,mpB,mpL,AV.mp,mpP,Pl.mp,List.cons_append,List.nil_append]
  simp -implicitDefEqProofs [c221,n1,n2,n3,n4,m1,m2,d4,d5]
  refine onH_mk _ _ (W _ rfl) ⟨?_,?_,?_,?_,?_,?_,?_⟩ ?_
  iterate 7 (· simp [hb])
  simp -implicitDefEqProofs
  refine postH_r ⟨?_,?_,?_,?_,?_,?_⟩<;>simp -implicitDefEqProofs [hib,hb]
 |cons a l=>
  rw [hx] at W
  have W:=W _ (.inr rfl)
  generalize byteRows (textR (a::l)++encN q)=B at *
  simp only [rdHd,rdPm]
  generalize byteRows (textR (a::l))=B0 at *
  simp only [inSt,mpB,mpL,AV.mp,mpP,Pl.mp,List.cons_append,List.nil_append]
  simp -implicitDefEqProofs [c221,n1,n2,n3,n4,m1,m2,d4,d5]
  refine onH_mk _ _ (W _ rfl) ⟨?_,?_,?_,?_,?_,?_,?_⟩ ?_
  iterate 7 (· simp [hb])
  simp -implicitDefEqProofs
  refine postH_r ⟨?_,?_,?_,?_,?_,?_⟩<;>simp -implicitDefEqProofs [hib,hb]
open Go.Proofs
structure Lb where
 n:List UInt8
 t:List UInt8
 deriving DecidableEq
structure Ru where
 n:List UInt8
 p:Bool
 l:Int
 s:Int
 f:Nat
 w:Int
 k:Int
 deriving DecidableEq
structure Gl where
 n:List UInt8
 t:Nat
 g:Int
 a:Int
 o:Int
 c:Int
 lb:List Lb
 ru:List Ru
 deriving DecidableEq
structure Cf where
 gs:List Gl
 r:Int
 v:Int
 i:Int
 x:Int
 y:Int
def Lb.row (x:Lb):List AV:=[.str x.n,.str x.t]
def Ru.row (x:Ru):List AV:=[.str x.n,.bool x.p,i6 x.l,i6 x.s,u x.f,i6 x.w,i6 x.k]
def Gl.row (x:Gl):List AV:=[.str x.n,.int .u32 x.t,i6 x.g,i6 x.a,i6 x.o,i6 x.c,.sl (x.lb.map Lb.row),.sl (x.ru.map Ru.row)]
def Cf.row (x:Cf):List AV:=[.sl (x.gs.map Gl.row),i6 x.r,i6 x.v,i6 x.i,i6 x.x,i6 x.y]
open Go.Proofs
end Go.Ai
namespace Go.Ai
open Go.Proofs
end Go.Ai
