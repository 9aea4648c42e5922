/- P9: a part of the proof: the rules, or what functions compute. Conditions: as each theorem says. -/
import Derived.Test.YtggemlhclppciaaGreatDoorP8
set_option linter.unusedSimpArgs false
set_option linter.unusedVariables false
set_option maxRecDepth 20000
namespace Go.Ai
open Go.Proofs
theorem cutSuf_le (s t:List UInt8):(cutSuf s t).length≤s.length:=by
 unfold cutSuf
 split
 ·rw [List.length_take];omega
 ·exact Nat.le_refl _
theorem ppread_spec (s:List UInt8) (hl:s.length≤1000000):Sp Tryz.prog gl 146 [.str s] (.tup [.int .u32 (ppF s).1,i6 (ppF s).2]):=by
 refine s146 rfl rfl ?_
 have CS:=cutSuf_spec s [37] hl (by simp)
 have bl:=cutSuf_le s [37]
 unfold ppF
 generalize cutSuf s [37]=b at *
 have hb:b.length≤1000000:=by omega
 cases hs:sufB s [37]
 ·rw [hs] at CS
  rw [if_pos rfl]
  clear bl
  simp -implicitDefEqProofs [c146]
  refine onC_mk _ (CS) ?_
  simp -implicitDefEqProofs
 rw [hs] at CS
 rw [if_neg (by decide)]
 have CB:=cutBy_spec 46 b hb
 unfold cutBV at CB
 by_cases g:(b.takeWhile (notB 46)).length<b.length
 ·rw [if_pos g] at CB ⊢
  have W:=whole_spec (b.takeWhile (notB 46)) (by omega)
  have PN:=pnumber_spec (b.drop ((b.takeWhile (notB 46)).length+1)) (by rw [List.length_drop];omega) 4 (by omega)
  have HS:=hasSufP_spec (b.drop ((b.takeWhile (notB 46)).length+1)) [48] (by rw [List.length_drop];omega) (by simp)
  clear g hb bl hs
  generalize b.drop ((b.takeWhile (notB 46)).length+1)=tl at *
  generalize b.takeWhile (notB 46)=hd at *
  generalize wholeF hd=wh at *
  generalize pnF (runesL tl 0) 4=q at *
  generalize sufB tl [48]=sb at *
  obtain ⟨n,o⟩:=wh
  obtain ⟨m,i⟩:=q
  unfold ppFin
  dsimp only at W PN ⊢
  cases o
  ·rw [if_pos (.inl rfl)]
   cases i
   ·simp [c146]
    refine onC_mk _ (CS) ?_
    simp -implicitDefEqProofs
    refine onC_mk _ (CB) ?_
    simp -implicitDefEqProofs
    refine onC_mk _ (W) ?_
    simp -implicitDefEqProofs
    refine onC_mk _ (PN) ?_
    simp -implicitDefEqProofs
   ·simp [c146]
    refine onC_mk _ (CS) ?_
    simp -implicitDefEqProofs
    refine onC_mk _ (CB) ?_
    simp -implicitDefEqProofs
    refine onC_mk _ (W) ?_
    simp -implicitDefEqProofs
    refine onC_mk _ (PN) ?_
    simp -implicitDefEqProofs
    refine onC_mk _ (HS) ?_
    simp -implicitDefEqProofs
  cases i
  ·rw [if_pos (.inr rfl)]
   simp -implicitDefEqProofs [c146]
   refine onC_mk _ (CS) ?_
   simp -implicitDefEqProofs
   refine onC_mk _ (CB) ?_
   simp -implicitDefEqProofs
   refine onC_mk _ (W) ?_
   simp -implicitDefEqProofs
   refine onC_mk _ (PN) ?_
   simp -implicitDefEqProofs
  cases sb
  rotate_left
  ·rw [if_pos (.inr rfl)]
   simp -implicitDefEqProofs [c146]
   refine onC_mk _ (CS) ?_
   simp -implicitDefEqProofs
   refine onC_mk _ (CB) ?_
   simp -implicitDefEqProofs
   refine onC_mk _ (W) ?_
   simp -implicitDefEqProofs
   refine onC_mk _ (PN) ?_
   simp -implicitDefEqProofs
   refine onC_mk _ (HS) ?_
   simp -implicitDefEqProofs
  rw [if_neg (by rintro (h|h)<;>cases h)]
  have w1:IntKind.u32.wrap ((n:Int)*10000)=((n*10000%4294967296:Nat):Int):=by
   rw [wrap_u32m]
   omega
  have w2:IntKind.u32.wrap (((n*10000%4294967296:Nat):Int)+(m:Int))=(((n*10000%4294967296+m)%4294967296:Nat):Int):=by
   rw [wrap_u32m]
   omega
  generalize (n*10000%4294967296+m)%4294967296=z at *
  generalize ((n*10000%4294967296:Nat):Int)=y at *
  by_cases c1:100<n
  ·have c1':(100:Int)<n:=by omega
   rw [if_pos (.inl c1)]
   simp -implicitDefEqProofs [c146]
   refine onC_mk _ (CS) ?_
   simp -implicitDefEqProofs
   refine onC_mk _ (CB) ?_
   simp -implicitDefEqProofs
   refine onC_mk _ (W) ?_
   simp -implicitDefEqProofs
   refine onC_mk _ (PN) ?_
   simp -implicitDefEqProofs
   refine onC_mk _ (HS) ?_
   simp -implicitDefEqProofs [c1,c1']
  have c1': ¬(100:Int)<n:=by omega
  by_cases c2:n=100
  ·subst c2
   have w1':IntKind.u32.wrap 1000000=y:=by rw [←w1];rfl
   by_cases c3:0<m
   ·have c3':(0:Int)<m:=by omega
    rw [if_pos (.inr ⟨rfl,c3⟩)]
    simp -implicitDefEqProofs [c146]
    refine onC_mk _ (CS) ?_
    simp -implicitDefEqProofs
    refine onC_mk _ (CB) ?_
    simp -implicitDefEqProofs
    refine onC_mk _ (W) ?_
    simp -implicitDefEqProofs
    refine onC_mk _ (PN) ?_
    simp -implicitDefEqProofs
    refine onC_mk _ (HS) ?_
    simp -implicitDefEqProofs [c3,c3']
   ·have c3': ¬(0:Int)<m:=by omega
    rw [if_neg (by omega)]
    simp -implicitDefEqProofs [c146]
    refine onC_mk _ (CS) ?_
    simp -implicitDefEqProofs
    refine onC_mk _ (CB) ?_
    simp -implicitDefEqProofs
    refine onC_mk _ (W) ?_
    simp -implicitDefEqProofs
    refine onC_mk _ (PN) ?_
    simp -implicitDefEqProofs
    refine onC_mk _ (HS) ?_
    simp -implicitDefEqProofs [c3,c3',w1',w2]
  ·have c2':((n:Int)==100)=false:=beq_eq_false_iff_ne.2 (by omega)
   rw [if_neg (by omega)]
   simp -implicitDefEqProofs [c146]
   refine onC_mk _ (CS) ?_
   simp -implicitDefEqProofs
   refine onC_mk _ (CB) ?_
   simp -implicitDefEqProofs
   refine onC_mk _ (W) ?_
   simp -implicitDefEqProofs
   refine onC_mk _ (PN) ?_
   simp -implicitDefEqProofs
   refine onC_mk _ (HS) ?_
   simp -implicitDefEqProofs [c1,c1',c2,c2',w1,w2]
 ·rw [if_neg g] at CB ⊢
  have W:=whole_spec b hb
  clear g hb bl hs
  generalize wholeF b=wh at *
  obtain ⟨n,o⟩:=wh
  unfold ppFin
  dsimp only at W ⊢
  cases o
  ·rw [if_pos (.inl rfl)]
   simp -implicitDefEqProofs [c146]
   refine onC_mk _ (CS) ?_
   simp -implicitDefEqProofs
   refine onC_mk _ (CB) ?_
   simp -implicitDefEqProofs
   refine onC_mk _ (W) ?_
   simp -implicitDefEqProofs
  rw [if_neg (by rintro (h|h)<;>cases h)]
  have w1:IntKind.u32.wrap ((n:Int)*10000)=((n*10000%4294967296:Nat):Int):=by
   rw [wrap_u32m]
   omega
  have w2:IntKind.u32.wrap ((n*10000%4294967296:Nat):Int)=(((n*10000%4294967296+0)%4294967296:Nat):Int):=by
   rw [wrap_u32m]
   omega
  generalize (n*10000%4294967296+0)%4294967296=z at *
  generalize ((n*10000%4294967296:Nat):Int)=y at *
  by_cases c1:100<n
  ·have c1':(100:Int)<n:=by omega
   rw [if_pos (.inl c1)]
   simp -implicitDefEqProofs [c146]
   refine onC_mk _ (CS) ?_
   simp -implicitDefEqProofs
   refine onC_mk _ (CB) ?_
   simp -implicitDefEqProofs
   refine onC_mk _ (W) ?_
   simp -implicitDefEqProofs [c1,c1']
  have c1': ¬(100:Int)<n:=by omega
  rw [if_neg (by omega)]
  by_cases c2:n=100
  ·subst c2
   have w1':IntKind.u32.wrap 1000000=y:=by rw [←w1];rfl
   simp -implicitDefEqProofs [c146]
   refine onC_mk _ (CS) ?_
   simp -implicitDefEqProofs
   refine onC_mk _ (CB) ?_
   simp -implicitDefEqProofs
   refine onC_mk _ (W) ?_
   simp -implicitDefEqProofs [w1',w2]
  ·have c2':((n:Int)==100)=false:=beq_eq_false_iff_ne.2 (by omega)
   simp -implicitDefEqProofs [c146]
   refine onC_mk _ (CS) ?_
   simp -implicitDefEqProofs
   refine onC_mk _ (CB) ?_
   simp -implicitDefEqProofs
   refine onC_mk _ (W) ?_
   simp -implicitDefEqProofs [c1,c1',c2,c2',w1,w2]
open Go.Proofs
def hasB (c:UInt8) (s:List UInt8):Bool:=decide ((s.takeWhile (notB c)).length<s.length)
theorem cidx_spec (s:List UInt8):Sp Tryz.prog gl 191 [.str s,.str [46]] (i6 (Lib.indexByte s 46)):=by
 refine s191 rfl rfl ?_
 have IX:=idxB_spec s 46
 generalize Lib.indexByte s 46=k at *
 simp -implicitDefEqProofs [c191]
 refine onC_mk _ (IX) ?_
 simp -implicitDefEqProofs
theorem ccon_spec (s:List UInt8):Sp Tryz.prog gl 147 [.str s,.str [46]] (.bool (hasB 46 s)):=by
 refine s147 rfl rfl ?_
 have IX:=cidx_spec s
 have e:=ibB_line 46 s
 have hb:hasB 46 s=decide (0≤Lib.indexByte s 46):=by
  unfold hasB
  rw [e]
  split
  ·rename_i h
   rw [decide_eq_true h,decide_eq_true (by omega)]
  ·rename_i h
   rw [decide_eq_false h,decide_eq_false (by omega)]
 rw [hb]
 clear hb e
 generalize Lib.indexByte s 46=k at *
 simp -implicitDefEqProofs [c147]
 refine onC_mk _ (IX) ?_
 simp -implicitDefEqProofs
theorem ppF_lt (s:List UInt8):(ppF s).1<4294967296:=by
 have h: ∀a b,(ppFin a b).1<4294967296:=fun a b=>by
  unfold ppFin
  split
  ·simp
  ·split
   ·simp
   ·exact Nat.mod_lt _ (by decide)
 unfold ppF
 split
 ·simp
 ·split
  ·exact h _ _
  ·exact h _ _
theorem spR_le: ∀(l:List UInt8) (dg:Bool) (n la sm:Nat) (fr:Bool),sm≤253402300799→(spR l dg n la sm fr).1≤253402300799
 |[],dg,n,la,sm,fr,h=>by
  rw [spR]
  split
  ·simp
  ·split
   ·simp
   ·exact h
 |c::l,dg,n,la,sm,fr,h=>by
  rw [spR]
  split
  ·exact spR_le l _ _ _ _ _ h
  ·split
   ·simp
   ·split
    ·exact spR_le l _ _ _ _ _ h
    ·split
     ·exact spR_le l _ _ _ _ _ (by omega)
     ·exact spR_le l _ _ _ _ _ (by omega)
theorem spanU_le (s:List UInt8):(spanU s).1≤253402300799:=by
 rw [spanU_eq]
 unfold spanR
 split
 ·simp
 ·exact spR_le _ _ _ _ _ _ (by omega)
theorem tvA_shut (v:TV):shut v.av=some v.av:=by cases v<;>simp [TV.av]
def vR (w:List UInt8):Int:=if w=[] then 32 else r65 (stepR w 0).1
def sV (w:List UInt8):TV:=
 if digR (vR w)=false then (if nameT w=true then .t 1 w 0 else .e 5)
 else if w.all isDig=true then toldV 3 (numF w)
 else if sufB w [37]=true then toldV 5 (ppF w)
 else if hasB 46 w=true then toldV 4 (facF (w.takeWhile (notB 46)) (w.drop ((w.takeWhile (notB 46)).length+1)))
 else toldV 6 (spanU w)
set_option maxHeartbeats 1000000 in
theorem svalue_spec (w:List UInt8) (hl:w.length≤900000):Sp Tryz.prog gl 109 [.str w] (sV w).av:=by
 refine s109 rfl rfl ?_
 have D:=sdigit_spec (vR w)
 have NM:=tname_spec w hl
 have TR:=trimD_spec w (by omega)
 have TN:=trimD_nil w
 have NU:=snumber_spec w (by omega)
 have HS:=hasSufP_spec w [37] (by omega) (by simp)
 have PP:=ppread_spec w (by omega)
 have CC:=ccon_spec w
 have SP:=sspan_spec w (by omega)
 have FA:=fun h=>sfactor_spec w (by omega) h
 have pl:=ppF_lt w
 have sl:=spanU_le w
 have T5:=stold_spec 5 (ppF w).1 (ppF w).2
 have T6:=stold_spec 6 (spanU w).1 (spanU w).2
 have T3:=stold_spec 3 (numF w).1 0
 have hb:hasB 46 w=true→(w.takeWhile (notB 46)).length<w.length:=fun h=>by unfold hasB at h;exact of_decide_eq_true h
 unfold sV
 generalize toldV 4 (facF (w.takeWhile (notB 46)) (w.drop ((w.takeWhile (notB 46)).length+1)))=f4 at *
 generalize hasB 46 w=has at *
 generalize sufB w [37]=suf at *
 generalize Lib.trimS w [48,49,50,51,52,53,54,55,56,57]=tr at *
 generalize ppF w=q5 at *
 generalize spanU w=q6 at *
 generalize numF w=q3 at *
 generalize nameT w=nm at *
 obtain ⟨n5,e5⟩:=q5
 obtain ⟨n6,e6⟩:=q6
 obtain ⟨n3,e3⟩:=q3
 dsimp only at PP SP T5 T6 T3 pl sl
 have w5:IntKind.u64.wrap (n5:Int)=n5:=by rw [wrap_u64]<;>omega
 have w6:IntKind.u64.wrap (n6:Int)=n6:=by rw [wrap_u64]<;>omega
 obtain ⟨R,hR⟩: ∃R:TV,R=if digR (vR w)=false then (if nm=true then .t 1 w 0 else .e 5)
  else if w.all isDig=true then toldV 3 (n3,e3)
  else if suf=true then toldV 5 (n5,e5)
  else if has=true then f4
  else toldV 6 (n6,e6):=⟨_,rfl⟩
 rw [←hR]
 have i3w:IntKind.i32.wrap 32=32:=by decide
 simp -implicitDefEqProofs [c109]
 refine wp_lpk (α:=Nat) (fun _=>⟨[(0,.str w),(2,.nili),(3,i3 32),(13,.itp 13)],[(.it 13,[.itr w 0])],[]⟩) (fun _=>True) (fun _=>1) ?_ 0 trivial ?_
 ·rintro K _ hK _
  clear hK
  by_cases e:w=[]
  ·have ev:vR w=32:=if_pos e
   subst e
   rw [ev] at D hR
   rw [show digR 32=false from rfl] at D hR
   rw [if_pos rfl] at hR
   clear T3 T5 T6 FA SP CC PP HS NU TR
   cases nm
   ·rw [if_neg (by decide)] at hR
    subst hR
    unfold TV.av
    simp -implicitDefEqProofs
    refine onC_mk _ (D) ?_
    simp -implicitDefEqProofs
    refine onC_mk _ (NM) ?_
    simp -implicitDefEqProofs
   ·rw [if_pos rfl] at hR
    subst hR
    unfold TV.av
    simp -implicitDefEqProofs
    refine onC_mk _ (D) ?_
    simp -implicitDefEqProofs
    refine onC_mk _ (NM) ?_
    simp -implicitDefEqProofs
    refine onC_mk _ (D) ?_
    simp -implicitDefEqProofs
  have g:0<w.length:=List.length_pos_iff.2 e
  have ev:vR w=r65 (stepR w 0).1:=if_neg e
  have sr:=step_r65 w 0 g
  rw [←ev] at sr
  clear ev
  generalize vR w=r at *
  generalize (stepR w 0).2=wd at *
  cases hd:digR r
  ·rw [hd] at D hR
   rw [if_pos rfl] at hR
   clear T3 T5 T6 FA SP CC PP HS NU TR
   cases nm
   ·rw [if_neg (by decide)] at hR
    subst hR
    unfold TV.av
    simp -implicitDefEqProofs [g,sr]
    refine onC_mk _ (D) ?_
    simp -implicitDefEqProofs
    refine onC_mk _ (NM) ?_
    simp -implicitDefEqProofs
   ·rw [if_pos rfl] at hR
    subst hR
    unfold TV.av
    simp -implicitDefEqProofs [g,sr]
    refine onC_mk _ (D) ?_
    simp -implicitDefEqProofs
    refine onC_mk _ (NM) ?_
    simp -implicitDefEqProofs
    refine onC_mk _ (D) ?_
    simp -implicitDefEqProofs
  rw [hd] at D hR
  rw [if_neg (by decide)] at hR
  clear NM
  cases ha:w.all isDig
  ·rw [ha] at TN hR
   have k1:(tr==[])=false:=TN
   have k2: ¬tr=[]:=fun h=>by rw [h] at TN;cases TN
   have k3:tr.isEmpty=false:=by rw [List.isEmpty_eq_false_iff];exact k2
   rw [if_neg (by decide)] at hR
   clear T3 NU
   cases suf
   ·rw [if_neg (by decide)] at hR
    clear T5 PP
    cases has
    ·rw [if_neg (by decide)] at hR
     subst hR
     have hsh:=tvA_shut (toldV 6 (n6,e6))
     generalize (toldV 6 (n6,e6)).av=out at *
     clear FA
     simp -implicitDefEqProofs [g,sr]
     refine onC_mk _ (D) ?_
     simp -implicitDefEqProofs
     refine onC_mk _ (D) ?_
     simp -implicitDefEqProofs
     refine onC_mk _ (TR) ?_
     simp -implicitDefEqProofs [k1,k2,k3]
     refine onC_mk _ (HS) ?_
     simp -implicitDefEqProofs
     refine onC_mk _ (CC) ?_
     simp -implicitDefEqProofs
     refine onC_mk _ (SP) ?_
     simp -implicitDefEqProofs [w6]
     refine onH_mk _ _ ((T6.h)) ⟨?_,?_,?_,?_,?_,?_,?_⟩ ?_
     iterate 7 (· simp)
     simp -implicitDefEqProofs [hsh]
    ·rw [if_pos rfl] at hR
     subst hR
     have FA:=FA (hb rfl)
     have hsh:=tvA_shut R
     generalize R.av=out at *
     clear T6 SP
     simp -implicitDefEqProofs [g,sr]
     refine onC_mk _ (D) ?_
     simp -implicitDefEqProofs
     refine onC_mk _ (D) ?_
     simp -implicitDefEqProofs
     refine onC_mk _ (TR) ?_
     simp -implicitDefEqProofs [k1,k2,k3]
     refine onC_mk _ (HS) ?_
     simp -implicitDefEqProofs
     refine onC_mk _ (CC) ?_
     simp -implicitDefEqProofs
     refine onH_mk _ _ ((FA.h)) ⟨?_,?_,?_,?_,?_,?_,?_⟩ ?_
     iterate 7 (· simp)
     simp -implicitDefEqProofs [hsh]
   ·rw [if_pos rfl] at hR
    subst hR
    have hsh:=tvA_shut (toldV 5 (n5,e5))
    generalize (toldV 5 (n5,e5)).av=out at *
    clear FA T6 SP CC
    simp -implicitDefEqProofs [g,sr]
    refine onC_mk _ (D) ?_
    simp -implicitDefEqProofs
    refine onC_mk _ (D) ?_
    simp -implicitDefEqProofs
    refine onC_mk _ (TR) ?_
    simp -implicitDefEqProofs [k1,k2,k3]
    refine onC_mk _ (HS) ?_
    simp -implicitDefEqProofs
    refine onC_mk _ (PP) ?_
    simp -implicitDefEqProofs [w5]
    refine onH_mk _ _ ((T5.h)) ⟨?_,?_,?_,?_,?_,?_,?_⟩ ?_
    iterate 7 (· simp)
    simp -implicitDefEqProofs [hsh]
  ·rw [ha] at TN hR
   have k2:tr=[]:=by simpa using TN
   subst k2
   rw [if_pos rfl] at hR
   subst hR
   clear FA T6 SP CC T5 PP HS
   unfold numA at NU
   dsimp only at NU
   by_cases c3:e3=0
   ·subst c3
    rw [if_pos rfl] at NU
    have hsh:=tvA_shut (toldV 3 (n3,0))
    generalize (toldV 3 (n3,0)).av=out at *
    simp -implicitDefEqProofs [g,sr]
    refine onC_mk _ (D) ?_
    simp -implicitDefEqProofs
    refine onC_mk _ (D) ?_
    simp -implicitDefEqProofs
    refine onC_mk _ (TR) ?_
    simp -implicitDefEqProofs
    refine onH_mk _ _ ((NU.h)) ⟨?_,?_,?_,?_,?_,?_,?_⟩ ?_
    iterate 7 (· simp)
    simp -implicitDefEqProofs
    refine onH_mk _ _ ((T3.h)) ⟨?_,?_,?_,?_,?_,?_,?_⟩ ?_
    iterate 7 (· simp)
    simp -implicitDefEqProofs [hsh]
   ·rw [if_neg c3] at NU
    have et:(toldV 3 (n3,e3))= .e e3:=by unfold toldV;rw [if_neg c3]
    rw [et]
    unfold TV.av
    clear T3
    simp -implicitDefEqProofs [g,sr]
    refine onC_mk _ (D) ?_
    simp -implicitDefEqProofs
    refine onC_mk _ (D) ?_
    simp -implicitDefEqProofs
    refine onC_mk _ (TR) ?_
    simp -implicitDefEqProofs
    refine onH_mk _ _ ((NU.h)) ⟨?_,?_,?_,?_,?_,?_,?_⟩ ?_
    iterate 7 (· simp)
    simp -implicitDefEqProofs
    refine onH_mk _ _ ((NU.h)) ⟨?_,?_,?_,?_,?_,?_,?_⟩ ?_
    iterate 7 (· simp)
    simp -implicitDefEqProofs
 ·refine weak_mk ?_ ?_ ?_ ?_ ?_ ?_<;>simp -implicitDefEqProofs
open Go.Proofs
def vK (a:Nat) (tl:List UInt8):Nat→Nat
 |0=>a
 |k+1=>10*vK a tl k+dgt tl k
theorem vK_four (a:Nat) (tl:List UInt8):vK a tl 4=a*10000+frU tl 4:=by
 simp only [vK,frU]
 omega
theorem vK_lt (a:Nat) (tl:List UInt8) (ha:a<1000) (h: ∀i,dgt tl i≤9): ∀k,k≤4→vK a tl k<10000000:=by
 have a0:vK a tl 0<1000:=ha
 have a1:vK a tl 1<10000:=by
  have:=h 0
  rw [vK]
  omega
 have a2:vK a tl 2<100000:=by
  have:=h 1
  rw [vK]
  omega
 have a3:vK a tl 3<1000000:=by
  have:=h 2
  rw [vK]
  omega
 have a4:vK a tl 4<10000000:=by
  have:=h 3
  rw [vK]
  omega
 intro k hk
 obtain rfl|rfl|rfl|rfl|rfl:k=0∨k=1∨k=2∨k=3∨k=4:=by omega
 all_goals omega
theorem twB_ne (c:UInt8): ∀(s:List UInt8) (j:Nat),j<(s.takeWhile (notB c)).length→ ∀h:j<s.length,s[j]≠c
 |[],j,h,h2=>absurd h2 (by simp)
 |b::s,j,h,h2=>by
  rw [List.takeWhile_cons] at h
  split at h
  ·rename_i e
   cases j with
   |zero=>
    simp only [List.getElem_cons_zero]
    intro e2
    rw [e2] at e
    simp [notB] at e
   |succ j=>
    simp only [List.getElem_cons_succ]
    exact twB_ne c s j (by simpa using h) (by simpa using h2)
  ·simp at h
theorem twB_at (c:UInt8): ∀(s:List UInt8) (h:(s.takeWhile (notB c)).length<s.length),s[(s.takeWhile (notB c)).length]=c
 |[],h=>absurd h (by simp)
 |b::s,h=>by
  by_cases e:notB c b=true
  ·have e1:((b::s).takeWhile (notB c))=b::s.takeWhile (notB c):=by rw [List.takeWhile_cons,if_pos e]
   have h2:(s.takeWhile (notB c)).length<s.length:=by rw [e1] at h;simpa using h
   have:=twB_at c s h2
   simp only [e1,List.length_cons,List.getElem_cons_succ]
   exact this
  ·have e1:((b::s).takeWhile (notB c))=[]:=by rw [List.takeWhile_cons,if_neg e]
   simp only [e1,List.length_nil,List.getElem_cons_zero]
   simp [notB] at e
   exact e
def dotN (m d i:Nat):Nat:=if i≤d then m else d
theorem byt_in {s:List UInt8} {i:Nat} (h:i<s.length):(s[i].toNat:Int)=(byt s i:Nat):=by rw [byt_at h]
set_option maxHeartbeats 1000000 in
theorem rppread_spec (s:List UInt8) (hl:s.length≤1000000):Sp Tryz.prog gl 155 [.str s] (.tup [.int .u32 (pprF s).1,i6 (pprF s).2]):=by
 refine s155 rfl rfl ?_
 unfold pprF
 by_cases h2:s.length<2
 ·have h2':(s.length:Int)<2:=by omega
  rw [if_pos (.inl h2)]
  simp -implicitDefEqProofs [c155,h2,h2']
 have h2': ¬(s.length:Int)<2:=by omega
 obtain ⟨k,m,hk,hm⟩: ∃k m,s.length=k+2∧m=k+1:=⟨s.length - 2,s.length - 1,by omega,by omega⟩
 have W1:IntKind.i64.wrap ((s.length:Int) - 1)=(m:Int):=by rw [wrap_i64]<;>omega
 have W2:IntKind.i64.wrap ((s.length:Int) - 2)=(k:Int):=by rw [wrap_i64]<;>omega
 have g1:m<s.length:=by omega
 have g2:k<s.length:=by omega
 have g0:0<s.length:=by omega
 have e1:s.length - 1=m:=by omega
 rw [e1]
 by_cases h37:byt s (m)=37
 rotate_left
 ·have n1:((s[m].toNat:Int)!=37)=true:=by rw [bne_iff_ne,byt_in g1];omega
  rw [if_pos (.inr h37)]
  simp -implicitDefEqProofs [c155,h2,h2',W1,g1,n1]
 have n1:(s[m].toNat:Int)=37:=by rw [byt_in g1,h37];rfl
 rw [if_neg (by rintro (h|h);exact h2 h;exact h h37)]
 have bl:(s.take (m)).length=m:=by rw [List.length_take];omega
 have bat: ∀i (h:i<(s.take (m)).length) (h':i<s.length),(s.take (m))[i]=s[i]:=fun i h h'=>List.getElem_take
 have tne:=twB_ne 46 (s.take (m))
 have tat:=twB_at 46 (s.take (m))
 have tle:=takeB_len (s.take (m)) 46
 generalize hd:((s.take (m)).takeWhile (notB 46)).length=d at *
 clear hd
 have tne': ∀j,j<d→ ∀h:j<s.length,((s[j].toNat:Int)==46)=false:=fun j hj h=>by
  rw [beq_eq_false_iff_ne]
  intro e
  have hb:j<(s.take (m)).length:=by omega
  refine tne j hj hb ?_
  rw [bat j hb h]
  exact UInt8.toNat_inj.1 (by show s[j].toNat=46;omega)
 have tat': ∀(h:d<m) (h':d<s.length),(s[d].toNat:Int)=46:=fun h h'=>by
  have hb:d<(s.take (m)).length:=by omega
  have:=tat hb
  rw [bat d hb h'] at this
  rw [this]
  rfl
 clear tne tat
 obtain ⟨R,hR⟩: ∃R,R=pprB s (s.take (m)) d:=⟨_,rfl⟩
 rw [←hR]
 have bad: ∀i,i<m→i≠d→ ∀h:i<s.length,isDig s[i]=false→R=(0,5):=fun i h1 h2 h3 h4=>by
  rw [hR]
  unfold pprB
  rw [if_pos]
  have hb:i<(s.take (m)).length:=by omega
  rcases Nat.lt_or_ge i d with h|h
  ·left
   rw [List.all_eq_false]
   refine ⟨s[i],?_,by rw [h4];simp⟩
   rw [List.mem_take_iff_getElem]
   exact ⟨i,by omega,bat i hb h3⟩
  ·right
   rw [List.all_eq_false]
   refine ⟨s[i],?_,by rw [h4];simp⟩
   rw [List.mem_drop_iff_getElem]
   exact ⟨i - (d+1),by omega,by rw [←bat i hb h3];congr 1;omega⟩
 simp -implicitDefEqProofs [c155,h2,h2',W1,g1,n1]
 refine wp_lpk (α:=Nat) (fun i=>⟨[(0,.str s),(4,i6 s.length),(5,i6 (dotN m d i)),(6,i6 i)],[],[]⟩)
  (fun i=>i≤m∧ ∀j,j<i→j≠d→ ∀h:j<s.length,isDig s[j]=true) (fun i=>m - i) ?_ 0 ?_ ?_
 ·rintro K i hK ⟨h1,h3⟩
  by_cases g:i<m
  ·have g':(i:Int)<m:=by omega
   have gi:i<s.length:=by omega
   have t1:IntKind.i64.wrap ((i:Int)+1)=(i+1:Nat):=by rw [wrap_i64]<;>omega
   have lt:=s[i].toNat_lt
   have fin:(i≠d→isDig s[i]=true)→ ∀σ',Weak σ' ⟨[(0,.str s),(4,i6 s.length),(5,i6 (dotN m d (i+1))),(6,i6 (i+1:Nat))],[],[]⟩→K σ':=fun hh σ' hσ=>
    hK (i+1) σ' ⟨g,fun j hj hjd hjs=>by
     by_cases e:j=i
     ·subst e;exact hh hjd
     ·exact h3 j (by omega) hjd hjs⟩ (by omega) hσ
   have bad:=bad i g
   clear hK hR
   by_cases c:i=d
   ·subst c
    have t46:=tat' g gi
    have fin:=fin (fun h=>absurd rfl h)
    rw [show dotN m i (i+1)=i from if_neg (by omega)] at fin
    rw [show dotN m i i=m from if_pos (Nat.le_refl _)]
    clear bad h3 tne' tat'
    simp -implicitDefEqProofs [g,g',gi,t46,W1]
    refine fin _ ?_
    refine weak_mk ?_ ?_ ?_ ?_ ?_ ?_<;>simp -implicitDefEqProofs [t1]
   ·have bad:=bad c gi
    have nd:(s[i].toNat:Int)=46→((dotN m d i:Nat):Int)=m→False:=by
     intro q1 q2
     unfold dotN at q2
     by_cases c2:i<d
     ·have:=tne' i c2 gi
      rw [beq_eq_false_iff_ne] at this
      exact this q1
     ·rw [if_neg (by omega)] at q2
      omega
    have e5:dotN m d (i+1)=dotN m d i:=by
     unfold dotN
     by_cases c2:i<d
     ·rw [if_pos (by omega),if_pos (by omega)]
     ·rw [if_neg (by omega),if_neg (by omega)]
    rw [e5] at fin
    clear tne' tat' e5
    generalize dotN m d i=D at *
    cases hdg:isDig s[i]
    ·have bad:=bad hdg
     subst bad
     clear fin h3
     unfold isDig at hdg
     rw [decide_eq_false_iff_not] at hdg
     by_cases q1:(s[i].toNat:Int)=46
     ·have q2:((D:Int)==m)=false:=beq_eq_false_iff_ne.2 (nd q1)
      simp -implicitDefEqProofs [g,g',gi,q1,q2,W1]
     ·have q1':((s[i].toNat:Int)==46)=false:=beq_eq_false_iff_ne.2 q1
      by_cases q3:(s[i].toNat:Int)<48
      ·simp [g,g',gi,q1',q3,W1]
      ·have q4:(57:Int)<s[i].toNat:=by omega
       simp -implicitDefEqProofs [g,g',gi,q1',q3,q4,W1]
    ·have fin:=fin (fun _=>hdg)
     have hq:=(isDig_iff _).1 hdg
     have q1':((s[i].toNat:Int)==46)=false:=beq_eq_false_iff_ne.2 (by omega)
     have q3: ¬(s[i].toNat:Int)<48:=by omega
     have q4: ¬(57:Int)<s[i].toNat:=by omega
     clear bad h3 hdg nd
     simp -implicitDefEqProofs [g,g',gi,q1',q3,q4,W1]
     refine fin _ ?_
     refine weak_mk ?_ ?_ ?_ ?_ ?_ ?_<;>simp -implicitDefEqProofs [t1]
  ·obtain rfl:i=m:=by omega
   have g': ¬(i:Int)<i:=by omega
   have hD:dotN i d i=d:=by unfold dotN;split<;>omega
   rw [hD]
   clear hK tne' tat' bad
   have D1:((s.take i).take d).all isDig=true:=by
    rw [List.all_eq_true]
    intro x hx
    obtain ⟨j,hj,rfl⟩:=List.mem_take_iff_getElem.1 hx
    rw [bat j (by omega) (by omega)]
    exact h3 j (by omega) (by omega) _
   have D2:((s.take i).drop (d+1)).all isDig=true:=by
    rw [List.all_eq_true]
    intro x hx
    obtain ⟨j,hj,rfl⟩:=List.mem_drop_iff_getElem.1 hx
    rw [bat _ (by omega) (by omega)]
    exact h3 _ (by omega) (by omega) _
   unfold pprB at hR
   rw [D1,D2,if_neg (by rintro (h|h)<;>cases h),bl,show i - 1=k by omega] at hR
   obtain ⟨z,hz⟩: ∃z:Int,z=(k:Int) - d:=⟨_,rfl⟩
   have W3:IntKind.i64.wrap ((k:Int) - (d:Int))=z:=by rw [hz,wrap_i64]<;>omega
   have z1:k - d<1↔z<1:=by omega
   have z4:4<k - d↔(4:Int)<z:=by omega
   have s48:byt s k=48↔(s[k].toNat:Int)=48:=by rw [byt_in g2];omega
   have t48:byt s 0=48↔(s[0].toNat:Int)=48:=by rw [byt_in g0];omega
   clear n1 h37
   by_cases A:(d<i∧(k - d<1∨4<k - d∨byt s k=48))
   ·rw [if_pos (Or.inl A)] at hR
    subst hR
    obtain ⟨dm,A⟩:=A
    rw [z1,z4,s48] at A
    have dm':(d:Int)<i:=by omega
    by_cases a1:z<1
    ·simp [g',W1,W2,W3,dm,dm',a1]
    ·by_cases a2:(4:Int)<z
     ·simp [g',W1,W2,W3,dm,dm',a1,a2]
     ·have a3:(s[k].toNat:Int)=48:=by
       rcases A with h|h|h
       ·exact absurd h a1
       ·exact absurd h a2
       ·exact h
      simp -implicitDefEqProofs [g',W1,W2,W3,dm,dm',a1,a2,a3,g2]
   have a1:d<i→ ¬z<1:=fun dm h=>A ⟨dm,.inl (z1.2 h)⟩
   have a2:d<i→ ¬(4:Int)<z:=fun dm h=>A ⟨dm,.inr (.inl (z4.2 h))⟩
   have a3:d<i→((s[k].toNat:Int)==48)=false:=fun dm=>beq_eq_false_iff_ne.2 (fun h=>A ⟨dm,.inr (.inr (s48.2 h))⟩)
   by_cases B:d=0
   ·rw [if_pos (Or.inr (Or.inl B))] at hR
    subst hR
    have B0:((d:Int)==0)=true:=by rw [beq_iff_eq];omega
    have B1:(d:Int)=0:=by omega
    have dm:d<i:=by omega
    have dm':(d:Int)<i:=by omega
    have a1:=a1 dm
    have a2:=a2 dm
    have a3:=a3 dm
    simp -implicitDefEqProofs [g',W1,W2,W3,dm,dm',a1,a2,a3,g2,B0]
   have B':((d:Int)==0)=false:=beq_eq_false_iff_ne.2 (by omega)
   by_cases C:(byt s 0=48∧1<d)
   ·rw [if_pos (Or.inr (Or.inr C))] at hR
    subst hR
    have c1:=t48.1 C.1
    have c2:(1:Int)<d:=by omega
    have c2':=C.2
    by_cases dm:d<i
    ·have dm':(d:Int)<i:=by omega
     have a1:=a1 dm
     have a2:=a2 dm
     have a3:=a3 dm
     simp -implicitDefEqProofs [g',W1,W2,W3,dm,dm',a1,a2,a3,g2,B',B,g0,c1,c2,c2']
    ·have dm': ¬(d:Int)<i:=by omega
     simp -implicitDefEqProofs [g',W1,W2,W3,dm,dm',B',B,g0,c1,c2,c2']
   rw [if_neg (by rintro (h|h|h);exact A h;exact B h;exact C h)] at hR
   have D3':(3:Int)<d↔3<d:=by omega
   by_cases D3:3<d
   ·rw [if_pos D3] at hR
    subst hR
    have d3:=D3'.2 D3
    by_cases dm:d<i
    ·have dm':(d:Int)<i:=by omega
     have a1:=a1 dm
     have a2:=a2 dm
     have a3:=a3 dm
     by_cases C1:(s[0].toNat:Int)=48
     ·exact absurd ⟨t48.2 C1,by omega⟩ C
     ·have C1':((s[0].toNat:Int)==48)=false:=beq_eq_false_iff_ne.2 C1
      simp -implicitDefEqProofs [g',W1,W2,W3,dm,dm',a1,a2,a3,g2,B',B,g0,C1',D3,d3]
    ·have dm': ¬(d:Int)<i:=by omega
     by_cases C1:(s[0].toNat:Int)=48
     ·exact absurd ⟨t48.2 C1,by omega⟩ C
     ·have C1':((s[0].toNat:Int)==48)=false:=beq_eq_false_iff_ne.2 C1
      simp -implicitDefEqProofs [g',W1,W2,W3,dm,dm',B',B,g0,C1',D3,d3]
   rw [if_neg D3] at hR
   have d3: ¬(3:Int)<d:=by omega
   have V9: ∀j,dgt ((s.take i).drop (d+1)) j≤9:=fun j=>by
    by_cases gj:j<((s.take i).drop (d+1)).length
    ·rw [dgt_in gj]
     have:=(isDig_iff _).1 (List.all_eq_true.1 D2 _ (List.getElem_mem gj))
     omega
    ·rw [dgt_out gj]
     omega
   have V4:True:=trivial
   have f1: ∀q,q≤d→frU (s.take i) q<10^q:=fun q hq=>by
    rw [frU_undec (s.take i) q (by omega)]
    have:=undec_lt ((s.take i).take q) (by
     rw [List.all_eq_true]
     intro x hx
     obtain ⟨j,hj,rfl⟩:=List.mem_take_iff_getElem.1 hx
     rw [bat j (by omega) (by omega)]
     exact h3 j (by omega) (by omega) _)
    rw [show ((s.take i).take q).length=q by rw [List.length_take];omega] at this
    exact this
   have Cx:((s[0].toNat:Int)==48∧ ¬1<d∧ ¬(1:Int)<d)∨((s[0].toNat:Int)==48)=false:=by
    cases h:((s[0].toNat:Int)==48)
    ·exact .inr rfl
    ·refine .inl ⟨rfl,?_,?_⟩
     ·intro h2;exact C ⟨t48.2 (by simpa using h),h2⟩
     ·intro h2;exact C ⟨t48.2 (by simpa using h),by omega⟩
   by_cases dm:d<i
   ·have dm':(d:Int)<i:=by omega
    have a1:=a1 dm
    have a2:=a2 dm
    have a3:=a3 dm
    rcases Cx with ⟨C1,C2,C3⟩|C1
    ·simp [g',W1,W2,W3,dm,dm',a1,a2,a3,g2,B',B,g0,C1,C2,C3,D3,d3]
     refine wp_lpk (α:=Nat) (fun q=>⟨[(0,.str s),(4,i6 s.length),(5,i6 d),(8,.int .u32 (frU (s.take i) q)),(9,i6 q)],[],[]⟩) (fun q=>q≤d) (fun q=>d - q) ?_ 0 (Nat.zero_le _) ?_
     ·rintro K q hK q1
      by_cases gq:q<d
      ·have gq':(q:Int)<d:=by omega
       have gs:q<s.length:=by omega
       have t1:IntKind.i64.wrap ((q:Int)+1)=(q+1:Nat):=by rw [wrap_i64]<;>omega
       have dq:=(isDig_iff _).1 (h3 q (by omega) (by omega) gs)
       have fq:frU (s.take i) (q+1)=10*frU (s.take i) q+(s[q].toNat - 48):=by
        rw [frU,dgt_in (show q<(s.take i).length by omega),bat q (by omega) gs]
       have fl:=f1 q (by omega)
       have p10:(10:Nat)^q≤1000:=by
        obtain rfl|rfl|rfl:q=0∨q=1∨q=2:=by omega
        all_goals decide
       have fin:=fun σ' hσ=>hK (q+1) σ' gq (by omega) hσ
       rw [fq] at fin
       have fl2:frU (s.take i) q<1000:=Nat.lt_of_lt_of_le fl p10
       generalize frU (s.take i) q=v at *
       have w1:IntKind.u32.wrap (10*(v:Int))=10*(v:Int):=by rw [wrap_u32]<;>omega
       have w2:IntKind.u32.wrap (s[q].toNat:Int)=(s[q].toNat:Int):=by rw [wrap_u32]<;>omega
       have w3:IntKind.u32.wrap (10*(v:Int)+(s[q].toNat:Int))=10*(v:Int)+(s[q].toNat:Int):=by rw [wrap_u32]<;>omega
       have w4:IntKind.u32.wrap (10*(v:Int)+(s[q].toNat:Int) - 48)=((10*v+(s[q].toNat - 48):Nat):Int):=by rw [wrap_u32]<;>omega
       clear hK h3 bat fl p10 fq D1 D2 f1 V9 V4 hR
       simp -implicitDefEqProofs [gq,gq',gs,w1,w2,w3]
       refine fin _ ?_
       refine weak_mk ?_ ?_ ?_ ?_ ?_ ?_<;>simp -implicitDefEqProofs [t1,w1,w2,w3,w4]
      ·obtain rfl:q=d:=by omega
       clear hK
       have gq': ¬(q:Int)<q:=by omega
       have fl:frU (s.take i) q<1000:=by
        refine Nat.lt_of_lt_of_le (f1 q (Nat.le_refl _)) ?_
        obtain rfl|rfl|rfl|rfl:q=0∨q=1∨q=2∨q=3:=by omega
        all_goals decide
       unfold pprV at hR
       rw [←vK_four] at hR
       have vb:=vK_lt (frU (s.take i) q) ((s.take i).drop (q+1)) fl V9
       generalize frU (s.take i) q=a at *
       simp -implicitDefEqProofs [gq']
       refine wp_lpk (α:=Nat) (fun y=>⟨[(0,.str s),(4,i6 s.length),(5,i6 q),(8,.int .u32 (vK a ((s.take i).drop (q+1)) y)),(10,i6 y)],[],[]⟩) (fun y=>y≤4) (fun y=>4 - y) ?_ 0 (Nat.zero_le _) ?_
       ·rintro K y hK y1
        by_cases gy:y<4
        ·have gy':(y:Int)<4:=by omega
         have t1:IntKind.i64.wrap ((y:Int)+1)=(y+1:Nat):=by rw [wrap_i64]<;>omega
         have t2:IntKind.i64.wrap ((q:Int)+1)=(q:Int)+1:=by rw [wrap_i64]<;>omega
         obtain ⟨p,hp⟩: ∃p,p=q+1+y:=⟨_,rfl⟩
         have t3:IntKind.i64.wrap ((q:Int)+1+(y:Int))=(p:Nat):=by rw [wrap_i64]<;>omega
         have fin:=fun σ' hσ=>hK (y+1) σ' gy (by omega) hσ
         have vl:=vb y (by omega)
         rw [vK] at fin
         generalize vK a ((s.take i).drop (q+1)) y=v at *
         have w1:IntKind.u32.wrap (10*(v:Int))=10*(v:Int):=by rw [wrap_u32]<;>omega
         by_cases gp:p<i
         ·have gp':(p:Int)<i:=by omega
          have gs:p<s.length:=by omega
          have dq:=(isDig_iff _).1 (h3 p gp (by omega) gs)
          have dg:dgt ((s.take i).drop (q+1)) y=s[p].toNat - 48:=by
           rw [dgt_in (by rw [List.length_drop];omega),List.getElem_drop,bat _ (by omega) (by omega)]
           simp only [hp]
          rw [dg] at fin
          have w2:IntKind.u32.wrap (s[p].toNat:Int)=(s[p].toNat:Int):=by rw [wrap_u32]<;>omega
          have w3:IntKind.u32.wrap (10*(v:Int)+(s[p].toNat:Int))=10*(v:Int)+(s[p].toNat:Int):=by rw [wrap_u32]<;>omega
          have w4:IntKind.u32.wrap (10*(v:Int)+(s[p].toNat:Int) - 48)=((10*v+(s[p].toNat - 48):Nat):Int):=by rw [wrap_u32]<;>omega
          clear hK h3 bat hp dg D1 D2 f1 V9 V4 hR vb
          simp -implicitDefEqProofs [gy,gy',gs,gp,gp',t2,t3,W1,w1,w2,w3]
          refine fin _ ?_
          refine weak_mk ?_ ?_ ?_ ?_ ?_ ?_<;>simp -implicitDefEqProofs [t1,w1,w2,w3,w4]
         ·have gp': ¬(p:Int)<i:=by omega
          rw [dgt_out (by rw [List.length_drop];omega),Nat.add_zero] at fin
          clear hK h3 bat hp D1 D2 f1 V9 V4 hR vb
          simp -implicitDefEqProofs [gy,gy',gp,gp',t2,t3,W1,w1]
          refine fin _ ?_
          refine weak_mk ?_ ?_ ?_ ?_ ?_ ?_<;>simp -implicitDefEqProofs [t1,w1]
        ·obtain rfl:y=4:=by omega
         clear hK
         generalize vK a ((s.take i).drop (q+1)) 4=v at *
         by_cases cv:1000000<v
         ·have cv':(1000000:Int)<v:=by omega
          rw [if_pos cv] at hR
          subst hR
          simp -implicitDefEqProofs [cv,cv']
         ·have cv': ¬(1000000:Int)<v:=by omega
          rw [if_neg cv] at hR
          subst hR
          simp -implicitDefEqProofs [cv,cv']
       ·refine weak_mk ?_ ?_ ?_ ?_ ?_ ?_<;>simp -implicitDefEqProofs [vK]
     ·refine weak_mk ?_ ?_ ?_ ?_ ?_ ?_<;>simp -implicitDefEqProofs [frU]
    ·simp [g',W1,W2,W3,dm,dm',a1,a2,a3,g2,B',B,g0,C1,D3,d3]
     refine wp_lpk (α:=Nat) (fun q=>⟨[(0,.str s),(4,i6 s.length),(5,i6 d),(8,.int .u32 (frU (s.take i) q)),(9,i6 q)],[],[]⟩) (fun q=>q≤d) (fun q=>d - q) ?_ 0 (Nat.zero_le _) ?_
     ·rintro K q hK q1
      by_cases gq:q<d
      ·have gq':(q:Int)<d:=by omega
       have gs:q<s.length:=by omega
       have t1:IntKind.i64.wrap ((q:Int)+1)=(q+1:Nat):=by rw [wrap_i64]<;>omega
       have dq:=(isDig_iff _).1 (h3 q (by omega) (by omega) gs)
       have fq:frU (s.take i) (q+1)=10*frU (s.take i) q+(s[q].toNat - 48):=by
        rw [frU,dgt_in (show q<(s.take i).length by omega),bat q (by omega) gs]
       have fl:=f1 q (by omega)
       have p10:(10:Nat)^q≤1000:=by
        obtain rfl|rfl|rfl:q=0∨q=1∨q=2:=by omega
        all_goals decide
       have fin:=fun σ' hσ=>hK (q+1) σ' gq (by omega) hσ
       rw [fq] at fin
       have fl2:frU (s.take i) q<1000:=Nat.lt_of_lt_of_le fl p10
       generalize frU (s.take i) q=v at *
       have w1:IntKind.u32.wrap (10*(v:Int))=10*(v:Int):=by rw [wrap_u32]<;>omega
       have w2:IntKind.u32.wrap (s[q].toNat:Int)=(s[q].toNat:Int):=by rw [wrap_u32]<;>omega
       have w3:IntKind.u32.wrap (10*(v:Int)+(s[q].toNat:Int))=10*(v:Int)+(s[q].toNat:Int):=by rw [wrap_u32]<;>omega
       have w4:IntKind.u32.wrap (10*(v:Int)+(s[q].toNat:Int) - 48)=((10*v+(s[q].toNat - 48):Nat):Int):=by rw [wrap_u32]<;>omega
       clear hK h3 bat fl p10 fq D1 D2 f1 V9 V4 hR
       simp -implicitDefEqProofs [gq,gq',gs,w1,w2,w3]
       refine fin _ ?_
       refine weak_mk ?_ ?_ ?_ ?_ ?_ ?_<;>simp -implicitDefEqProofs [t1,w1,w2,w3,w4]
      ·obtain rfl:q=d:=by omega
       clear hK
       have gq': ¬(q:Int)<q:=by omega
       have fl:frU (s.take i) q<1000:=by
        refine Nat.lt_of_lt_of_le (f1 q (Nat.le_refl _)) ?_
        obtain rfl|rfl|rfl|rfl:q=0∨q=1∨q=2∨q=3:=by omega
        all_goals decide
       unfold pprV at hR
       rw [←vK_four] at hR
       have vb:=vK_lt (frU (s.take i) q) ((s.take i).drop (q+1)) fl V9
       generalize frU (s.take i) q=a at *
       simp -implicitDefEqProofs [gq']
       refine wp_lpk (α:=Nat) (fun y=>⟨[(0,.str s),(4,i6 s.length),(5,i6 q),(8,.int .u32 (vK a ((s.take i).drop (q+1)) y)),(10,i6 y)],[],[]⟩) (fun y=>y≤4) (fun y=>4 - y) ?_ 0 (Nat.zero_le _) ?_
       ·rintro K y hK y1
        by_cases gy:y<4
        ·have gy':(y:Int)<4:=by omega
         have t1:IntKind.i64.wrap ((y:Int)+1)=(y+1:Nat):=by rw [wrap_i64]<;>omega
         have t2:IntKind.i64.wrap ((q:Int)+1)=(q:Int)+1:=by rw [wrap_i64]<;>omega
         obtain ⟨p,hp⟩: ∃p,p=q+1+y:=⟨_,rfl⟩
         have t3:IntKind.i64.wrap ((q:Int)+1+(y:Int))=(p:Nat):=by rw [wrap_i64]<;>omega
         have fin:=fun σ' hσ=>hK (y+1) σ' gy (by omega) hσ
         have vl:=vb y (by omega)
         rw [vK] at fin
         generalize vK a ((s.take i).drop (q+1)) y=v at *
         have w1:IntKind.u32.wrap (10*(v:Int))=10*(v:Int):=by rw [wrap_u32]<;>omega
         by_cases gp:p<i
         ·have gp':(p:Int)<i:=by omega
          have gs:p<s.length:=by omega
          have dq:=(isDig_iff _).1 (h3 p gp (by omega) gs)
          have dg:dgt ((s.take i).drop (q+1)) y=s[p].toNat - 48:=by
           rw [dgt_in (by rw [List.length_drop];omega),List.getElem_drop,bat _ (by omega) (by omega)]
           simp only [hp]
          rw [dg] at fin
          have w2:IntKind.u32.wrap (s[p].toNat:Int)=(s[p].toNat:Int):=by rw [wrap_u32]<;>omega
          have w3:IntKind.u32.wrap (10*(v:Int)+(s[p].toNat:Int))=10*(v:Int)+(s[p].toNat:Int):=by rw [wrap_u32]<;>omega
          have w4:IntKind.u32.wrap (10*(v:Int)+(s[p].toNat:Int) - 48)=((10*v+(s[p].toNat - 48):Nat):Int):=by rw [wrap_u32]<;>omega
          clear hK h3 bat hp dg D1 D2 f1 V9 V4 hR vb
          simp -implicitDefEqProofs [gy,gy',gs,gp,gp',t2,t3,W1,w1,w2,w3]
          refine fin _ ?_
          refine weak_mk ?_ ?_ ?_ ?_ ?_ ?_<;>simp -implicitDefEqProofs [t1,w1,w2,w3,w4]
         ·have gp': ¬(p:Int)<i:=by omega
          rw [dgt_out (by rw [List.length_drop];omega),Nat.add_zero] at fin
          clear hK h3 bat hp D1 D2 f1 V9 V4 hR vb
          simp -implicitDefEqProofs [gy,gy',gp,gp',t2,t3,W1,w1]
          refine fin _ ?_
          refine weak_mk ?_ ?_ ?_ ?_ ?_ ?_<;>simp -implicitDefEqProofs [t1,w1]
        ·obtain rfl:y=4:=by omega
         clear hK
         generalize vK a ((s.take i).drop (q+1)) 4=v at *
         by_cases cv:1000000<v
         ·have cv':(1000000:Int)<v:=by omega
          rw [if_pos cv] at hR
          subst hR
          simp -implicitDefEqProofs [cv,cv']
         ·have cv': ¬(1000000:Int)<v:=by omega
          rw [if_neg cv] at hR
          subst hR
          simp -implicitDefEqProofs [cv,cv']
       ·refine weak_mk ?_ ?_ ?_ ?_ ?_ ?_<;>simp -implicitDefEqProofs [vK]
     ·refine weak_mk ?_ ?_ ?_ ?_ ?_ ?_<;>simp -implicitDefEqProofs [frU]
   ·have dm': ¬(d:Int)<i:=by omega
    rcases Cx with ⟨C1,C2,C3⟩|C1
    ·simp [g',W1,W2,W3,dm,dm',B',B,g0,C1,C2,C3,D3,d3]
     refine wp_lpk (α:=Nat) (fun q=>⟨[(0,.str s),(4,i6 s.length),(5,i6 d),(8,.int .u32 (frU (s.take i) q)),(9,i6 q)],[],[]⟩) (fun q=>q≤d) (fun q=>d - q) ?_ 0 (Nat.zero_le _) ?_
     ·rintro K q hK q1
      by_cases gq:q<d
      ·have gq':(q:Int)<d:=by omega
       have gs:q<s.length:=by omega
       have t1:IntKind.i64.wrap ((q:Int)+1)=(q+1:Nat):=by rw [wrap_i64]<;>omega
       have dq:=(isDig_iff _).1 (h3 q (by omega) (by omega) gs)
       have fq:frU (s.take i) (q+1)=10*frU (s.take i) q+(s[q].toNat - 48):=by
        rw [frU,dgt_in (show q<(s.take i).length by omega),bat q (by omega) gs]
       have fl:=f1 q (by omega)
       have p10:(10:Nat)^q≤1000:=by
        obtain rfl|rfl|rfl:q=0∨q=1∨q=2:=by omega
        all_goals decide
       have fin:=fun σ' hσ=>hK (q+1) σ' gq (by omega) hσ
       rw [fq] at fin
       have fl2:frU (s.take i) q<1000:=Nat.lt_of_lt_of_le fl p10
       generalize frU (s.take i) q=v at *
       have w1:IntKind.u32.wrap (10*(v:Int))=10*(v:Int):=by rw [wrap_u32]<;>omega
       have w2:IntKind.u32.wrap (s[q].toNat:Int)=(s[q].toNat:Int):=by rw [wrap_u32]<;>omega
       have w3:IntKind.u32.wrap (10*(v:Int)+(s[q].toNat:Int))=10*(v:Int)+(s[q].toNat:Int):=by rw [wrap_u32]<;>omega
       have w4:IntKind.u32.wrap (10*(v:Int)+(s[q].toNat:Int) - 48)=((10*v+(s[q].toNat - 48):Nat):Int):=by rw [wrap_u32]<;>omega
       clear hK h3 bat fl p10 fq D1 D2 f1 V9 V4 hR
       simp -implicitDefEqProofs [gq,gq',gs,w1,w2,w3]
       refine fin _ ?_
       refine weak_mk ?_ ?_ ?_ ?_ ?_ ?_<;>simp -implicitDefEqProofs [t1,w1,w2,w3,w4]
      ·obtain rfl:q=d:=by omega
       clear hK
       have gq': ¬(q:Int)<q:=by omega
       have fl:frU (s.take i) q<1000:=by
        refine Nat.lt_of_lt_of_le (f1 q (Nat.le_refl _)) ?_
        obtain rfl|rfl|rfl|rfl:q=0∨q=1∨q=2∨q=3:=by omega
        all_goals decide
       unfold pprV at hR
       rw [←vK_four] at hR
       have vb:=vK_lt (frU (s.take i) q) ((s.take i).drop (q+1)) fl V9
       generalize frU (s.take i) q=a at *
       simp -implicitDefEqProofs [gq']
       refine wp_lpk (α:=Nat) (fun y=>⟨[(0,.str s),(4,i6 s.length),(5,i6 q),(8,.int .u32 (vK a ((s.take i).drop (q+1)) y)),(10,i6 y)],[],[]⟩) (fun y=>y≤4) (fun y=>4 - y) ?_ 0 (Nat.zero_le _) ?_
       ·rintro K y hK y1
        by_cases gy:y<4
        ·have gy':(y:Int)<4:=by omega
         have t1:IntKind.i64.wrap ((y:Int)+1)=(y+1:Nat):=by rw [wrap_i64]<;>omega
         have t2:IntKind.i64.wrap ((q:Int)+1)=(q:Int)+1:=by rw [wrap_i64]<;>omega
         obtain ⟨p,hp⟩: ∃p,p=q+1+y:=⟨_,rfl⟩
         have t3:IntKind.i64.wrap ((q:Int)+1+(y:Int))=(p:Nat):=by rw [wrap_i64]<;>omega
         have fin:=fun σ' hσ=>hK (y+1) σ' gy (by omega) hσ
         have vl:=vb y (by omega)
         rw [vK] at fin
         generalize vK a ((s.take i).drop (q+1)) y=v at *
         have w1:IntKind.u32.wrap (10*(v:Int))=10*(v:Int):=by rw [wrap_u32]<;>omega
         by_cases gp:p<i
         ·have gp':(p:Int)<i:=by omega
          have gs:p<s.length:=by omega
          have dq:=(isDig_iff _).1 (h3 p gp (by omega) gs)
          have dg:dgt ((s.take i).drop (q+1)) y=s[p].toNat - 48:=by
           rw [dgt_in (by rw [List.length_drop];omega),List.getElem_drop,bat _ (by omega) (by omega)]
           simp only [hp]
          rw [dg] at fin
          have w2:IntKind.u32.wrap (s[p].toNat:Int)=(s[p].toNat:Int):=by rw [wrap_u32]<;>omega
          have w3:IntKind.u32.wrap (10*(v:Int)+(s[p].toNat:Int))=10*(v:Int)+(s[p].toNat:Int):=by rw [wrap_u32]<;>omega
          have w4:IntKind.u32.wrap (10*(v:Int)+(s[p].toNat:Int) - 48)=((10*v+(s[p].toNat - 48):Nat):Int):=by rw [wrap_u32]<;>omega
          clear hK h3 bat hp dg D1 D2 f1 V9 V4 hR vb
          simp -implicitDefEqProofs [gy,gy',gs,gp,gp',t2,t3,W1,w1,w2,w3]
          refine fin _ ?_
          refine weak_mk ?_ ?_ ?_ ?_ ?_ ?_<;>simp -implicitDefEqProofs [t1,w1,w2,w3,w4]
         ·have gp': ¬(p:Int)<i:=by omega
          rw [dgt_out (by rw [List.length_drop];omega),Nat.add_zero] at fin
          clear hK h3 bat hp D1 D2 f1 V9 V4 hR vb
          simp -implicitDefEqProofs [gy,gy',gp,gp',t2,t3,W1,w1]
          refine fin _ ?_
          refine weak_mk ?_ ?_ ?_ ?_ ?_ ?_<;>simp -implicitDefEqProofs [t1,w1]
        ·obtain rfl:y=4:=by omega
         clear hK
         generalize vK a ((s.take i).drop (q+1)) 4=v at *
         by_cases cv:1000000<v
         ·have cv':(1000000:Int)<v:=by omega
          rw [if_pos cv] at hR
          subst hR
          simp -implicitDefEqProofs [cv,cv']
         ·have cv': ¬(1000000:Int)<v:=by omega
          rw [if_neg cv] at hR
          subst hR
          simp -implicitDefEqProofs [cv,cv']
       ·refine weak_mk ?_ ?_ ?_ ?_ ?_ ?_<;>simp -implicitDefEqProofs [vK]
     ·refine weak_mk ?_ ?_ ?_ ?_ ?_ ?_<;>simp -implicitDefEqProofs [frU]
    ·simp [g',W1,W2,W3,dm,dm',B',B,g0,C1,D3,d3]
     refine wp_lpk (α:=Nat) (fun q=>⟨[(0,.str s),(4,i6 s.length),(5,i6 d),(8,.int .u32 (frU (s.take i) q)),(9,i6 q)],[],[]⟩) (fun q=>q≤d) (fun q=>d - q) ?_ 0 (Nat.zero_le _) ?_
     ·rintro K q hK q1
      by_cases gq:q<d
      ·have gq':(q:Int)<d:=by omega
       have gs:q<s.length:=by omega
       have t1:IntKind.i64.wrap ((q:Int)+1)=(q+1:Nat):=by rw [wrap_i64]<;>omega
       have dq:=(isDig_iff _).1 (h3 q (by omega) (by omega) gs)
       have fq:frU (s.take i) (q+1)=10*frU (s.take i) q+(s[q].toNat - 48):=by
        rw [frU,dgt_in (show q<(s.take i).length by omega),bat q (by omega) gs]
       have fl:=f1 q (by omega)
       have p10:(10:Nat)^q≤1000:=by
        obtain rfl|rfl|rfl:q=0∨q=1∨q=2:=by omega
        all_goals decide
       have fin:=fun σ' hσ=>hK (q+1) σ' gq (by omega) hσ
       rw [fq] at fin
       have fl2:frU (s.take i) q<1000:=Nat.lt_of_lt_of_le fl p10
       generalize frU (s.take i) q=v at *
       have w1:IntKind.u32.wrap (10*(v:Int))=10*(v:Int):=by rw [wrap_u32]<;>omega
       have w2:IntKind.u32.wrap (s[q].toNat:Int)=(s[q].toNat:Int):=by rw [wrap_u32]<;>omega
       have w3:IntKind.u32.wrap (10*(v:Int)+(s[q].toNat:Int))=10*(v:Int)+(s[q].toNat:Int):=by rw [wrap_u32]<;>omega
       have w4:IntKind.u32.wrap (10*(v:Int)+(s[q].toNat:Int) - 48)=((10*v+(s[q].toNat - 48):Nat):Int):=by rw [wrap_u32]<;>omega
       clear hK h3 bat fl p10 fq D1 D2 f1 V9 V4 hR
       simp -implicitDefEqProofs [gq,gq',gs,w1,w2,w3]
       refine fin _ ?_
       refine weak_mk ?_ ?_ ?_ ?_ ?_ ?_<;>simp -implicitDefEqProofs [t1,w1,w2,w3,w4]
      ·obtain rfl:q=d:=by omega
       clear hK
       have gq': ¬(q:Int)<q:=by omega
       have fl:frU (s.take i) q<1000:=by
        refine Nat.lt_of_lt_of_le (f1 q (Nat.le_refl _)) ?_
        obtain rfl|rfl|rfl|rfl:q=0∨q=1∨q=2∨q=3:=by omega
        all_goals decide
       unfold pprV at hR
       rw [←vK_four] at hR
       have vb:=vK_lt (frU (s.take i) q) ((s.take i).drop (q+1)) fl V9
       generalize frU (s.take i) q=a at *
       simp -implicitDefEqProofs [gq']
       refine wp_lpk (α:=Nat) (fun y=>⟨[(0,.str s),(4,i6 s.length),(5,i6 q),(8,.int .u32 (vK a ((s.take i).drop (q+1)) y)),(10,i6 y)],[],[]⟩) (fun y=>y≤4) (fun y=>4 - y) ?_ 0 (Nat.zero_le _) ?_
       ·rintro K y hK y1
        by_cases gy:y<4
        ·have gy':(y:Int)<4:=by omega
         have t1:IntKind.i64.wrap ((y:Int)+1)=(y+1:Nat):=by rw [wrap_i64]<;>omega
         have t2:IntKind.i64.wrap ((q:Int)+1)=(q:Int)+1:=by rw [wrap_i64]<;>omega
         obtain ⟨p,hp⟩: ∃p,p=q+1+y:=⟨_,rfl⟩
         have t3:IntKind.i64.wrap ((q:Int)+1+(y:Int))=(p:Nat):=by rw [wrap_i64]<;>omega
         have fin:=fun σ' hσ=>hK (y+1) σ' gy (by omega) hσ
         have vl:=vb y (by omega)
         rw [vK] at fin
         generalize vK a ((s.take i).drop (q+1)) y=v at *
         have w1:IntKind.u32.wrap (10*(v:Int))=10*(v:Int):=by rw [wrap_u32]<;>omega
         by_cases gp:p<i
         ·have gp':(p:Int)<i:=by omega
          have gs:p<s.length:=by omega
          have dq:=(isDig_iff _).1 (h3 p gp (by omega) gs)
          have dg:dgt ((s.take i).drop (q+1)) y=s[p].toNat - 48:=by
           rw [dgt_in (by rw [List.length_drop];omega),List.getElem_drop,bat _ (by omega) (by omega)]
           simp only [hp]
          rw [dg] at fin
          have w2:IntKind.u32.wrap (s[p].toNat:Int)=(s[p].toNat:Int):=by rw [wrap_u32]<;>omega
          have w3:IntKind.u32.wrap (10*(v:Int)+(s[p].toNat:Int))=10*(v:Int)+(s[p].toNat:Int):=by rw [wrap_u32]<;>omega
          have w4:IntKind.u32.wrap (10*(v:Int)+(s[p].toNat:Int) - 48)=((10*v+(s[p].toNat - 48):Nat):Int):=by rw [wrap_u32]<;>omega
          clear hK h3 bat hp dg D1 D2 f1 V9 V4 hR vb
          simp -implicitDefEqProofs [gy,gy',gs,gp,gp',t2,t3,W1,w1,w2,w3]
          refine fin _ ?_
          refine weak_mk ?_ ?_ ?_ ?_ ?_ ?_<;>simp -implicitDefEqProofs [t1,w1,w2,w3,w4]
         ·have gp': ¬(p:Int)<i:=by omega
          rw [dgt_out (by rw [List.length_drop];omega),Nat.add_zero] at fin
          clear hK h3 bat hp D1 D2 f1 V9 V4 hR vb
          simp -implicitDefEqProofs [gy,gy',gp,gp',t2,t3,W1,w1]
          refine fin _ ?_
          refine weak_mk ?_ ?_ ?_ ?_ ?_ ?_<;>simp -implicitDefEqProofs [t1,w1]
        ·obtain rfl:y=4:=by omega
         clear hK
         generalize vK a ((s.take i).drop (q+1)) 4=v at *
         by_cases cv:1000000<v
         ·have cv':(1000000:Int)<v:=by omega
          rw [if_pos cv] at hR
          subst hR
          simp -implicitDefEqProofs [cv,cv']
         ·have cv': ¬(1000000:Int)<v:=by omega
          rw [if_neg cv] at hR
          subst hR
          simp -implicitDefEqProofs [cv,cv']
       ·refine weak_mk ?_ ?_ ?_ ?_ ?_ ?_<;>simp -implicitDefEqProofs [vK]
     ·refine weak_mk ?_ ?_ ?_ ?_ ?_ ?_<;>simp -implicitDefEqProofs [frU]
 ·exact ⟨Nat.zero_le _,fun j h=>absurd h (by omega)⟩
 ·rw [show dotN m d 0=m from if_pos (Nat.zero_le _)]
  refine weak_mk ?_ ?_ ?_ ?_ ?_ ?_<;>simp -implicitDefEqProofs
end Go.Ai
