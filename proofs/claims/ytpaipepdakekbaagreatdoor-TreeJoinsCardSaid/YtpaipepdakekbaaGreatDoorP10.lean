/- P10: a part of the proof: the rules, or what functions compute. Conditions: as each theorem says. -/
import Derived.Test.YtpaipepdakekbaaGreatDoorP9
import Derived.Test.YtpaipepdakekbaaGreatDoorP1
import Derived.Test.YtpaipepdakekbaaGreatDoorAiShelf
import Derived.Test.YtpaipepdakekbaaGreatDoorAiShelf4
import Derived.Test.YtpaipepdakekbaaGreatDoorCode
import Derived.Test.YtpaipepdakekbaaGreatDoorAiShelf2
import Derived.Shelf.Strings.Fields
import Derived.Shelf.Strings.Search2
import Derived.Test.YtpaipepdakekbaaGreatDoorAiUse
import Derived.Lib.SplitLaws
import Derived.Lib.IndexBytes
set_option linter.unusedSimpArgs false
set_option linter.unusedVariables false
set_option maxRecDepth 20000
namespace Go.Ai
open Go.Proofs Go.Shelf
theorem extraJ:Builder.Extra Tryz.prog ren_laysJoin where
 sizeBuilder:=by kernel_rfl
 liesBuilder:=by kernel_rfl
 t5:=Tryz.underlying5
 a5:=Tryz.isAgg5
 z5:=Tryz.sizeOf5
 v5:=Tryz.zeroValue5
 infoByte:=by kernel_rfl
 cellsByte:=by kernel_rfl
 sizeByte:=by kernel_rfl
 neB5:=by decide
end Go.Ai
namespace Go.Ai
open Go.Proofs Go.Shelf
theorem cutP_spec (s p:List UInt8):Sp Tryz.prog gl 106 [.str s,.str p] (.tup [.str (Lib.trimPrefix s p),.bool (Lib.hasPrefix s p)]):=
 cutP_shelf laysCutP (by kernel_rfl) (by kernel_rfl) s p
end Go.Ai
namespace Go.Ai
open Go.Proofs Go.Shelf
theorem trimD_spec (s:List UInt8) (hs:s.length≤1000000):Sp Tryz.prog gl 54 [.str s,.str [48,49,50,51,52,53,54,55,56,57]] (.str (Lib.trimS s [48,49,50,51,52,53,54,55,56,57])):=by
 refine shelf_spec laysTrim.f160 (by kernel_rfl) (by kernel_rfl) ?_
 intro S gb w vs hvs hag
 simp only [PRlist] at hvs
 obtain ⟨v1,_,rfl,p1,v2,_,rfl,p2,rfl⟩:=hvs
 simp only [PR] at p1 p2
 subst p1;subst p2
 refine (Any.strings_Trim_laid laysTrim (by kernel_rfl) ⟨s.toArray⟩ ⟨[48,49,50,51,52,53,54,55,56,57].toArray⟩ w (by simp only [ByteArray.size,List.size_toArray];omega) (by decide) (ascii_of_all (by decide))).mono ?_
 rintro e w' ⟨rfl,h⟩
 exact ⟨_,rfl,h,by simp only [PR]⟩
set_option maxRecDepth 100000 in
theorem dig_in (b:UInt8):([48,49,50,51,52,53,54,55,56,57]:List UInt8).contains b=isDig b:=by
 have h: ∀n:Fin 256,([48,49,50,51,52,53,54,55,56,57]:List UInt8).contains (UInt8.ofNat n.1)=decide (48≤n.1∧n.1≤57):=by decide
 have h2:=h ⟨b.toNat,b.toNat_lt⟩
 rw [UInt8.ofNat_toNat] at h2
 exact h2
theorem dw_nil {α:Type} (p:α→Bool): ∀l:List α,l.dropWhile p=[]↔l.all p=true
 |[]=>by simp
 |a::l=>by
  have ih:=dw_nil p l
  rw [List.dropWhile_cons,List.all_cons]
  cases h:p a
  ·simp
  ·simpa using ih
theorem trimD_nil (s:List UInt8):(Lib.trimS s [48,49,50,51,52,53,54,55,56,57]==[])=s.all isDig:=by
 have e:(fun b:UInt8=>([48,49,50,51,52,53,54,55,56,57]:List UInt8).contains b)=isDig:=funext dig_in
 unfold Lib.trimS Lib.trimLeftS Lib.trimRightS
 rw [e,Bool.eq_iff_iff,beq_iff_eq,dw_nil,List.all_reverse]
 constructor
 ·intro h
  have h2:s.reverse.dropWhile isDig=[]:=by
   cases g:s.reverse.dropWhile isDig with
   |nil=>rfl
   |cons a t=>
    have ha:isDig a=false:=by
     have:=List.head?_dropWhile_not isDig s.reverse
     rw [g] at this
     simpa using this
    rw [g,List.all_cons,ha] at h
    cases h
  rw [dw_nil,List.all_reverse] at h2
  exact h2
 ·intro h
  rw [←List.all_reverse,←dw_nil] at h
  rw [h]
  rfl
end Go.Ai
namespace Go.Ai
open Go.Proofs Go.Shelf
def ren_laysIdx:Ren:={
 f:=fun x=>match x with
  |219=>98
  |217=>114
  |225=>115
  |224=>116
  |267=>117
  |266=>131
  |314=>132
  |n=>n
 t:=fun x=>match x with
  |9=>9
  |3=>3
  |4=>4
  |5=>5
  |46=>148
  |146=>163
  |51=>81
  |n=>n
 g:=fun x=>match x with
  |1=>0
  |n=>n}
set_option maxRecDepth 100000 in
theorem laysIdx:Lays.n219 Tryz.prog ren_laysIdx where
 mixed:=by kernel_rfl
 f217:=Eq.trans Tryz.func114 (congrArg some (show Tryz.f114=Body.n217 ren_laysIdx by kernel_rfl))
 f219:=Eq.trans Tryz.func98 (congrArg some (show Tryz.f98=Body.n219 ren_laysIdx by kernel_rfl))
 f224:=Eq.trans Tryz.func116 (congrArg some (show Tryz.f116=Body.n224 ren_laysIdx by kernel_rfl))
 f225:=Eq.trans Tryz.func115 (congrArg some (show Tryz.f115=Body.n225 ren_laysIdx by kernel_rfl))
 f266:=Eq.trans Tryz.func131 (congrArg some (show Tryz.f131=Body.n266 ren_laysIdx by kernel_rfl))
 f267:=Eq.trans Tryz.func117 (congrArg some (show Tryz.f117=Body.n267 ren_laysIdx by kernel_rfl))
 f314:=Eq.trans Tryz.func132 (congrArg some (show Tryz.f132=Body.n314 ren_laysIdx by kernel_rfl))
 t3:=Tryz.underlying3
 a3:=Tryz.isAgg3
 z3:=Tryz.sizeOf3
 v3:=Tryz.zeroValue3
 t4:=Tryz.underlying4
 a4:=Tryz.isAgg4
 z4:=Tryz.sizeOf4
 v4:=Tryz.zeroValue4
 t5:=Tryz.underlying5
 a5:=Tryz.isAgg5
 z5:=Tryz.sizeOf5
 v5:=Tryz.zeroValue5
 t9:=Tryz.underlying9
 a9:=Tryz.isAgg9
 z9:=Tryz.sizeOf9
 v9:=Tryz.zeroValue9
 t46:=Tryz.underlying148
 a46:=Tryz.isAgg148
 z46:=Tryz.sizeOf148
 v46:=Tryz.zeroValue148
 t51:=Tryz.underlying81
 a51:=Tryz.isAgg81
 z51:=Tryz.sizeOf81
 v51:=Tryz.zeroValue81
 t146:=Tryz.underlying163
 a146:=Tryz.isAgg163
 z146:=Tryz.sizeOf163
 v146:=Tryz.zeroValue163
 g1:=by kernel_rfl
end Go.Ai
namespace Go.Ai
theorem ibB_none (c:UInt8): ∀(a:List UInt8),(∀b∈a,b≠c)→Lib.indexByte a c= -1
 |[],_=>rfl
 |b::r,h=>by
  have hb:b≠c:=h b (by simp)
  rw [Lib.indexByte,ibB_none c r (fun x hx=>h x (by simp [hx]))]
  simp [hb]
theorem ibB_some (c:UInt8): ∀(a r:List UInt8),(∀b∈a,b≠c)→Lib.indexByte (a++c::r) c=(a.length:Int)
 |[],r,_=>by simp [Lib.indexByte]
 |b::a,r,h=>by
  have hb:b≠c:=h b (by simp)
  have ih:=ibB_some c a r (fun x hx=>h x (by simp [hx]))
  rw [List.cons_append,Lib.indexByte,ih]
  have h1:((a.length:Int)== -1)=false:=by rw [beq_eq_false_iff_ne];omega
  simp [hb,h1]
theorem cutB (c:UInt8): ∀(s:List UInt8),(∀b∈s,b≠c)∨ ∃a r,s=a++c::r∧ ∀b∈a,b≠c
 |[]=> .inl (by simp)
 |b::s=>by
  by_cases hb:b=c
  ·subst hb;exact .inr ⟨[],s,rfl,by simp⟩
  ·rcases cutB c s with h|⟨a,r,rfl,h⟩
   ·left;intro x hx;rcases List.mem_cons.1 hx with rfl|hx
    ·exact hb
    ·exact h x hx
   ·right
    refine ⟨b::a,r,rfl,fun x hx=>?_⟩
    rcases List.mem_cons.1 hx with rfl|hx
    ·exact hb
    ·exact h x hx
theorem tw_all {p:UInt8→Bool}: ∀ {a:List UInt8},(∀b∈a,p b=true)→a.takeWhile p=a
 |[],_=>rfl
 |b::a,h=>by
  rw [List.takeWhile_cons,if_pos (h b (by simp)),tw_all (fun x hx=>h x (by simp [hx]))]
theorem tw_app {p:UInt8→Bool} {c:UInt8} (hc:p c=false): ∀ {a r:List UInt8},(∀b∈a,p b=true)→(a++c::r).takeWhile p=a
 |[],r,_=>by simp [hc]
 |b::a,r,h=>by
  rw [List.cons_append,List.takeWhile_cons,if_pos (h b (by simp)),tw_app hc (fun x hx=>h x (by simp [hx]))]
open Go.Proofs
def wholeF (s:List UInt8):Nat×Bool:=
 if okDec s=true then (if 3<(runesL s 0).length then (101,true) else (min (pnF (runesL s 0) s.length).1 101,(pnF (runesL s 0) s.length).2)) else (0,false)
theorem whole_spec (s:List UInt8) (hl:s.length≤1000000):Sp Tryz.prog gl 77 [.str s] (.tup [.int .u32 (wholeF s).1,.bool (wholeF s).2]):=by
 refine s77 rfl rfl ?_
 have TR:=trimD_spec s hl
 have TN:=trimD_nil s
 have RC:=rcount_spec s hl
 have PN:=pnumber_spec s hl s.length hl
 unfold wholeF
 generalize (runesL s 0).length=rc at *
 generalize pnF (runesL s 0) s.length=q at *
 obtain ⟨n,o⟩:=q
 dsimp only at PN ⊢
 generalize Lib.trimS s [48,49,50,51,52,53,54,55,56,57]=tr at *
 by_cases e:s=[]
 ·subst e
  clear PN TN TR RC
  rw [if_neg (by decide)]
  simp -implicitDefEqProofs [c77]
 have en:(s==[])=false:=beq_eq_false_iff_ne.2 e
 have g0:0<s.length:=List.length_pos_iff.2 e
 have hh:s.headD 0=s[0]:=by
  cases s with
  |nil=>exact absurd rfl e
  |cons a t=>rfl
 have ie:s.isEmpty=false:=by rw [List.isEmpty_eq_false_iff];exact e
 have h48:s[0]=48↔(s[0].toNat:Int)=48:=by
  constructor
  ·intro h;rw [h];rfl
  ·intro h;exact UInt8.toNat_inj.1 (by show s[0].toNat=48;omega)
 have od:okDec s=(s.all isDig&&(s[0]!=48||s.length==1)):=by
  unfold okDec
  rw [ie,hh]
  rfl
 rw [od,←TN]
 clear TN od hh ie
 by_cases c1:(s[0].toNat:Int)=48
 ·have e1:(s[0]!=48)=false:=by rw [bne_eq_false_iff_eq];exact h48.2 c1
  rw [e1,Bool.false_or]
  by_cases c2:1<s.length
  ·have c2':(1:Int)<s.length:=by omega
   rw [show (s.length==1)=false by rw [beq_eq_false_iff_ne];omega,Bool.and_false,if_neg (by decide)]
   clear PN TR RC
   simp -implicitDefEqProofs [c77,e,en,g0,c1,c2,c2']
  ·have c2': ¬(1:Int)<s.length:=by omega
   rw [show (s.length==1)=true by rw [beq_iff_eq];omega,Bool.and_true]
   cases ht:(tr==[])
   ·have ht1:(tr !=[])=true:=by unfold bne;rw [ht];rfl
    have ht2: ¬tr=[]:=fun h=>by rw [h] at ht;cases ht
    rw [if_neg (by decide)]
    clear PN RC
    simp -implicitDefEqProofs [c77,e,en,g0,c1,c2,c2']
    refine onC_mk _ (TR) ?_
    simp -implicitDefEqProofs [ht1,ht2,show tr.isEmpty=false by rw [List.isEmpty_eq_false_iff];exact ht2]
   have ht2:tr=[]:=by simpa using ht
   subst ht2
   rw [if_pos rfl]
   simp -implicitDefEqProofs [c77,e,en,g0,c1,c2,c2']
   refine onC_mk _ (TR) ?_
   simp -implicitDefEqProofs
   refine onC_mk _ (RC) ?_
   by_cases cr:3<rc
   ·have cr':(3:Int)<rc:=by omega
    rw [if_pos cr]
    simp -implicitDefEqProofs [cr,cr']
   have cr': ¬(3:Int)<rc:=by omega
   rw [if_neg cr]
   simp -implicitDefEqProofs [cr,cr']
   refine onC_mk _ (PN) ?_
   have cm:((min n 101:Nat):Int)=(if 101<(n:Int) then 101 else (n:Int)):=by split<;>omega
   simp -implicitDefEqProofs [cm]
 ·have e1:(s[0]!=48)=true:=by rw [bne_iff_ne];exact fun h=>c1 (h48.1 h)
  have c1':((s[0].toNat:Int)==48)=false:=beq_eq_false_iff_ne.2 c1
  rw [e1,Bool.true_or,Bool.and_true]
  cases ht:(tr==[])
  ·have ht1:(tr !=[])=true:=by unfold bne;rw [ht];rfl
   have ht2: ¬tr=[]:=fun h=>by rw [h] at ht;cases ht
   rw [if_neg (by decide)]
   clear PN RC
   simp -implicitDefEqProofs [c77,e,en,g0,c1,c1']
   refine onC_mk _ (TR) ?_
   simp -implicitDefEqProofs [ht1,ht2,show tr.isEmpty=false by rw [List.isEmpty_eq_false_iff];exact ht2]
  have ht2:tr=[]:=by simpa using ht
  subst ht2
  rw [if_pos rfl]
  simp -implicitDefEqProofs [c77,e,en,g0,c1,c1']
  refine onC_mk _ (TR) ?_
  simp -implicitDefEqProofs
  refine onC_mk _ (RC) ?_
  by_cases cr:3<rc
  ·have cr':(3:Int)<rc:=by omega
   rw [if_pos cr]
   simp -implicitDefEqProofs [cr,cr']
  have cr': ¬(3:Int)<rc:=by omega
  rw [if_neg cr]
  simp -implicitDefEqProofs [cr,cr']
  refine onC_mk _ (PN) ?_
  have cm:((min n 101:Nat):Int)=(if 101<(n:Int) then 101 else (n:Int)):=by split<;>omega
  simp -implicitDefEqProofs [cm]
end Go.Ai
