/- P11: a part of the proof: the rules, or what functions compute. Conditions: as each theorem says. -/
import Derived.Test.YthonkjadcpdphaaGreatDoorP10
import Derived.Test.YthonkjadcpdphaaGreatDoorCode
import Derived.Test.YthonkjadcpdphaaGreatDoorAiShelf2
import Derived.Shelf.Strings.Fields
import Derived.Shelf.Strings.Search2
import Derived.Test.YthonkjadcpdphaaGreatDoorAiUse
import Derived.Lib.SplitLaws
import Derived.Lib.IndexBytes
import Derived.Test.YthonkjadcpdphaaGreatDoorAiShelf5
import Derived.Test.YthonkjadcpdphaaGreatDoorP2
set_option linter.unusedSimpArgs false
set_option linter.unusedVariables false
set_option maxRecDepth 20000
namespace Go.Ai
open Go.Proofs Go.Shelf
theorem trimD_spec (s:List UInt8) (hs:s.length≤1000000):Sp Tryz.prog gl 118 [.str s,.str [48,49,50,51,52,53,54,55,56,57]] (.str (Lib.trimS s [48,49,50,51,52,53,54,55,56,57])):=by
 refine shelf_spec laysTrim.f160 (by kernel_rfl) (by kernel_rfl) ?_
 intro S gb w vs hvs hag
 simp only [PRlist] at hvs
 obtain ⟨v1,_,rfl,p1,v2,_,rfl,p2,rfl⟩:=hvs
 simp only [PR] at p1 p2
 subst p1;subst p2
 refine (Any.strings_Trim_laid laysTrim (by kernel_rfl) ⟨s.toArray⟩ ⟨[48,49,50,51,52,53,54,55,56,57].toArray⟩ w (by simp only [ByteArray.size,List.size_toArray];omega) (by decide) (ascii_of_all (by decide))).mono ?_
 rintro e w' ⟨rfl,h⟩
 exact ⟨_,rfl,h,by simp only [PR]⟩
set_option maxRecDepth 100000 in
theorem dig_in (b:UInt8):([48,49,50,51,52,53,54,55,56,57]:List UInt8).contains b=isDig b:=by
 have h: ∀n:Fin 256,([48,49,50,51,52,53,54,55,56,57]:List UInt8).contains (UInt8.ofNat n.1)=decide (48≤n.1∧n.1≤57):=by decide
 have h2:=h ⟨b.toNat,b.toNat_lt⟩
 rw [UInt8.ofNat_toNat] at h2
 exact h2
theorem dw_nil {α:Type} (p:α→Bool): ∀l:List α,l.dropWhile p=[]↔l.all p=true
 |[]=>by simp
 |a::l=>by
  have ih:=dw_nil p l
  rw [List.dropWhile_cons,List.all_cons]
  cases h:p a
  ·simp
  ·simpa using ih
theorem trimD_nil (s:List UInt8):(Lib.trimS s [48,49,50,51,52,53,54,55,56,57]==[])=s.all isDig:=by
 have e:(fun b:UInt8=>([48,49,50,51,52,53,54,55,56,57]:List UInt8).contains b)=isDig:=funext dig_in
 unfold Lib.trimS Lib.trimLeftS Lib.trimRightS
 rw [e,Bool.eq_iff_iff,beq_iff_eq,dw_nil,List.all_reverse]
 constructor
 ·intro h
  have h2:s.reverse.dropWhile isDig=[]:=by
   cases g:s.reverse.dropWhile isDig with
   |nil=>rfl
   |cons a t=>
    have ha:isDig a=false:=by
     have:=List.head?_dropWhile_not isDig s.reverse
     rw [g] at this
     simpa using this
    rw [g,List.all_cons,ha] at h
    cases h
  rw [dw_nil,List.all_reverse] at h2
  exact h2
 ·intro h
  rw [←List.all_reverse,←dw_nil] at h
  rw [h]
  rfl
end Go.Ai
namespace Go.Ai
open Go.Proofs Go.Shelf
def ren_laysIdx:Ren:={
 f:=fun x=>match x with
  |219=>222
  |217=>246
  |225=>247
  |224=>248
  |267=>249
  |266=>276
  |314=>277
  |n=>n
 t:=fun x=>match x with
  |9=>9
  |3=>3
  |4=>4
  |5=>5
  |46=>207
  |146=>301
  |51=>66
  |n=>n
 g:=fun x=>match x with
  |1=>3
  |n=>n}
set_option maxRecDepth 100000 in
theorem laysIdx:Lays.n219 Tryz.prog ren_laysIdx where
 mixed:=by kernel_rfl
 f217:=Eq.trans Tryz.func246 (congrArg some (show Tryz.f246=Body.n217 ren_laysIdx by kernel_rfl))
 f219:=Eq.trans Tryz.func222 (congrArg some (show Tryz.f222=Body.n219 ren_laysIdx by kernel_rfl))
 f224:=Eq.trans Tryz.func248 (congrArg some (show Tryz.f248=Body.n224 ren_laysIdx by kernel_rfl))
 f225:=Eq.trans Tryz.func247 (congrArg some (show Tryz.f247=Body.n225 ren_laysIdx by kernel_rfl))
 f266:=Eq.trans Tryz.func276 (congrArg some (show Tryz.f276=Body.n266 ren_laysIdx by kernel_rfl))
 f267:=Eq.trans Tryz.func249 (congrArg some (show Tryz.f249=Body.n267 ren_laysIdx by kernel_rfl))
 f314:=Eq.trans Tryz.func277 (congrArg some (show Tryz.f277=Body.n314 ren_laysIdx by kernel_rfl))
 t3:=Tryz.underlying3
 a3:=Tryz.isAgg3
 z3:=Tryz.sizeOf3
 v3:=Tryz.zeroValue3
 t4:=Tryz.underlying4
 a4:=Tryz.isAgg4
 z4:=Tryz.sizeOf4
 v4:=Tryz.zeroValue4
 t5:=Tryz.underlying5
 a5:=Tryz.isAgg5
 z5:=Tryz.sizeOf5
 v5:=Tryz.zeroValue5
 t9:=Tryz.underlying9
 a9:=Tryz.isAgg9
 z9:=Tryz.sizeOf9
 v9:=Tryz.zeroValue9
 t46:=Tryz.underlying207
 a46:=Tryz.isAgg207
 z46:=Tryz.sizeOf207
 v46:=Tryz.zeroValue207
 t51:=Tryz.underlying66
 a51:=Tryz.isAgg66
 z51:=Tryz.sizeOf66
 v51:=Tryz.zeroValue66
 t146:=Tryz.underlying301
 a146:=Tryz.isAgg301
 z146:=Tryz.sizeOf301
 v146:=Tryz.zeroValue301
 g1:=by kernel_rfl
end Go.Ai
namespace Go.Ai
theorem ibB_none (c:UInt8): ∀(a:List UInt8),(∀b∈a,b≠c)→Lib.indexByte a c= -1
 |[],_=>rfl
 |b::r,h=>by
  have hb:b≠c:=h b (by simp)
  rw [Lib.indexByte,ibB_none c r (fun x hx=>h x (by simp [hx]))]
  simp [hb]
theorem ibB_some (c:UInt8): ∀(a r:List UInt8),(∀b∈a,b≠c)→Lib.indexByte (a++c::r) c=(a.length:Int)
 |[],r,_=>by simp [Lib.indexByte]
 |b::a,r,h=>by
  have hb:b≠c:=h b (by simp)
  have ih:=ibB_some c a r (fun x hx=>h x (by simp [hx]))
  rw [List.cons_append,Lib.indexByte,ih]
  have h1:((a.length:Int)== -1)=false:=by rw [beq_eq_false_iff_ne];omega
  simp [hb,h1]
theorem cutB (c:UInt8): ∀(s:List UInt8),(∀b∈s,b≠c)∨ ∃a r,s=a++c::r∧ ∀b∈a,b≠c
 |[]=> .inl (by simp)
 |b::s=>by
  by_cases hb:b=c
  ·subst hb;exact .inr ⟨[],s,rfl,by simp⟩
  ·rcases cutB c s with h|⟨a,r,rfl,h⟩
   ·left;intro x hx;rcases List.mem_cons.1 hx with rfl|hx
    ·exact hb
    ·exact h x hx
   ·right
    refine ⟨b::a,r,rfl,fun x hx=>?_⟩
    rcases List.mem_cons.1 hx with rfl|hx
    ·exact hb
    ·exact h x hx
theorem tw_all {p:UInt8→Bool}: ∀ {a:List UInt8},(∀b∈a,p b=true)→a.takeWhile p=a
 |[],_=>rfl
 |b::a,h=>by
  rw [List.takeWhile_cons,if_pos (h b (by simp)),tw_all (fun x hx=>h x (by simp [hx]))]
theorem tw_app {p:UInt8→Bool} {c:UInt8} (hc:p c=false): ∀ {a r:List UInt8},(∀b∈a,p b=true)→(a++c::r).takeWhile p=a
 |[],r,_=>by simp [hc]
 |b::a,r,h=>by
  rw [List.cons_append,List.takeWhile_cons,if_pos (h b (by simp)),tw_app hc (fun x hx=>h x (by simp [hx]))]
open Go.Proofs
def wholeF (s:List UInt8):Nat×Bool:=
 if okDec s=true then (if 3<(runesL s 0).length then (101,true) else (min (pnF (runesL s 0) s.length).1 101,(pnF (runesL s 0) s.length).2)) else (0,false)
theorem whole_spec (s:List UInt8) (hl:s.length≤1000000):Sp Tryz.prog gl 176 [.str s] (.tup [.int .u32 (wholeF s).1,.bool (wholeF s).2]):=by
 refine s176 rfl rfl ?_
 have TR:=trimD_spec s hl
 have TN:=trimD_nil s
 have RC:=rcount_spec s hl
 have PN:=pnumber_spec s hl s.length hl
 unfold wholeF
 generalize (runesL s 0).length=rc at *
 generalize pnF (runesL s 0) s.length=q at *
 obtain ⟨n,o⟩:=q
 dsimp only at PN ⊢
 generalize Lib.trimS s [48,49,50,51,52,53,54,55,56,57]=tr at *
 by_cases e:s=[]
 ·subst e
  clear PN TN TR RC
  rw [if_neg (by decide)]
  simp -implicitDefEqProofs [c176]
 have en:(s==[])=false:=beq_eq_false_iff_ne.2 e
 have g0:0<s.length:=List.length_pos_iff.2 e
 have hh:s.headD 0=s[0]:=by
  cases s with
  |nil=>exact absurd rfl e
  |cons a t=>rfl
 have ie:s.isEmpty=false:=by rw [List.isEmpty_eq_false_iff];exact e
 have h48:s[0]=48↔(s[0].toNat:Int)=48:=by
  constructor
  ·intro h;rw [h];rfl
  ·intro h;exact UInt8.toNat_inj.1 (by show s[0].toNat=48;omega)
 have od:okDec s=(s.all isDig&&(s[0]!=48||s.length==1)):=by
  unfold okDec
  rw [ie,hh]
  rfl
 rw [od,←TN]
 clear TN od hh ie
 by_cases c1:(s[0].toNat:Int)=48
 ·have e1:(s[0]!=48)=false:=by rw [bne_eq_false_iff_eq];exact h48.2 c1
  rw [e1,Bool.false_or]
  by_cases c2:1<s.length
  ·have c2':(1:Int)<s.length:=by omega
   rw [show (s.length==1)=false by rw [beq_eq_false_iff_ne];omega,Bool.and_false,if_neg (by decide)]
   clear PN TR RC
   simp -implicitDefEqProofs [c176,e,en,g0,c1,c2,c2']
  ·have c2': ¬(1:Int)<s.length:=by omega
   rw [show (s.length==1)=true by rw [beq_iff_eq];omega,Bool.and_true]
   cases ht:(tr==[])
   ·have ht1:(tr !=[])=true:=by unfold bne;rw [ht];rfl
    have ht2: ¬tr=[]:=fun h=>by rw [h] at ht;cases ht
    rw [if_neg (by decide)]
    clear PN RC
    simp -implicitDefEqProofs [c176,e,en,g0,c1,c2,c2']
    refine onC_mk _ (TR) ?_
    simp -implicitDefEqProofs [ht1,ht2,show tr.isEmpty=false by rw [List.isEmpty_eq_false_iff];exact ht2]
   have ht2:tr=[]:=by simpa using ht
   subst ht2
   rw [if_pos rfl]
   simp -implicitDefEqProofs [c176,e,en,g0,c1,c2,c2']
   refine onC_mk _ (TR) ?_
   simp -implicitDefEqProofs
   refine onC_mk _ (RC) ?_
   by_cases cr:3<rc
   ·have cr':(3:Int)<rc:=by omega
    rw [if_pos cr]
    simp -implicitDefEqProofs [cr,cr']
   have cr': ¬(3:Int)<rc:=by omega
   rw [if_neg cr]
   simp -implicitDefEqProofs [cr,cr']
   refine onC_mk _ (PN) ?_
   have cm:((min n 101:Nat):Int)=(if 101<(n:Int) then 101 else (n:Int)):=by split<;>omega
   simp -implicitDefEqProofs [cm]
 ·have e1:(s[0]!=48)=true:=by rw [bne_iff_ne];exact fun h=>c1 (h48.1 h)
  have c1':((s[0].toNat:Int)==48)=false:=beq_eq_false_iff_ne.2 c1
  rw [e1,Bool.true_or,Bool.and_true]
  cases ht:(tr==[])
  ·have ht1:(tr !=[])=true:=by unfold bne;rw [ht];rfl
   have ht2: ¬tr=[]:=fun h=>by rw [h] at ht;cases ht
   rw [if_neg (by decide)]
   clear PN RC
   simp -implicitDefEqProofs [c176,e,en,g0,c1,c1']
   refine onC_mk _ (TR) ?_
   simp -implicitDefEqProofs [ht1,ht2,show tr.isEmpty=false by rw [List.isEmpty_eq_false_iff];exact ht2]
  have ht2:tr=[]:=by simpa using ht
  subst ht2
  rw [if_pos rfl]
  simp -implicitDefEqProofs [c176,e,en,g0,c1,c1']
  refine onC_mk _ (TR) ?_
  simp -implicitDefEqProofs
  refine onC_mk _ (RC) ?_
  by_cases cr:3<rc
  ·have cr':(3:Int)<rc:=by omega
   rw [if_pos cr]
   simp -implicitDefEqProofs [cr,cr']
  have cr': ¬(3:Int)<rc:=by omega
  rw [if_neg cr]
  simp -implicitDefEqProofs [cr,cr']
  refine onC_mk _ (PN) ?_
  have cm:((min n 101:Nat):Int)=(if 101<(n:Int) then 101 else (n:Int)):=by split<;>omega
  simp -implicitDefEqProofs [cm]
end Go.Ai
namespace Go.Ai
open Go.Proofs Go.Shelf
theorem idxB_spec (s:List UInt8) (c:UInt8):Sp Tryz.prog gl 222 [.str s,.str [c]] (i6 (Lib.indexByte s c)):=
 idx1_shelf laysIdx (by kernel_rfl) (by kernel_rfl) s c
def notB (c:UInt8) (b:UInt8):Bool:=b !=c
theorem ibB_line (c:UInt8) (s:List UInt8):Lib.indexByte s c=if (s.takeWhile (notB c)).length<s.length then ((s.takeWhile (notB c)).length:Int) else -1:=by
 rcases cutB c s with h|⟨a,r,rfl,h⟩
 ·have e:s.takeWhile (notB c)=s:=tw_all fun b hb=>by simp [notB,h b hb]
  rw [ibB_none c s h,e,if_neg (Nat.lt_irrefl _)]
 ·have e:(a++c::r).takeWhile (notB c)=a:=tw_app (by simp [notB]) fun b hb=>by simp [notB,h b hb]
  rw [ibB_some c a r h,e,if_pos (by simp)]
theorem takeB_tw (c:UInt8): ∀(s:List UInt8),s.take (s.takeWhile (notB c)).length=s.takeWhile (notB c)
 |[]=>rfl
 |b::s=>by
  rw [List.takeWhile_cons]
  split
  ·rw [List.length_cons,List.take_succ_cons,takeB_tw c s]
  ·rfl
def cutBV (c:UInt8) (s:List UInt8):AV:=if (s.takeWhile (notB c)).length<s.length then .tup [.str (s.takeWhile (notB c)),.str (s.drop ((s.takeWhile (notB c)).length+1)),.bool true] else .tup [.str s,.str [],.bool false]
theorem cutB0_spec (c:UInt8) (s:List UInt8) (hl:s.length≤1000000):Sp Tryz.prog gl 220 [.str s,.str [c]] (cutBV c s):=by
 refine s220 rfl rfl ?_
 have IX:=idxB_spec s c
 rw [ibB_line] at IX
 have ht:=takeB_tw c s
 unfold cutBV
 by_cases h:(s.takeWhile (notB c)).length<s.length
 ·rw [if_pos h] at IX ⊢
  generalize (s.takeWhile (notB c)).length=n at *
  have t1:IntKind.i64.wrap ((n:Int)+1)=(n+1:Nat):=by rw [wrap_i64]<;>omega
  have q1:(0:Int)≤n:=by omega
  have q2:(n:Int)≤s.length:=by omega
  have q5:n≤s.length:=by omega
  have q3:((n+1:Nat):Int)≤s.length:=by omega
  have q4:(0:Int)≤((n+1:Nat):Int):=by omega
  have e1:((n+1:Nat):Int).toNat=n+1:=by omega
  have e2:List.drop (n+1) (s.take s.length)=s.drop (n+1):=by rw [List.take_length]
  generalize ((n+1:Nat):Int)=m at *
  simp -implicitDefEqProofs [c220]
  refine onC_mk _ IX ?_
  simp -implicitDefEqProofs [q1]
  simp only [t1]
  simp -implicitDefEqProofs [q1,q2,q3,q4,q5,e1,ht]
 ·rw [if_neg h] at IX ⊢
  clear ht
  simp -implicitDefEqProofs [c220]
  refine onC_mk _ IX ?_
  simp -implicitDefEqProofs
theorem cutBy_spec (c:UInt8) (s:List UInt8) (hl:s.length≤1000000):Sp Tryz.prog gl 175 [.str s,.str [c]] (cutBV c s):=by
 refine s175 rfl rfl ?_
 have C:=cutB0_spec c s hl
 unfold cutBV at C ⊢
 by_cases h:(s.takeWhile (notB c)).length<s.length
 ·rw [if_pos h] at C ⊢
  simp -implicitDefEqProofs [c175]
  refine onC_mk _ C ?_
  simp -implicitDefEqProofs
 ·rw [if_neg h] at C ⊢
  simp -implicitDefEqProofs [c175]
  refine onC_mk _ C ?_
  simp -implicitDefEqProofs
open Go.Proofs
theorem byteRows_len (s:List UInt8):(byteRows s).length=s.length:=by simp [byteRows]
theorem byteRows_at (s:List UInt8) (i:Nat) (h:i<s.length) (h2:i<(byteRows s).length):(byteRows s)[i]=[.int .u8 s[i].toNat]:=by simp [byteRows]
theorem puI_spec (s:List UInt8) (h0:s≠[]) (hd:s.all isDig=true) (hl:s.length≤18):Sp Tryz.prog gl 223 [.str s,i6 10,i6 64] (.tup [u (undec s),.nili]):=by
 refine s223 rfl rfl ?_
 have en:(s==[])=false:=beq_eq_false_iff_ne.2 h0
 obtain ⟨RR,hRR⟩: ∃R,R=byteRows s:=⟨_,rfl⟩
 have rl:=byteRows_len s
 have rat:=byteRows_at s
 rw [←hRR] at rl
 simp only [←hRR] at rat
 have b18: ∀i,i≤s.length→undec (s.take i)<1000000000000000000:=fun i hi=>by
  have:=undec_lt (s.take i) (by
   rw [List.all_eq_true] at hd ⊢
   exact fun x hx=>hd x (List.mem_of_mem_take hx))
  refine Nat.lt_of_lt_of_le this ?_
  have:(10:Nat)^(s.take i).length≤10^18:=Nat.pow_le_pow_right (by decide) (by rw [List.length_take];omega)
  simpa using this
 have x1:IntKind.u64.wrap 64=64:=by decide
 have x2:IntKind.u64.wrap (2^min 64 IntKind.u64.bits)=0:=by decide
 have x3:IntKind.u64.wrap (-1)=18446744073709551615:=by decide
 have x4:IntKind.u8.wrap 10=10:=by decide
 have x5:IntKind.u64.wrap 10=10:=by decide
 have u0:undec []=0:=rfl
 simp -implicitDefEqProofs [c223,h0,en,x1,x2,x3,←hRR]
 refine wp_lpk (α:=Nat) (fun i=>⟨[(1,i6 10),(8,.bool false),(10,u 1844674407370955162),(11,u 18446744073709551615),(12,.bool false),(13,u (undec (s.take i))),(99,.sl RR),(100,i6 s.length),(101,i6 i)],[],[]⟩)
  (fun i=>i≤s.length) (fun i=>s.length - i) ?_ 0 (Nat.zero_le _) ?_
 ·rintro K i hK h1
  by_cases g:i<s.length
  ·have g':(i:Int)<s.length:=by omega
   have gR:i<RR.length:=by omega
   have ra:=rat i g gR
   have dq:=(isDig_iff _).1 (List.all_eq_true.1 hd _ (List.getElem_mem g))
   have t1:IntKind.i64.wrap ((i:Int)+1)=(i+1:Nat):=by rw [wrap_i64]<;>omega
   have fin:=fun σ' hσ=>hK (i+1) σ' g (by omega) hσ
   rw [List.take_succ_eq_append_getElem g,undec_snoc] at fin
   have vl:=b18 i h1
   clear hK rat b18 hd
   generalize undec (s.take i)=v at *
   generalize s[i]=c at *
   have q1:((c.toNat:Int)==95)=false:=beq_eq_false_iff_ne.2 (by omega)
   have q2:(48:Int)≤c.toNat:=by omega
   have q3:(c.toNat:Int)≤57:=by omega
   have w1:IntKind.u8.wrap ((c.toNat:Int) - 48)=((c.toNat - 48:Nat):Int):=by rw [wrap_u8]<;>omega
   have dl:c.toNat - 48≤9:=by omega
   generalize c.toNat - 48=d at *
   have q4: ¬(10:Int)≤d:=by omega
   have q5: ¬(1844674407370955162:Int)≤v:=by omega
   have w2:IntKind.u64.wrap ((v:Int)*10)=((10*v:Nat):Int):=by rw [wrap_u64]<;>omega
   have w3:IntKind.u64.wrap (d:Int)=d:=by rw [wrap_u64]<;>omega
   have w4:IntKind.u64.wrap (((10*v:Nat):Int)+d)=((10*v+d:Nat):Int):=by rw [wrap_u64]<;>omega
   have q6: ¬((10*v+d:Nat):Int)<((10*v:Nat):Int):=by omega
   have q7: ¬(18446744073709551615:Int)<((10*v+d:Nat):Int):=by omega
   generalize 10*v+d=z2 at *
   generalize 10*v=z1 at *
   simp -implicitDefEqProofs [g,g',gR,rl,ra,q1,q2,q3,w1,x4,q4,q5,x5,w2,w3,w4,q6,q7]
   refine fin _ ?_
   refine weak_mk ?_ ?_ ?_ ?_ ?_ ?_<;>simp -implicitDefEqProofs [t1]
  ·obtain rfl:i=s.length:=by omega
   have g': ¬(s.length:Int)<s.length:=by omega
   rw [List.take_length]
   clear hK
   simp -implicitDefEqProofs [g']
 ·refine weak_mk ?_ ?_ ?_ ?_ ?_ ?_<;>simp -implicitDefEqProofs [x1,x2,x3,u0,hRR,byteRows_len]
theorem puP_spec (s:List UInt8) (h0:s≠[]) (hd:s.all isDig=true) (hl:s.length≤18):Sp Tryz.prog gl 179 [.str s,i6 10,i6 64] (.tup [u (undec s),.nili]):=by
 refine s179 rfl rfl ?_
 have H:=puI_spec s h0 hd hl
 generalize undec s=n at *
 simp -implicitDefEqProofs [c179]
 refine onH_mk _ _ ((H.h)) ⟨?_,?_,?_,?_,?_,?_,?_⟩ ?_
 iterate 7 (· simp)
 simp -implicitDefEqProofs
end Go.Ai
