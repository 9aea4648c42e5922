/- P8: a part of the proof: the rules, or what functions compute. Conditions: as each theorem says. -/
import Derived.Test.YtggemlhclppciaaGreatDoorP7
import Derived.Test.YtggemlhclppciaaGreatDoorP5
import Derived.Test.YtggemlhclppciaaGreatDoorP6
import Derived.Test.YtggemlhclppciaaGreatDoorP1
import Derived.Lib.Bytealg
import Derived.Test.YtggemlhclppciaaGreatDoorP4
set_option linter.unusedSimpArgs false
set_option linter.unusedVariables false
set_option maxRecDepth 20000
namespace Go.Ai
open Go.Proofs
theorem byteRows_len (s:List UInt8):(byteRows s).length=s.length:=by simp [byteRows]
theorem byteRows_at (s:List UInt8) (i:Nat) (h:i<s.length) (h2:i<(byteRows s).length):(byteRows s)[i]=[.int .u8 s[i].toNat]:=by simp [byteRows]
theorem puI_spec (s:List UInt8) (h0:s≠[]) (hd:s.all isDig=true) (hl:s.length≤18):Sp Tryz.prog gl 215 [.str s,i6 10,i6 64] (.tup [u (undec s),.nili]):=by
 refine s215 rfl rfl ?_
 have en:(s==[])=false:=beq_eq_false_iff_ne.2 h0
 obtain ⟨RR,hRR⟩: ∃R,R=byteRows s:=⟨_,rfl⟩
 have rl:=byteRows_len s
 have rat:=byteRows_at s
 rw [←hRR] at rl
 simp only [←hRR] at rat
 have b18: ∀i,i≤s.length→undec (s.take i)<1000000000000000000:=fun i hi=>by
  have:=undec_lt (s.take i) (by
   rw [List.all_eq_true] at hd ⊢
   exact fun x hx=>hd x (List.mem_of_mem_take hx))
  refine Nat.lt_of_lt_of_le this ?_
  have:(10:Nat)^(s.take i).length≤10^18:=Nat.pow_le_pow_right (by decide) (by rw [List.length_take];omega)
  simpa using this
 have x1:IntKind.u64.wrap 64=64:=by decide
 have x2:IntKind.u64.wrap (2^min 64 IntKind.u64.bits)=0:=by decide
 have x3:IntKind.u64.wrap (-1)=18446744073709551615:=by decide
 have x4:IntKind.u8.wrap 10=10:=by decide
 have x5:IntKind.u64.wrap 10=10:=by decide
 have u0:undec []=0:=rfl
 simp -implicitDefEqProofs [c215,h0,en,x1,x2,x3,←hRR]
 refine wp_lpk (α:=Nat) (fun i=>⟨[(1,i6 10),(8,.bool false),(10,u 1844674407370955162),(11,u 18446744073709551615),(12,.bool false),(13,u (undec (s.take i))),(99,.sl RR),(100,i6 s.length),(101,i6 i)],[],[]⟩)
  (fun i=>i≤s.length) (fun i=>s.length - i) ?_ 0 (Nat.zero_le _) ?_
 ·rintro K i hK h1
  by_cases g:i<s.length
  ·have g':(i:Int)<s.length:=by omega
   have gR:i<RR.length:=by omega
   have ra:=rat i g gR
   have dq:=(isDig_iff _).1 (List.all_eq_true.1 hd _ (List.getElem_mem g))
   have t1:IntKind.i64.wrap ((i:Int)+1)=(i+1:Nat):=by rw [wrap_i64]<;>omega
   have fin:=fun σ' hσ=>hK (i+1) σ' g (by omega) hσ
   rw [List.take_succ_eq_append_getElem g,undec_snoc] at fin
   have vl:=b18 i h1
   clear hK rat b18 hd
   generalize undec (s.take i)=v at *
   generalize s[i]=c at *
   have q1:((c.toNat:Int)==95)=false:=beq_eq_false_iff_ne.2 (by omega)
   have q2:(48:Int)≤c.toNat:=by omega
   have q3:(c.toNat:Int)≤57:=by omega
   have w1:IntKind.u8.wrap ((c.toNat:Int) - 48)=((c.toNat - 48:Nat):Int):=by rw [wrap_u8]<;>omega
   have dl:c.toNat - 48≤9:=by omega
   generalize c.toNat - 48=d at *
   have q4: ¬(10:Int)≤d:=by omega
   have q5: ¬(1844674407370955162:Int)≤v:=by omega
   have w2:IntKind.u64.wrap ((v:Int)*10)=((10*v:Nat):Int):=by rw [wrap_u64]<;>omega
   have w3:IntKind.u64.wrap (d:Int)=d:=by rw [wrap_u64]<;>omega
   have w4:IntKind.u64.wrap (((10*v:Nat):Int)+d)=((10*v+d:Nat):Int):=by rw [wrap_u64]<;>omega
   have q6: ¬((10*v+d:Nat):Int)<((10*v:Nat):Int):=by omega
   have q7: ¬(18446744073709551615:Int)<((10*v+d:Nat):Int):=by omega
   generalize 10*v+d=z2 at *
   generalize 10*v=z1 at *
   simp -implicitDefEqProofs [g,g',gR,rl,ra,q1,q2,q3,w1,x4,q4,q5,x5,w2,w3,w4,q6,q7]
   refine fin _ ?_
   refine weak_mk ?_ ?_ ?_ ?_ ?_ ?_<;>simp -implicitDefEqProofs [t1]
  ·obtain rfl:i=s.length:=by omega
   have g': ¬(s.length:Int)<s.length:=by omega
   rw [List.take_length]
   clear hK
   simp -implicitDefEqProofs [g']
 ·refine weak_mk ?_ ?_ ?_ ?_ ?_ ?_<;>simp -implicitDefEqProofs [x1,x2,x3,u0,hRR,byteRows_len]
theorem puP_spec (s:List UInt8) (h0:s≠[]) (hd:s.all isDig=true) (hl:s.length≤18):Sp Tryz.prog gl 192 [.str s,i6 10,i6 64] (.tup [u (undec s),.nili]):=by
 refine s192 rfl rfl ?_
 have H:=puI_spec s h0 hd hl
 generalize undec s=n at *
 simp -implicitDefEqProofs [c192]
 refine onH_mk _ _ ((H.h)) ⟨?_,?_,?_,?_,?_,?_,?_⟩ ?_
 iterate 7 (· simp)
 simp -implicitDefEqProofs
open Go.Proofs
theorem fac3 (tl:List UInt8) (h0:tl≠[]) (h3: ¬3<tl.length):undec ((tl++[48,48]).take 3)=frU tl 3:=by
 rcases tl with _|⟨a,_|⟨b,_|⟨c,_|⟨d,t⟩⟩⟩⟩
 ·exact absurd rfl h0
 ·simp [undec,frU,dgt]
 ·simp [undec,frU,dgt]
 ·simp [undec,frU,dgt]
 ·simp at h3
theorem fac3_len (tl:List UInt8) (h0:tl≠[]) (h3: ¬3<tl.length):((tl++[48,48]).take 3).length=3:=by
 have:=List.length_pos_iff.2 h0
 rw [List.length_take,List.length_append]
 simp
 omega
theorem fac3_dig (tl:List UInt8) (h:tl.all isDig=true):((tl++[48,48]).take 3).all isDig=true:=by
 rw [List.all_eq_true] at h ⊢
 intro x hx
 rcases List.mem_append.1 (List.mem_of_mem_take hx) with hx|hx
 ·exact h x hx
 ·simp at hx;subst hx;rfl
set_option maxHeartbeats 1000000 in
theorem sfactor_spec (s:List UInt8) (hl:s.length≤1000000) (hp:(s.takeWhile (notB 46)).length<s.length):
  Sp Tryz.prog gl 148 [.str s] (toldV 4 (facF (s.takeWhile (notB 46)) (s.drop ((s.takeWhile (notB 46)).length+1)))).av:=by
 refine s148 rfl rfl ?_
 have CB:=cutBy_spec 46 s hl
 unfold cutBV at CB
 rw [if_pos hp] at CB
 have hl1:(s.takeWhile (notB 46)).length≤1000000:=by omega
 have hl2:(s.drop ((s.takeWhile (notB 46)).length+1)).length≤1000000:=by rw [List.length_drop];omega
 generalize s.drop ((s.takeWhile (notB 46)).length+1)=tl at *
 generalize s.takeWhile (notB 46)=hd at *
 have NU:=snumber_spec hd hl1
 have TR:=trimD_spec tl hl2
 have TN:=trimD_nil tl
 have nlt:=numF_lt hd
 unfold facF
 generalize numF hd=q at *
 generalize Lib.trimS tl [48,49,50,51,52,53,54,55,56,57]=tr at *
 obtain ⟨n,e⟩:=q
 unfold numA at NU
 dsimp only at NU nlt ⊢
 have dgF:dgsF tl=(tl.all isDig&&decide (0<tl.length)):=rfl
 have te:tl=[]→dgsF tl=false:=by rintro rfl;rfl
 have tf:tl.all isDig=false→dgsF tl=false:=fun h=>by rw [dgF,h,Bool.false_and]
 have tg:tl≠[]→tl.all isDig=true→dgsF tl=true:=fun h1 h2=>by
  rw [dgF,h2,Bool.true_and,decide_eq_true (List.length_pos_iff.2 h1)]
 by_cases e0:e=0
 ·subst e0
  rw [if_pos rfl] at NU
  by_cases c1:tl=[]
  ·rw [if_pos (.inl (te c1))]
   subst c1
   unfold toldV TV.av
   simp -implicitDefEqProofs [c148]
   refine onC_mk _ (CB) ?_
   simp -implicitDefEqProofs
   refine onH_mk _ _ ((NU.h)) ⟨?_,?_,?_,?_,?_,?_,?_⟩ ?_
   iterate 7 (· simp)
   simp -implicitDefEqProofs
  have c1':(tl==[])=false:=beq_eq_false_iff_ne.2 c1
  by_cases c2:3<tl.length
  ·have c2':(3:Int)<tl.length:=by omega
   rw [if_pos (.inr c2)]
   unfold toldV TV.av
   simp -implicitDefEqProofs [c148]
   refine onC_mk _ (CB) ?_
   simp -implicitDefEqProofs
   refine onH_mk _ _ ((NU.h)) ⟨?_,?_,?_,?_,?_,?_,?_⟩ ?_
   iterate 7 (· simp)
   simp -implicitDefEqProofs [c1,c1',c2,c2']
  have c2': ¬(3:Int)<tl.length:=by omega
  cases c3:tl.all isDig
  ·rw [c3] at TN
   have k1:(tr !=[])=true:=by unfold bne;rw [TN];rfl
   have k2: ¬tr=[]:=fun h=>by rw [h] at TN;cases TN
   rw [if_pos (.inl (tf c3))]
   unfold toldV TV.av
   simp -implicitDefEqProofs [c148]
   refine onC_mk _ (CB) ?_
   simp -implicitDefEqProofs
   refine onH_mk _ _ ((NU.h)) ⟨?_,?_,?_,?_,?_,?_,?_⟩ ?_
   iterate 7 (· simp)
   simp -implicitDefEqProofs [c1,c1',c2,c2']
   refine onC_mk _ (TR) ?_
   simp -implicitDefEqProofs [k1,k2,show tr.isEmpty=false by rw [List.isEmpty_eq_false_iff];exact k2]
  rw [c3] at TN
  have k2:tr=[]:=by simpa using TN
  subst k2
  rw [if_neg (by rintro (h|h);rw [tg c1 c3] at h;cases h;exact c2 h),if_neg (by decide)]
  have f3:=fac3 tl c1 c2
  have PU:=puP_spec ((tl++[48,48]).take 3) (fun h=>by have:=fac3_len tl c1 c2;rw [h] at this;cases this) (fac3_dig tl c3) (by rw [fac3_len tl c1 c2];omega)
  rw [f3] at PU
  have fl:frU tl 3<1000:=frU_lt tl (dgs_dgt (tg c1 c3)) 3
  have fle:=fac3_len tl c1 c2
  have fle':3≤(tl++[48,48]).length:=by rw [List.length_take] at fle;omega
  have fle2:(3:Int)≤((tl++[48,48]).length:Int):=by omega
  have fle3:3≤tl.length+2:=by simpa using fle'
  have fle4:(3:Int)≤(tl.length:Int)+2:=by omega
  have fle5:1≤tl.length:=by omega
  have fle6:tl.length≤9223372036854775805:=by omega
  clear fle f3 tg tf te dgF
  generalize frU tl 3=t at *
  have TM:=times_spec n 1000 nlt (by omega)
  have XA:=xadd_spec (n*1000) t (by omega) (by omega)
  rw [if_pos (by omega)] at XA
  have ws: ∀z,wide z= .agg [u (z / 18446744073709551616),u (z%18446744073709551616)]:=fun _=>rfl
  have wt:wide t= .agg [u 0,u t]:=by rw [ws,Nat.div_eq_of_lt (by omega),Nat.mod_eq_of_lt (by omega)]
  rw [wt] at XA
  have w3:=ws (n*1000)
  rw [w3] at TM XA
  have h2:n*1000+t<18446744073709551616∨18446744073709551616≤n*1000+t:=by omega
  have hs:n*1000+t<340282366920938463463374607431768211456:=by omega
  rcases h2 with h2|h2
  ·have w2:wide (n*1000+t)= .agg [u 0,u (n*1000+t:Nat)]:=by rw [ws,Nat.div_eq_of_lt h2,Nat.mod_eq_of_lt h2]
   rw [w2] at XA
   rw [if_neg (by omega),Nat.mul_comm 1000 n]
   unfold toldV
   dsimp only
   rw [if_pos rfl]
   unfold TV.av
   clear w2 w3 ws wt h2 hs
   generalize n*1000+t=z at *
   generalize n*1000 / 18446744073709551616=a1 at *
   generalize n*1000%18446744073709551616=a0 at *
   simp -implicitDefEqProofs [c148]
   refine onC_mk _ (CB) ?_
   simp -implicitDefEqProofs
   refine onH_mk _ _ ((NU.h)) ⟨?_,?_,?_,?_,?_,?_,?_⟩ ?_
   iterate 7 (· simp)
   simp -implicitDefEqProofs [c1,c1',c2,c2']
   refine onC_mk _ (TR) ?_
   simp -implicitDefEqProofs [fle',fle2,fle3,fle4,fle5,fle6]
   refine onH_mk _ _ ((PU.h)) ⟨?_,?_,?_,?_,?_,?_,?_⟩ ?_
   iterate 7 (· simp)
   simp -implicitDefEqProofs
   refine onC_mk _ (TM) ?_
   simp -implicitDefEqProofs
   refine onC_mk _ (XA) ?_
   simp -implicitDefEqProofs
  ·obtain ⟨h1,hh1⟩: ∃h1,h1=(n*1000+t) / 18446744073709551616:=⟨_,rfl⟩
   have g1:0<h1:=by omega
   have g1':(0:Int)<h1:=by omega
   have w2:=ws (n*1000+t)
   rw [←hh1] at w2
   rw [w2] at XA
   rw [if_pos (by omega)]
   unfold toldV
   dsimp only
   rw [if_neg (by decide)]
   unfold TV.av
   clear w2 w3 ws wt h2 hs hh1
   generalize (n*1000+t)%18446744073709551616=z at *
   generalize n*1000 / 18446744073709551616=a1 at *
   generalize n*1000%18446744073709551616=a0 at *
   simp -implicitDefEqProofs [c148]
   refine onC_mk _ (CB) ?_
   simp -implicitDefEqProofs
   refine onH_mk _ _ ((NU.h)) ⟨?_,?_,?_,?_,?_,?_,?_⟩ ?_
   iterate 7 (· simp)
   simp -implicitDefEqProofs [c1,c1',c2,c2']
   refine onC_mk _ (TR) ?_
   simp -implicitDefEqProofs [fle',fle2,fle3,fle4,fle5,fle6]
   refine onH_mk _ _ ((PU.h)) ⟨?_,?_,?_,?_,?_,?_,?_⟩ ?_
   iterate 7 (· simp)
   simp -implicitDefEqProofs
   refine onC_mk _ (TM) ?_
   simp -implicitDefEqProofs
   refine onC_mk _ (XA) ?_
   simp -implicitDefEqProofs [g1,g1']
 ·rw [if_neg e0] at NU
  by_cases e5:e=5
  ·subst e5
   have:(if dgsF tl=false∨3<tl.length then ((0:Nat),(5:Int)) else if (5:Int)≠0 then (0,5) else if (18446744073709551615 - frU tl 3) / 1000<n then (0,8) else (1000*n+frU tl 3,0))=(0,5):=by
    split
    ·rfl
    ·rfl
   rw [this]
   unfold toldV TV.av
   simp -implicitDefEqProofs [c148]
   refine onC_mk _ (CB) ?_
   simp -implicitDefEqProofs
   refine onH_mk _ _ ((NU.h)) ⟨?_,?_,?_,?_,?_,?_,?_⟩ ?_
   iterate 7 (· simp)
   simp -implicitDefEqProofs
  have e5':(e==5)=false:=beq_eq_false_iff_ne.2 e5
  by_cases c1:tl=[]
  ·rw [if_pos (.inl (te c1))]
   subst c1
   unfold toldV TV.av
   simp -implicitDefEqProofs [c148]
   refine onC_mk _ (CB) ?_
   simp -implicitDefEqProofs
   refine onH_mk _ _ ((NU.h)) ⟨?_,?_,?_,?_,?_,?_,?_⟩ ?_
   iterate 7 (· simp)
   simp -implicitDefEqProofs [e5,e5']
  have c1':(tl==[])=false:=beq_eq_false_iff_ne.2 c1
  by_cases c2:3<tl.length
  ·have c2':(3:Int)<tl.length:=by omega
   rw [if_pos (.inr c2)]
   unfold toldV TV.av
   simp -implicitDefEqProofs [c148]
   refine onC_mk _ (CB) ?_
   simp -implicitDefEqProofs
   refine onH_mk _ _ ((NU.h)) ⟨?_,?_,?_,?_,?_,?_,?_⟩ ?_
   iterate 7 (· simp)
   simp -implicitDefEqProofs [e5,e5',c1,c1',c2,c2']
  have c2': ¬(3:Int)<tl.length:=by omega
  cases c3:tl.all isDig
  ·rw [c3] at TN
   have k1:(tr !=[])=true:=by unfold bne;rw [TN];rfl
   have k2: ¬tr=[]:=fun h=>by rw [h] at TN;cases TN
   rw [if_pos (.inl (tf c3))]
   unfold toldV TV.av
   simp -implicitDefEqProofs [c148]
   refine onC_mk _ (CB) ?_
   simp -implicitDefEqProofs
   refine onH_mk _ _ ((NU.h)) ⟨?_,?_,?_,?_,?_,?_,?_⟩ ?_
   iterate 7 (· simp)
   simp -implicitDefEqProofs [e5,e5',c1,c1',c2,c2']
   refine onC_mk _ (TR) ?_
   simp -implicitDefEqProofs [k1,k2,show tr.isEmpty=false by rw [List.isEmpty_eq_false_iff];exact k2]
  rw [c3] at TN
  have k2:tr=[]:=by simpa using TN
  subst k2
  rw [if_neg (by rintro (h|h);rw [tg c1 c3] at h;cases h;exact c2 h),if_pos e0]
  unfold toldV
  dsimp only
  rw [if_neg e0]
  unfold TV.av
  simp -implicitDefEqProofs [c148]
  refine onC_mk _ (CB) ?_
  simp -implicitDefEqProofs
  refine onH_mk _ _ ((NU.h)) ⟨?_,?_,?_,?_,?_,?_,?_⟩ ?_
  iterate 7 (· simp)
  simp -implicitDefEqProofs [e5,e5',c1,c1',c2,c2']
  refine onC_mk _ (TR) ?_
  simp -implicitDefEqProofs
open Go.Proofs
def unIx (r:Int):Nat:=if r=119 then 0 else if r=100 then 1 else if r=104 then 2 else if r=109 then 3 else if r=115 then 4 else 5
def laOf (j:Nat):Nat:=if j=0 then 1000000 else if j=1 then 604800 else if j=2 then 86400 else if j=3 then 3600 else if j=4 then 60 else 1
theorem unIx_of (r:Int):(unIx r=5∧unitZ r=0)∨(unIx r<5∧unitZ r=laOf (unIx r+1)):=by
 unfold unIx unitZ
 repeat' split
 all_goals first|exact .inr ⟨by decide,by decide⟩|exact .inl ⟨rfl,rfl⟩
theorem laOf_le {i j:Nat} (hi:i<5) (hj:j≤5):laOf j≤laOf (i+1)↔i<j:=by
 have h: ∀a:Fin 5,∀b:Fin 6,(laOf b.1≤laOf (a.1+1)↔a.1<b.1):=by decide
 exact h ⟨i,hi⟩ ⟨j,by omega⟩
theorem laOf_pos (j:Nat):1≤laOf j∧laOf j≤1000000:=by
 unfold laOf
 repeat' split
 all_goals omega
def spU:List Int→Nat→Nat→Bool→Nat→Bool→Nat×Int
 |[],sum,p,dg,j,far=>if dg=true then (0,5) else if far=true then (0,8) else (sum,0)
 |r::l,sum,p,dg,j,far=>
  if digR r=true then spU l sum (min (p*10+(r - 48).toNat) 253402300800) true j (far||decide (253402300799<p*10+(r - 48).toNat))
  else if unIx r<j∨unIx r=5∨dg=false then (0,5)
  else spU l (min (sum+min (p*unitZ r) 253402300800) 253402300800) 0 false (unIx r+1) ((far||decide (253402300799<p*unitZ r))||decide (253402300799<sum+min (p*unitZ r) 253402300800))
def spanU (s:List UInt8):Nat×Int:=if s=[] then (0,5) else spU (runesL s 0) 0 0 false 0 false
theorem unit_far {r:Int} (h:r<0∨128≤r):unIx r=5∧unitZ r=0∧digR r=false:=by
 unfold unIx unitZ digR
 refine ⟨?_,?_,decide_eq_false (by omega)⟩
 ·rw [if_neg (by omega),if_neg (by omega),if_neg (by omega),if_neg (by omega),if_neg (by omega)]
 ·rw [if_neg (by omega),if_neg (by omega),if_neg (by omega),if_neg (by omega),if_neg (by omega)]
theorem spU_spR (s:List UInt8): ∀k i n la sm fr,s.length - i≤k→ ∀sum p dg j far,j≤5→la=laOf j→p=min n 253402300800→far=(fr||decide (253402300799<n))→(fr=false→sum=sm)→(dg=false→n=0)→sm≤253402300799→
  spU (runesL s i) sum p dg j far=spR (s.drop i) dg n la sm fr:=by
 intro k
 induction k with
 |zero=>
  intro i n la sm fr h sum p dg j far hj hla hp hfar hsum hdg hsm
  rw [runesL_out (by omega),List.drop_eq_nil_of_le (by omega),spU,spR]
  cases dg
  ·rw [if_neg Bool.false_ne_true,if_neg Bool.false_ne_true]
   have:=hdg rfl
   subst this
   rw [show decide (253402300799<0)=false from rfl,Bool.or_false] at hfar
   subst hfar
   cases far
   ·rw [if_neg Bool.false_ne_true,if_neg Bool.false_ne_true,hsum rfl]
   ·rfl
  ·rfl
 |succ k ih=>
  intro i n la sm fr h sum p dg j far hj hla hp hfar hsum hdg hsm
  by_cases g:i<s.length
  rotate_left
  ·rw [runesL_out g,List.drop_eq_nil_of_le (by omega),spU,spR]
   cases dg
   ·rw [if_neg Bool.false_ne_true,if_neg Bool.false_ne_true]
    have:=hdg rfl
    subst this
    rw [show decide (253402300799<0)=false from rfl,Bool.or_false] at hfar
    subst hfar
    cases far
    ·rw [if_neg Bool.false_ne_true,if_neg Bool.false_ne_true,hsum rfl]
    ·rfl
   ·rfl
  rw [runesL_in g,List.drop_eq_getElem_cons g,spU,spR]
  rcases stepR_asc s i g with ⟨a,e⟩|⟨a,e⟩
  rotate_left
  ·have u1:=unit_far e
   have u2:=unit_far (r:=(s[i].toNat:Int)) (by omega)
   have d2:isDig s[i]=false:=by
    cases hd:isDig s[i]
    ·rfl
    ·have:=(isDig_iff _).1 hd
     omega
   rw [u1.2.2,u1.1,u2.2.1,d2,if_neg Bool.false_ne_true,if_neg Bool.false_ne_true,if_pos (Or.inr (Or.inl rfl)),if_pos (Or.inr (Or.inl rfl))]
  ·rw [e]
   dsimp only
   have hd:digR (s[i].toNat:Int)=isDig s[i]:=by
    unfold digR isDig
    rw [Bool.eq_iff_iff,decide_eq_true_iff,decide_eq_true_iff]
    omega
   rw [hd]
   cases hD:isDig s[i]
   ·rw [if_neg Bool.false_ne_true,if_neg Bool.false_ne_true]
    have U:=unIx_of (s[i].toNat:Int)
    have c:(unIx (s[i].toNat:Int)<j∨unIx (s[i].toNat:Int)=5∨dg=false)↔(dg=false∨unitZ (s[i].toNat:Int)=0∨la≤unitZ (s[i].toNat:Int)):=by
     rw [hla]
     rcases U with ⟨h1,h2⟩|⟨h1,h2⟩
     ·rw [h1,h2]
      simp
     ·rw [h2,laOf_le h1 hj]
      have:=laOf_pos (unIx (s[i].toNat:Int)+1)
      constructor
      ·rintro (h|h|h)
       ·exact .inr (.inr h)
       ·omega
       ·exact .inl h
      ·rintro (h|h|h)
       ·exact .inr (.inr h)
       ·omega
       ·exact .inl h
    by_cases cc:(dg=false∨unitZ (s[i].toNat:Int)=0∨la≤unitZ (s[i].toNat:Int))
    ·rw [if_pos cc,if_pos (c.2 cc)]
    rw [if_neg cc,if_neg (fun h=>cc (c.1 h))]
    have u0:1≤unitZ (s[i].toNat:Int):=by omega
    have U:unIx (s[i].toNat:Int)<5∧unitZ (s[i].toNat:Int)=laOf (unIx (s[i].toNat:Int)+1):=by
     rcases U with ⟨h1,h2⟩|h
     ·omega
     ·exact h
    clear c cc
    generalize unIx (s[i].toNat:Int)=ix at *
    have un':=U.2
    generalize hun:unitZ (s[i].toNat:Int)=un at *
    have dv:253402300799 / un<n↔253402300799<n*un:=by rw [Nat.div_lt_iff_lt_mul (by omega)]
    have big:253402300800≤n→253402300799<n*un:=fun h=>by
     have:=Nat.le_mul_of_pos_right n (show 0<un by omega)
     omega
    have big':253402300799<253402300800*un:=by
     have:=Nat.le_mul_of_pos_right 253402300800 (show 0<un by omega)
     omega
    by_cases v1:253402300799 / un<n
    ·rw [if_pos v1]
     have v2:=dv.1 v1
     refine ih (i+1) _ _ _ _ (by omega) _ _ _ _ _ (by omega) un' rfl ?_ (fun h=>by cases h) (fun _=>rfl) hsm
     rw [Bool.true_or]
     have:253402300799<p*un:=by
      subst hp
      by_cases c:n≤253402300800
      ·rw [Nat.min_eq_left c];exact v2
      ·rw [Nat.min_eq_right (by omega)];exact big'
     rw [decide_eq_true this,Bool.or_true,Bool.true_or]
    rw [if_neg v1]
    have v2: ¬253402300799<n*un:=fun h=>v1 (dv.2 h)
    have n1:n<253402300800:=by
     rcases Nat.lt_or_ge n 253402300800 with h|h
     ·exact h
     ·exact absurd (big h) v2
    have pn:p=n:=by omega
    subst pn
    clear hp big big' dv v1
    rw [decide_eq_false (show ¬253402300799<p by omega),Bool.or_false] at hfar
    subst hfar
    generalize p*un=a at *
    rw [decide_eq_false v2,Bool.or_false,Nat.min_eq_left (show a≤253402300800 by omega)]
    by_cases v3:253402300799<sm+a
    ·rw [if_pos v3]
     refine ih (i+1) _ _ _ _ (by omega) _ _ _ _ _ (by omega) un' rfl ?_ (fun h=>by cases h) (fun _=>rfl) (by omega)
     rw [Bool.true_or]
     cases far
     ·rw [hsum rfl,decide_eq_true v3]
      rfl
     ·rfl
    ·rw [if_neg v3]
     refine ih (i+1) _ _ _ _ (by omega) _ _ _ _ _ (by omega) un' rfl ?_ ?_ (fun _=>rfl) (by omega)
     ·rw [show decide (253402300799<0)=false from rfl,Bool.or_false]
      cases far
      ·rw [hsum rfl,decide_eq_false v3]
       rfl
      ·rfl
     ·intro h
      subst h
      rw [hsum rfl]
      omega
   ·rw [if_pos rfl,if_pos rfl,show ((s[i].toNat:Int) - 48).toNat=s[i].toNat - 48 by omega]
    generalize s[i].toNat - 48=d at *
    refine ih (i+1) _ _ _ _ (by omega) _ _ _ _ _ hj hla ?_ ?_ hsum (fun h=>by cases h) hsm
    ·subst hp
     by_cases c:n≤253402300799
     ·rw [if_pos c]
      omega
     ·rw [if_neg c]
      omega
    ·subst hp hfar
     by_cases c:n≤253402300799
     ·rw [if_pos c,decide_eq_false (show ¬253402300799<n by omega),Bool.or_false]
      congr 1
      rw [Nat.min_eq_left (by omega),Nat.mul_comm]
     ·rw [if_neg c,decide_eq_true (show 253402300799<n by omega),Bool.or_true,Bool.true_or]
theorem spanU_eq (s:List UInt8):spanU s=spanR s:=by
 unfold spanU spanR
 by_cases e:s=[]
 ·rw [if_pos e,if_pos e]
 ·rw [if_neg e,if_neg e,←List.drop_zero (l:=s)]
  conv=>lhs;rw [List.drop_zero]
  exact spU_spR s s.length 0 0 1000000 0 false (by omega) 0 0 false 0 false (by omega) rfl rfl rfl (fun _=>rfl) (fun _=>rfl) (by omega)
open Go.Proofs
theorem irxA_spec (s:List UInt8) (c:UInt8):Sp Tryz.prog gl 243 [.str s,.int .u8 c.toNat] (i6 (Lib.indexByte s c)):=by
 refine ext_spec (fn:=Tryz.f243) (e:=Extern.BytealgIndexByte.indexByte) Tryz.func243 (by kernel_rfl) (by kernel_rfl) (by kernel_rfl) (by kernel_rfl) ?_
 intro S gb w vs h
 simp only [PRlist,PR] at h
 obtain ⟨_,_,rfl,rfl,_,_,rfl,rfl,rfl⟩:=h
 refine ⟨_,Lib.run_indexByteString _ _ w,?_⟩
 simp [PR]
theorem irxB_spec (s:List UInt8) (c:UInt8):Sp Tryz.prog gl 228 [.str s,.int .u8 c.toNat] (i6 (Lib.indexByte s c)):=by
 refine s228 rfl rfl ?_
 have H:=irxA_spec s c
 generalize Lib.indexByte s c=k at *
 simp -implicitDefEqProofs [c228]
 refine onC_mk _ (H) ?_
 simp -implicitDefEqProofs
theorem irxC_spec (s:List UInt8) (c:UInt8):Sp Tryz.prog gl 238 [.str s,.int .u8 c.toNat] (i6 (Lib.indexByte s c)):=by
 refine s238 rfl rfl ?_
 have H:=irxB_spec s c
 generalize Lib.indexByte s c=k at *
 simp -implicitDefEqProofs [c238]
 refine onC_mk _ (H) ?_
 simp -implicitDefEqProofs
def okV (r:Int):Prop:=(0≤r∧r<55296)∨(57343<r∧r≤1114111)
theorem irxV_spec (r:Int) (h:okV r):Sp Tryz.prog gl 239 [i3 r] (.bool true):=by
 refine s239 rfl rfl ?_
 by_cases c:r<55296
 ·have c0:0≤r:=by rcases h with h|h<;>omega
  simp -implicitDefEqProofs [c239,c,c0]
 ·have c0:0≤r:=by rcases h with h|h<;>omega
  have c1:57343<r:=by rcases h with h|h<;>omega
  have c2:r≤1114111:=by rcases h with h|h<;>omega
  simp -implicitDefEqProofs [c239,c,c0,c1,c2]
theorem enc_last (r:Int) (h:okV r) (hr:128≤r): ∃a c,(Utf8.encode r).data.toList=a++[c]∧1≤a.length∧a.length≤3∧128≤c.toNat:=by
 have hv:Utf8.valid r=true:=by
  unfold Utf8.valid
  simp
  rcases h with h|h<;>omega
 have top: ∀n:Nat,128≤(UInt8.ofNat (128+n%64)).toNat:=fun n=>by
  rw [UInt8.toNat_ofNat']
  omega
 unfold Utf8.encode
 simp only [hv,if_true]
 rw [if_neg (by omega)]
 split
 ·exact ⟨[_],_,rfl,by simp,by simp,top _⟩
 ·split
  ·exact ⟨[_,_],_,rfl,by simp,by simp,top _⟩
  ·exact ⟨[_,_,_],_,rfl,by simp,by simp,top _⟩
def irxF (s:List UInt8) (r:Int):Int:=if r<128 then Lib.indexByte s (UInt8.ofNat r.toNat) else -1
theorem irx_spec (s:List UInt8) (hl:s.length≤1000) (hs: ∀b∈s,b.toNat<128) (r:Int) (h:okV r):Sp Tryz.prog gl 219 [.str s,i3 r] (i6 (irxF s r)):=by
 refine s219 rfl rfl ?_
 have h0:0≤r:=by rcases h with h|h<;>omega
 unfold irxF
 by_cases c1:r<128
 ·rw [if_pos c1]
  have w:IntKind.u8.wrap r=((UInt8.ofNat r.toNat).toNat:Int):=by
   rw [UInt8.toNat_ofNat',wrap_u8]<;>omega
  have H:=irxC_spec s (UInt8.ofNat r.toNat)
  generalize Lib.indexByte s (UInt8.ofNat r.toNat)=k at *
  generalize ((UInt8.ofNat r.toNat).toNat:Int)=z at *
  simp -implicitDefEqProofs [c219,c1,h0,w]
  refine onC_mk _ (H) ?_
  simp -implicitDefEqProofs
 rw [if_neg c1]
 by_cases c2:r=65533
 ·subst c2
  simp -implicitDefEqProofs [c219]
  refine wp_lpk (α:=Nat) (fun i=>⟨[(0,.str s),(175,.itp 175)],[(.it 175,[.itr s i])],[]⟩)
   (fun i=>i≤s.length) (fun i=>s.length - i) ?_ 0 ?_ ?_
  ·rintro K i hK h1
   by_cases g:i<s.length
   ·have sr:=step_rune s i g
    have sa:=hs _ (List.getElem_mem g)
    rcases stepR_asc s i g with ⟨a,e⟩|⟨a,e⟩
    rotate_left
    ·omega
    rw [e,if_neg (by omega)] at sr
    have n1:((s[i].toNat:Int)==65533)=false:=beq_eq_false_iff_ne.2 (by omega)
    have n2: ¬(s[i].toNat:Int)=65533:=by omega
    have fin:=fun σ' hσ=>hK (i+1) σ' (by omega) (by omega) hσ
    clear hK e
    generalize (s[i].toNat:Int)=z at *
    simp -implicitDefEqProofs [g,sr,n1,n2]
    refine fin _ ?_
    refine weak_mk ?_ ?_ ?_ ?_ ?_ ?_<;>simp -implicitDefEqProofs
   ·clear hK
    simp -implicitDefEqProofs [g]
  ·exact Nat.zero_le _
  ·refine weak_mk ?_ ?_ ?_ ?_ ?_ ?_<;>simp -implicitDefEqProofs
 have c2':(r==65533)=false:=beq_eq_false_iff_ne.2 c2
 have V:=irxV_spec r h
 obtain ⟨a,c,he,a1,a3,hc⟩:=enc_last r h (by omega)
 have hcn: ∀b∈s,b≠c:=fun b hb e=>by
  have:=hs b hb
  rw [e] at this
  omega
 have hlen:(a++[c]).length=a.length+1:=by simp
 have hat: ∀h2,(a++[c])[a.length]'h2=c:=fun h2=>by simp
 have hlt:a.length<(a++[c]).length:=by omega
 generalize a++[c]=bs at *
 have w1:IntKind.i64.wrap ((bs.length:Int) - 1)=(a.length:Nat):=by rw [wrap_i64]<;>omega
 generalize a.length=n at *
 simp -implicitDefEqProofs [c219,c1,c2,c2',h0]
 refine onC_mk _ (V) ?_
 simp -implicitDefEqProofs [he,w1]
 refine wp_lpk (α:=Nat) (fun i=>⟨[(0,.str s),(1,i3 r),(7,.str bs),(8,i6 n),(9,i6 n),(10,i6 0)],[],[]⟩)
   (fun i=>True) (fun i=>1) ?_ 0 ?_ ?_
 ·rintro K i hK h1
  clear hK h1
  by_cases g:n<s.length
  ·have g':(n:Int)<s.length:=by omega
   have hsn:((s[n].toNat:Int)!=(c.toNat:Int))=true:=by
    rw [bne_iff_ne]
    intro e
    exact hcn _ (List.getElem_mem g) (UInt8.toNat_inj.1 (by omega))
   have t1:IntKind.i64.wrap ((n:Int)+1)=(n+1:Nat):=by rw [wrap_i64]<;>omega
   have H:=irxC_spec (s.drop (n+1)) c
   rw [ibB_none c (s.drop (n+1)) (fun b hb=>hcn b (List.mem_of_mem_drop hb))] at H
   have q1:n+1≤s.length:=by omega
   have q2:((n+1:Nat):Int)≤s.length:=by omega
   have q3:(0:Int)≤((n+1:Nat):Int):=by omega
   have q4:((n+1:Nat):Int).toNat=n+1:=by omega
   generalize ((n+1:Nat):Int)=m at *
   simp -implicitDefEqProofs [g,g',hsn,hlt,hat,t1,q1,q2,q3,q4]
   refine onC_mk _ (H) ?_
   simp -implicitDefEqProofs
  ·have g': ¬(n:Int)<s.length:=by omega
   simp -implicitDefEqProofs [g,g']
 ·exact True.intro
 ·refine weak_mk ?_ ?_ ?_ ?_ ?_ ?_<;>simp -implicitDefEqProofs
open Go.Proofs
def wdL:List UInt8:=[119,100,104,109,115]
theorem wdL_lt (j:Nat): ∀b∈wdL.drop j,b.toNat<128:=fun b hb=>by
 have: ∀b∈wdL,b.toNat<128:=by decide
 exact this b (List.mem_of_mem_drop hb)
theorem unIx_five {r:Int} (h:unIx r=5):r≠119∧r≠100∧r≠104∧r≠109∧r≠115:=by
 unfold unIx at h
 refine ⟨?_,?_,?_,?_,?_⟩<;>rintro rfl<;>revert h<;>decide
theorem irx_unit (j:Nat) (hj:j≤5) (r:Int) (h0:0≤r):irxF (wdL.drop j) r=if j≤unIx r∧unIx r<5 then ((unIx r - j:Nat):Int) else -1:=by
 by_cases h:unIx r=5
 ·have n:=unIx_five h
  rw [h,if_neg (by omega)]
  unfold irxF
  split
  ·rename_i c
   refine ibB_none _ _ fun b hb=>?_
   have hb:=List.mem_of_mem_drop hb
   have t:(UInt8.ofNat r.toNat).toNat=r.toNat:=by rw [UInt8.toNat_ofNat'];omega
   intro e
   rw [←e] at t
   simp [wdL] at hb
   rcases hb with rfl|rfl|rfl|rfl|rfl<;>(simp at t;omega)
  ·rfl
 ·have hr:r=119∨r=100∨r=104∨r=109∨r=115:=by
   unfold unIx at h
   by_cases h1:r=119
   ·exact .inl h1
   by_cases h2:r=100
   ·exact .inr (.inl h2)
   by_cases h3:r=104
   ·exact .inr (.inr (.inl h3))
   by_cases h4:r=109
   ·exact .inr (.inr (.inr (.inl h4)))
   by_cases h5:r=115
   ·exact .inr (.inr (.inr (.inr h5)))
   rw [if_neg h1,if_neg h2,if_neg h3,if_neg h4,if_neg h5] at h
   exact absurd rfl h
  have hj:j=0∨j=1∨j=2∨j=3∨j=4∨j=5:=by omega
  rcases hr with rfl|rfl|rfl|rfl|rfl<;>rcases hj with rfl|rfl|rfl|rfl|rfl|rfl<;>decide
def spB (sum p:Nat) (dg:Bool) (left:List UInt8) (far:Bool):List AV:=[i6 sum,i6 p,.bool dg,.str left,.bool far]
theorem sheld_spec (n sum p:Nat) (dg:Bool) (left:List UInt8) (far:Bool) (d:Nat) (b:Id) (hb:b.isIt=false) (hbd:b.isNw d=false):
  SpH Tryz.prog gl 218 d ⟨[.ptr b 0,i6 n],[(b,spB sum p dg left far)],[]⟩ ⟨i6 (min n 253402300800:Nat),[(b,spB sum p dg left (far||decide (253402300799<n)))],[]⟩:=by
 refine h218 rfl ?_
 have hib:=inn_notNw hbd
 unfold spB
 simp only [inSt,mpB,mpL,AV.mp,mpP,Pl.mp]
 by_cases c:253402300799<n
 ·have c':(253402300799:Int)<n:=by omega
  have e:((min n 253402300800:Nat):Int)=253402300800:=by omega
  rw [decide_eq_true c,Bool.or_true,e]
  simp -implicitDefEqProofs [c218,c,c']
  refine postH_r ⟨?_,?_,?_,?_,?_,?_⟩<;>simp -implicitDefEqProofs [hib,hb]
 ·have c': ¬(253402300799:Int)<n:=by omega
  have e:((min n 253402300800:Nat):Int)=n:=by omega
  rw [decide_eq_false c,Bool.or_false,e]
  simp -implicitDefEqProofs [c218,c,c']
  refine postH_r ⟨?_,?_,?_,?_,?_,?_⟩<;>simp -implicitDefEqProofs [hib,hb]
structure Sx where
 sum:Nat
 p:Nat
 dg:Bool
 j:Nat
 far:Bool
def Sx.box (x:Sx):List AV:=spB x.sum x.p x.dg (wdL.drop x.j) x.far
def Sx.take (x:Sx) (r:Int):Sx×Bool:=
 if digR r=true then ({x with p:=min (x.p*10+(r - 48).toNat) 253402300800,dg:=true,far:=x.far||decide (253402300799<x.p*10+(r - 48).toNat)},true)
 else if unIx r<x.j∨unIx r=5∨x.dg=false then (x,false)
 else (⟨min (x.sum+min (x.p*unitZ r) 253402300800) 253402300800,0,false,unIx r+1,(x.far||decide (253402300799<x.p*unitZ r))||decide (253402300799<x.sum+min (x.p*unitZ r) 253402300800)⟩,true)
structure SxOk (x:Sx):Prop where
 s:x.sum≤253402300800
 p:x.p≤253402300800
 j:x.j≤5
theorem SxOk.step {x:Sx} (h:SxOk x) (r:Int):SxOk (x.take r).1:=by
 have h1:=h.s
 have h2:=h.p
 have h3:=h.j
 have u5:unIx r≤5:=by
  have:=unIx_of r
  omega
 unfold Sx.take
 split
 ·exact ⟨h1,Nat.min_le_right _ _,h3⟩
 ·split
  ·exact h
  ·rename_i c
   exact ⟨Nat.min_le_right _ _,Nat.zero_le _,by simp only;omega⟩
theorem stakeU_spec (x:Sx) (h:SxOk x) (r:Int) (hr:okV r) (d:Nat) (b:Id) (hb:b.isIt=false) (hbd:b.isNw d=false):
  SpH Tryz.prog gl 195 d ⟨[.ptr b 0,i3 r],[(b,x.box)],[]⟩ ⟨.bool (x.take r).2,[(b,(x.take r).1.box)],[]⟩:=by
 refine h195 rfl ?_
 have hib:=inn_notNw hbd
 have hs:=h.s
 have hp:=h.p
 have hj:=h.j
 obtain ⟨sum,p,dg,j,far⟩:=x
 simp only at hs hp hj
 have h0:0≤r:=by rcases hr with h|h<;>omega
 unfold Sx.take Sx.box
 dsimp only
 have R:=irx_spec (wdL.drop j) (by rw [List.length_drop];simp [wdL];omega) (wdL_lt j) r hr
 have HE:=fun (n sum p:Nat) (dg:Bool) (left:List UInt8) (far:Bool) (e:Nat)=>sheld_spec n sum p dg left far e (.up b) hb
 unfold spB at *
 cases hd:digR r
 ·rw [if_neg (by decide)]
  have d0: ¬(48≤r∧r≤57):=fun q=>by unfold digR at hd;rw [decide_eq_true q] at hd;cases hd
  have IU:=irx_unit j hj r h0
  have U:=sunit_spec r
  have ul:=unitZ_le r
  have wl:wdL.length=5:=rfl
  rw [IU] at R
  by_cases c1:unIx r<j∨unIx r=5∨dg=false
  ·rw [if_pos c1]
   by_cases c2:j≤unIx r∧unIx r<5
   ·have hdg:dg=false:=by
     rcases c1 with c|c|c
     ·omega
     ·omega
     ·exact c
    subst hdg
    rw [if_pos c2] at R
    generalize unIx r - j=q at *
    generalize wdL.drop j=left at *
    have q0: ¬(q:Int)<0:=by omega
    clear IU c1 c2 HE
    simp only [inSt,mpB,mpL,AV.mp,mpP,Pl.mp]
    by_cases d1:48≤r
    ·have d2: ¬r≤57:=by omega
     simp -implicitDefEqProofs [c195,d1,d2]
     refine onC_mk _ (R) ?_
     simp -implicitDefEqProofs [q0]
     refine postH_r ⟨?_,?_,?_,?_,?_,?_⟩<;>simp -implicitDefEqProofs [hib,hb]
    ·simp [c195,d1]
     refine onC_mk _ (R) ?_
     simp -implicitDefEqProofs [q0]
     refine postH_r ⟨?_,?_,?_,?_,?_,?_⟩<;>simp -implicitDefEqProofs [hib,hb]
   ·rw [if_neg c2] at R
    generalize wdL.drop j=left at *
    clear IU c1 c2 HE
    simp only [inSt,mpB,mpL,AV.mp,mpP,Pl.mp]
    by_cases d1:48≤r
    ·have d2: ¬r≤57:=by omega
     simp -implicitDefEqProofs [c195,d1,d2]
     refine onC_mk _ (R) ?_
     simp -implicitDefEqProofs
     refine postH_r ⟨?_,?_,?_,?_,?_,?_⟩<;>simp -implicitDefEqProofs [hib,hb]
    ·simp [c195,d1]
     refine onC_mk _ (R) ?_
     simp -implicitDefEqProofs
     refine postH_r ⟨?_,?_,?_,?_,?_,?_⟩<;>simp -implicitDefEqProofs [hib,hb]
  rw [if_neg c1]
  have c2:j≤unIx r∧unIx r<5:=by
   have:=unIx_of r
   omega
  have hdg:dg=true:=by
   cases dg
   ·exact absurd (.inr (.inr rfl)) c1
   ·rfl
  subst hdg
  rw [if_pos c2] at R
  have hdr:(wdL.drop j).drop (unIx r - j+1)=wdL.drop (unIx r+1):=by
   rw [List.drop_drop]
   congr 1
   omega
  have hll:(wdL.drop j).length=5 - j:=by rw [List.length_drop,wl]
  obtain ⟨q,hq⟩: ∃q,q=unIx r - j:=⟨_,rfl⟩
  have qb:q+1≤(wdL.drop j).length:=by omega
  rw [←hq] at R hdr
  have a0:p*unitZ r≤253402300800*604800:=Nat.mul_le_mul hp ul
  have w1:IntKind.i64.wrap ((p:Int)*(unitZ r:Int))=((p*unitZ r:Nat):Int):=by
   rw [←Int.natCast_mul,wrap_i64]<;>omega
  have HA:=HE (p*unitZ r) sum p true (wdL.drop j) far
  have w2:IntKind.i64.wrap ((sum:Int)+((min (p*unitZ r) 253402300800:Nat):Int))=((sum+min (p*unitZ r) 253402300800:Nat):Int):=by
   rw [wrap_i64]<;>omega
  have HB:=HE (sum+min (p*unitZ r) 253402300800) sum p true (wdL.drop j) (far||decide (253402300799<p*unitZ r))
  generalize decide (253402300799<sum+min (p*unitZ r) 253402300800)=f2 at *
  generalize decide (253402300799<p*unitZ r)=f1 at *
  generalize min (sum+min (p*unitZ r) 253402300800) 253402300800=s2 at *
  generalize sum+min (p*unitZ r) 253402300800=s1 at *
  generalize min (p*unitZ r) 253402300800=a1 at *
  generalize p*unitZ r=a at *
  generalize unitZ r=un at *
  generalize wdL.drop (unIx r+1)=left2 at *
  generalize wdL.drop j=left at *
  have q0: ¬(q:Int)<0:=by omega
  have q1:(0:Int)≤((q+1:Nat):Int):=by omega
  have q2:((q+1:Nat):Int)≤left.length:=by omega
  have q3:((q+1:Nat):Int).toNat=q+1:=by omega
  have t1:IntKind.i64.wrap ((q:Int)+1)=((q+1:Nat):Int):=by rw [wrap_i64]<;>omega
  generalize ((q+1:Nat):Int)=m at *
  clear IU c1 c2 hq a0
  simp only [inSt,mpB,mpL,AV.mp,mpP,Pl.mp]
  by_cases d1:48≤r
  ·have d2: ¬r≤57:=by omega
   simp -implicitDefEqProofs [c195,d1,d2]
   refine onC_mk _ (R) ?_
   simp -implicitDefEqProofs [q0]
   refine onC_mk _ (U) ?_
   simp -implicitDefEqProofs [w1]
   refine onQ_mk _ _ (HA _ rfl) ⟨?_,?_,?_,?_,?_,?_,?_⟩ ⟨?_,?_,?_⟩ ?_
   iterate 10 (· simp [Pl.isB,Pl.isF,hb])
   simp -implicitDefEqProofs [w2]
   refine onQ_mk _ _ (HB _ rfl) ⟨?_,?_,?_,?_,?_,?_,?_⟩ ⟨?_,?_,?_⟩ ?_
   iterate 10 (· simp [Pl.isB,Pl.isF,hb])
   simp -implicitDefEqProofs [t1,q1,q2,q3,hdr]
   refine postH_r ⟨?_,?_,?_,?_,?_,?_⟩<;>simp -implicitDefEqProofs [hib,hb]
  ·simp [c195,d1]
   refine onC_mk _ (R) ?_
   simp -implicitDefEqProofs [q0]
   refine onC_mk _ (U) ?_
   simp -implicitDefEqProofs [w1]
   refine onQ_mk _ _ (HA _ rfl) ⟨?_,?_,?_,?_,?_,?_,?_⟩ ⟨?_,?_,?_⟩ ?_
   iterate 10 (· simp [Pl.isB,Pl.isF,hb])
   simp -implicitDefEqProofs [w2]
   refine onQ_mk _ _ (HB _ rfl) ⟨?_,?_,?_,?_,?_,?_,?_⟩ ⟨?_,?_,?_⟩ ?_
   iterate 10 (· simp [Pl.isB,Pl.isF,hb])
   simp -implicitDefEqProofs [t1,q1,q2,q3,hdr]
   refine postH_r ⟨?_,?_,?_,?_,?_,?_⟩<;>simp -implicitDefEqProofs [hib,hb]
 ·rw [if_pos rfl]
  have d0:48≤r∧r≤57:=by unfold digR at hd;exact of_decide_eq_true hd
  clear R
  obtain ⟨k,hk⟩: ∃k:Nat,r=k+48:=⟨(r - 48).toNat,by omega⟩
  have w1:IntKind.i64.wrap ((p:Int)*10)=(p*10:Nat):=by rw [wrap_i64]<;>omega
  have w2:IntKind.i32.wrap (r - 48)=k:=by rw [wrap_i32']<;>omega
  have w3:IntKind.i64.wrap (k:Int)=k:=by rw [wrap_i64]<;>omega
  have w4:IntKind.i64.wrap (((p*10:Nat):Int)+k)=(p*10+k:Nat):=by rw [wrap_i64]<;>omega
  rw [show (r - 48).toNat=k by omega]
  have HE:=HE (p*10+k) sum p dg (wdL.drop j) far
  clear hk
  generalize p*10+k=z at *
  generalize wdL.drop j=left at *
  generalize ((p*10:Nat):Int)=y at *
  simp only [inSt,mpB,mpL,AV.mp,mpP,Pl.mp]
  simp -implicitDefEqProofs [c195,d0.1,d0.2,w1,w2,w3,w4]
  refine onH_mk _ _ (HE _ rfl) ⟨?_,?_,?_,?_,?_,?_,?_⟩ ?_
  iterate 7 (· simp [hb])
  simp -implicitDefEqProofs
  refine postH_r ⟨?_,?_,?_,?_,?_,?_⟩<;>simp -implicitDefEqProofs [hib,hb]
open Go.Proofs
def spRun:List Int→Sx→Option Sx
 |[],x=>some x
 |r::l,x=>if (x.take r).2=true then spRun l (x.take r).1 else none
def spFin:Option Sx→Nat×Int
 |none=>(0,5)
 |some x=>if x.dg=true then (0,5) else if x.far=true then (0,8) else (x.sum,0)
theorem spRun_spU: ∀(l:List Int) (x:Sx),spFin (spRun l x)=spU l x.sum x.p x.dg x.j x.far
 |[],x=>rfl
 |r::l,x=>by
  rw [spRun,spU]
  unfold Sx.take
  by_cases c:digR r=true
  ·rw [if_pos c,if_pos c]
   dsimp only
   rw [if_pos rfl,spRun_spU l]
  ·rw [if_neg c,if_neg c]
   by_cases c2:unIx r<x.j∨unIx r=5∨x.dg=false
   ·rw [if_pos c2,if_pos c2]
    rfl
   ·rw [if_neg c2,if_neg c2]
    dsimp only
    rw [if_pos rfl,spRun_spU l]
theorem take_r65 (x:Sx) (r:Int):x.take (r65 r)=x.take r:=by
 unfold r65
 split
 ·rename_i c
  subst c
  unfold Sx.take
  rw [show digR 65533=false from rfl,show digR (-1)=false from rfl,if_neg Bool.false_ne_true,if_neg Bool.false_ne_true,show unIx 65533=5 from rfl,show unIx (-1)=5 from rfl,if_pos (Or.inr (Or.inl rfl)),if_pos (Or.inr (Or.inl rfl))]
 ·rfl
theorem okV_step (s:List UInt8) (i:Nat):okV (r65 (stepR s i).1):=by
 have h:=stepR_okR s i
 unfold r65 okV
 rcases h with h|⟨h1,h2,h3⟩
 ·rw [if_pos h]
  omega
 ·rw [if_neg (by omega)]
  omega
theorem sspan_spec (s:List UInt8) (hl:s.length≤1000000):Sp Tryz.prog gl 149 [.str s] (.tup [i6 (spanU s).1,i6 (spanU s).2]):=by
 refine s149 rfl rfl ?_
 unfold spanU
 by_cases e:s=[]
 ·subst e
  rw [if_pos rfl]
  simp -implicitDefEqProofs [c149]
  refine wp_lpk (α:=Nat) (fun i=>⟨[(0,.str []),(4,.ptr (.n 8) 0),(10,.itp 10)],[(.n 8,[i6 0,i6 0,.bool false,.str [119,100,104,109,115],.bool false]),(.it 10,[.itr [] 0])],[]⟩) (fun i=>True) (fun i=>1) ?_ 0 ?_ ?_
  ·rintro K i hK _
   clear hK
   simp -implicitDefEqProofs
  ·exact True.intro
  ·refine weak_mk ?_ ?_ ?_ ?_ ?_ ?_<;>simp -implicitDefEqProofs
 rw [if_neg e]
 have en:(s==[])=false:=beq_eq_false_iff_ne.2 e
 obtain ⟨R,hR⟩: ∃R,R=spRun (runesL s 0) ⟨0,0,false,0,false⟩:=⟨_,rfl⟩
 have hR2:=spRun_spU (runesL s 0) ⟨0,0,false,0,false⟩
 rw [←hR] at hR2
 rw [←hR2]
 clear hR2
 simp -implicitDefEqProofs [c149]
 refine wp_lpk (α:=Nat×Sx) (fun y=>⟨[(0,.str s),(4,.ptr (.n 8) 0),(10,.itp 10)],[(.n 8,y.2.box),(.it 10,[.itr s y.1])],[]⟩)
  (fun y=>y.1≤s.length∧SxOk y.2∧spRun (runesL s y.1) y.2=R) (fun y=>s.length - y.1) ?_ (0,⟨0,0,false,0,false⟩) ?_ ?_
 ·rintro K ⟨i,x⟩ hK ⟨h1,h2,h3⟩
  simp only at h1 h2 h3
  by_cases g:i<s.length
  ·rw [runesL_in g,spRun] at h3
   have sr:=step_r65 s i g
   have sp:=stepR_pos s i
   have sw:=stepR_le s i g
   have T:=fun (e:Nat) (he:(Id.n 8).isNw e=false)=>stakeU_spec x h2 (r65 (stepR s i).1) (okV_step s i) e (.n 8) rfl he
   have so:=h2.step (stepR s i).1
   rw [take_r65] at T
   have bx0:x.box.length=5:=rfl
   have bx1:idsL x.box=[]:=rfl
   have by0:(x.take (stepR s i).1).1.box.length=5:=rfl
   have by1:idsL (x.take (stepR s i).1).1.box=[]:=rfl
   have fin:spRun (runesL s (i+(stepR s i).2)) (x.take (stepR s i).1).1=R→ ∀σ',Weak σ' ⟨[(0,.str s),(4,.ptr (.n 8) 0),(10,.itp 10)],[(.n 8,(x.take (stepR s i).1).1.box),(.it 10,[.itr s (i+(stepR s i).2)])],[]⟩→K σ':=
    fun hh σ' hσ=>hK (i+(stepR s i).2,(x.take (stepR s i).1).1) σ' ⟨sw,so,hh⟩ (by simp only;omega) hσ
   clear hK hR so
   generalize (x.take (stepR s i).1).2=ok at *
   generalize (x.take (stepR s i).1).1=y at *
   generalize r65 (stepR s i).1=r at *
   generalize (stepR s i).2=w at *
   cases ok
   ·rw [if_neg (by decide)] at h3
    subst h3
    clear fin
    unfold Sx.box spB at *
    simp -implicitDefEqProofs [g,sr,spFin]
    refine onH_mk _ _ (T _ rfl) ⟨?_,?_,?_,?_,?_,?_,?_⟩ ?_
    iterate 7 (· simp)
    simp -implicitDefEqProofs
   ·rw [if_pos rfl] at h3
    have fin:=fin h3
    clear h3
    generalize spFin R=Q at *
    unfold Sx.box spB at *
    simp -implicitDefEqProofs [g,sr]
    refine onH_mk _ _ (T _ rfl) ⟨?_,?_,?_,?_,?_,?_,?_⟩ ?_
    iterate 7 (· simp)
    simp -implicitDefEqProofs
    refine fin _ ?_
    refine weak_mk ?_ ?_ ?_ ?_ ?_ ?_<;>simp -implicitDefEqProofs
  ·rw [runesL_out g,spRun] at h3
   subst h3
   clear hK hR
   unfold spFin
   dsimp only
   obtain ⟨sum,p,dg,j,far⟩:=x
   unfold Sx.box spB
   dsimp only
   cases dg
   ·rw [if_neg (by decide)]
    cases far
    ·rw [if_neg (by decide)]
     simp -implicitDefEqProofs [g,e,en]
    ·rw [if_pos rfl]
     simp -implicitDefEqProofs [g,e,en]
   ·rw [if_pos rfl]
    simp -implicitDefEqProofs [g,e,en]
 ·exact ⟨Nat.zero_le _,⟨by simp,by simp,by simp⟩,hR.symm⟩
 ·refine weak_mk ?_ ?_ ?_ ?_ ?_ ?_<;>simp -implicitDefEqProofs [Sx.box,spB,wdL]
open Go.Proofs
def ppFin (h:Nat×Bool) (t:Nat×Bool):Nat×Int:=
  if h.2=false∨t.2=false then (0,5) else if 100<h.1∨(h.1=100∧0<t.1) then (0,8) else ((h.1*10000%4294967296+t.1)%4294967296,0)
def ppF (s:List UInt8):Nat×Int:=
  if sufB s [37]=false then (0,5)
  else if ((cutSuf s [37]).takeWhile (notB 46)).length<(cutSuf s [37]).length then
    ppFin (wholeF ((cutSuf s [37]).takeWhile (notB 46))) ((pnF (runesL ((cutSuf s [37]).drop (((cutSuf s [37]).takeWhile (notB 46)).length+1)) 0) 4).1,
      (pnF (runesL ((cutSuf s [37]).drop (((cutSuf s [37]).takeWhile (notB 46)).length+1)) 0) 4).2&&!sufB ((cutSuf s [37]).drop (((cutSuf s [37]).takeWhile (notB 46)).length+1)) [48])
  else ppFin (wholeF (cutSuf s [37])) (0,true)
def pprV (b:List UInt8) (d:Nat):Nat:=frU b d*10000+frU (b.drop (d+1)) 4
def pprB (s b:List UInt8) (d:Nat):Nat×Int:=
  if (b.take d).all isDig=false∨(b.drop (d+1)).all isDig=false then (0,5)
  else if (d<b.length∧(b.length - 1 - d<1∨4<b.length - 1 - d∨byt s (b.length - 1)=48))∨d=0∨(byt s 0=48∧1<d) then (0,5)
  else if 3<d then (0,8)
  else if 1000000<pprV b d then (0,8) else (pprV b d,0)
def pprF (s:List UInt8):Nat×Int:=
  if s.length<2∨byt s (s.length - 1)≠37 then (0,5)
  else pprB s (s.take (s.length - 1)) ((s.take (s.length - 1)).takeWhile (notB 46)).length
theorem frU_undec (l:List UInt8): ∀i,i≤l.length→frU l i=undec (l.take i)
  |0,_=>by rw [frU,List.take_zero];rfl
  |i+1,h=>by
    have g:i<l.length:=by omega
    rw [frU,frU_undec l i (by omega),dgt_in g,List.take_succ_eq_append_getElem g,undec_snoc]
theorem frU_pad (l:List UInt8): ∀j,frU l (l.length+j)=undec l*10^j
  |0=>by rw [Nat.add_zero,frU_undec l _ (Nat.le_refl _),List.take_length];simp
  |j+1=>by
    rw [←Nat.add_assoc,frU,frU_pad l j,dgt_out (by omega),Nat.pow_succ]
    rw [Nat.add_zero,Nat.mul_comm 10,Nat.mul_assoc]
theorem sufB_one (s:List UInt8) (c:UInt8):sufB s [c]=true↔0<s.length∧byt s (s.length - 1)=c.toNat:=by
  unfold sufB
  rw [Bool.and_eq_true,decide_eq_true_iff,List.length_singleton,beq_iff_eq]
  constructor
  · rintro ⟨h1,h2⟩
    refine ⟨h1,?_⟩
    have g:s.length - 1<s.length:=by omega
    rw [List.drop_eq_getElem_cons g] at h2
    injection h2 with h2 _
    rw [byt_at g,h2]
  · rintro ⟨h1,h2⟩
    refine ⟨h1,?_⟩
    have g:s.length - 1<s.length:=by omega
    rw [byt_at g] at h2
    rw [List.drop_eq_getElem_cons g,UInt8.toNat_inj.1 h2,List.drop_eq_nil_of_le (by omega)]
theorem okDec_iff (h:List UInt8):okDec h=true↔h≠[]∧h.all isDig=true∧ ¬(byt h 0=48∧1<h.length):=by
  unfold okDec
  cases h with
  |nil=>simp
  |cons a t=>
    have e:byt (a::t) 0=a.toNat:=rfl
    rw [e]
    have q:(a !=48)=true↔a.toNat≠48:=by
      rw [bne_iff_ne]
      constructor
      · intro h1 h2
        exact h1 (UInt8.toNat_inj.1 h2)
      · intro h1 h2
        exact h1 (by rw [h2];rfl)
    rw [Bool.and_eq_true,Bool.and_eq_true,Bool.or_eq_true,List.headD_cons,q,beq_iff_eq]
    simp only [List.isEmpty_cons,Bool.not_false,true_and,List.length_cons]
    constructor
    · rintro ⟨h1,h2⟩
      exact ⟨by simp,h1,by omega⟩
    · rintro ⟨_,h1,h2⟩
      exact ⟨h1,by omega⟩
theorem wholeF_bad (h:List UInt8) (hh:okDec h=false):wholeF h=(0,false):=by
  unfold wholeF
  rw [hh,if_neg (by decide)]
theorem wholeF_far (h:List UInt8) (hh:okDec h=true) (hl:3<h.length):wholeF h=(101,true):=by
  have:=(okDec_iff h).1 hh
  unfold wholeF
  rw [if_pos hh,runesL_digs h h.length 0 (by omega) (by omega) this.2.1,if_pos (by omega)]
theorem wholeF_ok (h:List UInt8) (hh:okDec h=true) (hl: ¬3<h.length):wholeF h=(min (undec h) 101,true):=by
  have:=(okDec_iff h).1 hh
  unfold wholeF
  rw [if_pos hh,runesL_digs h h.length 0 (by omega) (by omega) this.2.1,if_neg (by omega),pnF_ok h h.length this.2.1 this.1 (Nat.le_refl _) (by omega),Nat.sub_self]
  simp
theorem takeB_len (s:List UInt8) (c:UInt8):(s.takeWhile (notB c)).length≤s.length:=(List.takeWhile_prefix _).length_le
theorem pprB_eq (s b:List UInt8) (hb:b=s.take (s.length - 1)) (h2:2≤s.length):
    (if (b.takeWhile (notB 46)).length<b.length then ppFin (wholeF (b.takeWhile (notB 46))) ((pnF (runesL (b.drop ((b.takeWhile (notB 46)).length+1)) 0) 4).1,(pnF (runesL (b.drop ((b.takeWhile (notB 46)).length+1)) 0) 4).2&&!sufB (b.drop ((b.takeWhile (notB 46)).length+1)) [48])
     else ppFin (wholeF b) (0,true))=pprB s b (b.takeWhile (notB 46)).length:=by
  have bl:b.length=s.length - 1:=by rw [hb,List.length_take];omega
  have tw:=takeB_tw 46 b
  have tl:=takeB_len b 46
  have b0:byt b 0=byt s 0:=by rw [hb];exact byt_take (by omega)
  have bn:byt b (b.length - 1)=byt s (b.length - 1):=by
    have e:b.length - 1<s.length - 1:=by omega
    have:=byt_take (s:=s) (j:=s.length - 1) (q:=b.length - 1) e
    rw [←hb] at this
    exact this
  clear hb
  obtain ⟨d,hd⟩: ∃d,d=(b.takeWhile (notB 46)).length:=⟨_,rfl⟩
  rw [←hd] at tw tl ⊢
  rw [←tw]
  clear hd tw
  have tkl:(b.take d).length=d:=by rw [List.length_take];omega
  have dl:(b.drop (d+1)).length=b.length - (d+1):=List.length_drop
  have t0:0<d→byt (b.take d) 0=byt s 0:=fun h=>by rw [byt_take h,b0]
  have dn:d+1<b.length→byt (b.drop (d+1)) ((b.drop (d+1)).length - 1)=byt s (b.length - 1):=fun h=>by
    rw [byt_drop,dl,show d+1+(b.length - (d+1) - 1)=b.length - 1 by omega,bn]
  have v1:=frU_undec b d tl
  have ok:=okDec_iff (b.take d)
  have ne:b.take d≠[]↔0<d:=by
    rw [Ne,←List.length_eq_zero_iff,tkl];omega
  rw [ne,tkl] at ok
  unfold pprB pprV
  rw [v1]
  have WB:=wholeF_bad (b.take d)
  have WF:=wholeF_far (b.take d)
  have WO:=wholeF_ok (b.take d)
  rw [tkl] at WF WO
  have tot:b.take d=b∨d<b.length:=by
    by_cases g:d<b.length
    · exact .inr g
    · left
      rw [List.take_of_length_le (by omega)]
  have V4:(b.drop (d+1)).all isDig=true→(b.drop (d+1)).length≤4→frU (b.drop (d+1)) 4=undec (b.drop (d+1))*10^(4 - (b.drop (d+1)).length)∧frU (b.drop (d+1)) 4<10000:=fun h h'=>by
    refine ⟨?_,?_⟩
    · have:=frU_pad (b.drop (d+1)) (4 - (b.drop (d+1)).length)
      rw [←this]
      congr 1
      omega
    · refine frU_lt _ (fun i=>?_) 4
      by_cases e:b.drop (d+1)=[]
      · rw [dgt_out (by rw [e];simp)]
        omega
      · refine dgs_dgt ?_ i
        unfold dgsF
        rw [h,Bool.true_and,decide_eq_true_iff]
        exact List.length_pos_iff.2 e
  have u3:okDec (b.take d)=true→ ¬3<d→undec (b.take d)<1000:=fun h h'=>by
    have:=undec_lt (b.take d) (ok.1 h).2.1
    rw [tkl] at this
    exact Nat.lt_of_lt_of_le this (show 10^d≤1000 from by
      obtain rfl|rfl|rfl|rfl:d=0∨d=1∨d=2∨d=3:=by omega
      all_goals decide)
  have PB:=pnF_bad (b.drop (d+1)) 4
  have PO:=pnF_ok (b.drop (d+1)) 4
  have SB:=sufB_one (b.drop (d+1)) 48
  rw [show (48:UInt8).toNat=48 from rfl] at SB
  rw [dl] at SB PB PO V4
  by_cases g:d<b.length
  · rw [if_pos g]
    clear tot
    cases ha:(b.take d).all isDig
    · have:okDec (b.take d)=false:=by
        cases hk:okDec (b.take d)
        · rfl
        · have:=(ok.1 hk).2.1
          rw [ha] at this;cases this
      rw [WB this,if_pos (.inl rfl)]
      rfl
    cases hb2:(b.drop (d+1)).all isDig
    · rw [PB (.inl hb2),if_pos (.inr rfl)]
      unfold ppFin
      rw [if_pos (.inr rfl)]
    rw [if_neg (by rintro (h|h)<;>cases h)]
    rw [hb2] at V4 PO
    have bad:((pnF (runesL (b.drop (d+1)) 0) 4).2&&!sufB (b.drop (d+1)) [48])=false↔(b.length - 1 - d<1∨4<b.length - 1 - d∨byt s (b.length - 1)=48):=by
      by_cases e1:b.length - (d+1)=0
      · have:b.drop (d+1)=[]:=List.eq_nil_of_length_eq_zero (by rw [dl];exact e1)
        rw [PB (.inr (.inl this))]
        simp only [Bool.false_and,true_iff]
        left;omega
      by_cases e2:4<b.length - (d+1)
      · rw [PB (.inr (.inr e2))]
        simp only [Bool.false_and,true_iff]
        right;left;omega
      rw [PO rfl (fun e=>e1 (by rw [←dl,e];rfl)) (by omega) (by omega)]
      simp only [Bool.true_and]
      have dn:=dn (by omega)
      rw [dl] at dn
      rw [dn] at SB
      cases hs:sufB (b.drop (d+1)) [48]
      · simp only [Bool.not_false]
        constructor
        · intro h;cases h
        · rintro (h|h|h)
          · omega
          · omega
          · have:=SB.2 ⟨by omega,h⟩
            rw [hs] at this;cases this
      · simp only [Bool.not_true,true_iff]
        have:=SB.1 hs
        omega
    by_cases c1:((d<b.length∧(b.length - 1 - d<1∨4<b.length - 1 - d∨byt s (b.length - 1)=48))∨d=0∨(byt s 0=48∧1<d))
    · rw [if_pos c1]
      unfold ppFin
      rw [if_pos]
      rcases c1 with ⟨_,h⟩|h|⟨h,h'⟩
      · right;exact bad.2 h
      · left
        rw [WB]
        cases hk:okDec (b.take d)
        · rfl
        · have:=(ok.1 hk).1;omega
      · left
        rw [WB]
        cases hk:okDec (b.take d)
        · rfl
        · have:=(ok.1 hk).2.2
          rw [t0 (by omega)] at this
          exact absurd ⟨h,h'⟩ this
    rw [if_neg c1]
    have hd0:0<d:=by omega
    have hk:okDec (b.take d)=true:=ok.2 ⟨hd0,ha,by rw [t0 hd0];omega⟩
    have hg: ¬(b.length - 1 - d<1∨4<b.length - 1 - d∨byt s (b.length - 1)=48):=fun h=>c1 (.inl ⟨g,h⟩)
    have ht:((pnF (runesL (b.drop (d+1)) 0) 4).2&&!sufB (b.drop (d+1)) [48])=true:=by
      cases hq:((pnF (runesL (b.drop (d+1)) 0) 4).2&&!sufB (b.drop (d+1)) [48])
      · exact absurd (bad.1 hq) hg
      · rfl
    rw [ht]
    have v4:=V4 rfl (by omega)
    have ne2:b.drop (d+1)≠[]:=fun e=>by
      have:(b.drop (d+1)).length=0:=by rw [e];rfl
      omega
    rw [PO rfl ne2 (by omega) (by omega),←v4.1]
    have v5:=v4.2
    generalize frU (b.drop (d+1)) 4=m at *
    by_cases c3:3<d
    · rw [WF hk c3,if_pos c3]
      rfl
    · rw [WO hk c3,if_neg c3]
      have u3:=u3 hk c3
      generalize undec (b.take d)=q at *
      unfold ppFin
      dsimp only
      rw [if_neg (by rintro (h|h)<;>cases h)]
      by_cases c4:1000000<q*10000+m
      · rw [if_pos c4,if_pos (by omega)]
      · rw [if_neg c4,if_neg (by omega),show min q 101=q by omega,Nat.mod_eq_of_lt (show q*10000<4294967296 by omega),Nat.mod_eq_of_lt (by omega)]
  · rw [if_neg g]
    have tot:b.take d=b:=by
      rcases tot with h|h
      · exact h
      · exact absurd h g
    have dnil:b.drop (d+1)=[]:=List.drop_eq_nil_of_le (by omega)
    rw [dnil] at V4 ⊢
    have m0:frU ([]:List UInt8) 4=0:=by decide
    rw [m0,Nat.add_zero]
    rw [tot] at ok WB WF WO u3 ⊢
    cases ha:b.all isDig
    · have:okDec b=false:=by
        cases hk:okDec b
        · rfl
        · have:=(ok.1 hk).2.1
          rw [ha] at this;cases this
      rw [WB this,if_pos (.inl rfl)]
      rfl
    rw [if_neg (by rintro (h|h);cases h;exact absurd h (by decide))]
    by_cases c1:((d<b.length∧(b.length - 1 - d<1∨4<b.length - 1 - d∨byt s (b.length - 1)=48))∨d=0∨(byt s 0=48∧1<d))
    · rw [if_pos c1]
      unfold ppFin
      rw [if_pos]
      left
      rcases c1 with ⟨h,_⟩|h|⟨h,h'⟩
      · exact absurd h g
      · rw [WB]
        cases hk:okDec b
        · rfl
        · have:=(ok.1 hk).1;omega
      · rw [WB]
        cases hk:okDec b
        · rfl
        · have:=(ok.1 hk).2.2
          rw [b0] at this
          exact absurd ⟨h,h'⟩ this
    rw [if_neg c1]
    have hd0:0<d:=by omega
    have hk:okDec b=true:=ok.2 ⟨hd0,ha,by rw [b0];omega⟩
    by_cases c3:3<d
    · rw [WF hk c3,if_pos c3]
      rfl
    · rw [WO hk c3,if_neg c3]
      have u3:=u3 hk c3
      generalize undec b=q at *
      unfold ppFin
      dsimp only
      rw [if_neg (by rintro (h|h)<;>cases h)]
      by_cases c4:1000000<q*10000
      · rw [if_pos c4,if_pos (by omega)]
      · rw [if_neg c4,if_neg (by omega),show min q 101=q by omega,Nat.mod_eq_of_lt (show q*10000<4294967296 by omega),Nat.add_zero,Nat.mod_eq_of_lt (by omega)]
theorem ppF_eq (s:List UInt8):ppF s=pprF s:=by
  unfold ppF pprF
  have S:=sufB_one s 37
  rw [show (37:UInt8).toNat=37 from rfl] at S
  cases hs:sufB s [37]
  · rw [if_pos rfl,if_pos]
    by_cases h:s.length<2
    · exact .inl h
    · right
      intro e
      have:=S.2 ⟨by omega,e⟩
      rw [hs] at this
      cases this
  · rw [if_neg (by decide)]
    have h:=S.1 hs
    have hc:cutSuf s [37]=s.take (s.length - 1):=by
      unfold cutSuf
      rw [if_pos hs]
      rfl
    rw [hc]
    by_cases h2:s.length<2
    · rw [if_pos (show s.length<2∨byt s (s.length - 1)≠37 from .inl h2)]
      have e:s.take (s.length - 1)=[]:=by rw [show s.length - 1=0 by omega,List.take_zero]
      rw [e]
      decide
    · rw [if_neg (show ¬(s.length<2∨byt s (s.length - 1)≠37) from by rintro (h'|h');exact h2 h';exact h' h.2)]
      exact pprB_eq s _ rfl (by omega)
end Go.Ai
