/- P17: a part of the proof: the rules, or what functions compute. Conditions: as each theorem says. -/
import Derived.Test.YthonkjadcpdphaaGreatDoorP6
import Derived.Test.YthonkjadcpdphaaGreatDoorP16
import Derived.Test.YthonkjadcpdphaaGreatDoorP9
import Derived.Test.YthonkjadcpdphaaGreatDoorP13
import Derived.Test.YthonkjadcpdphaaGreatDoorCode
import Derived.Test.YthonkjadcpdphaaGreatDoorAiShelf2
import Derived.Shelf.Strings.SlTrimAscii
set_option linter.unusedSimpArgs false
set_option linter.unusedVariables false
set_option maxRecDepth 20000
namespace Go.Ai
open Go.Proofs Go.Shelf
def wdT:List UInt8:=[119,100,104,109,115]
theorem bld_at:bldAt Tryz.prog 173 173 2:=by unfold bldAt;kernel_rfl
theorem sright04_spec (n:Int):Sp Tryz.prog gl 135 [i6 n] (.bool (decide (0≤n)&&decide (n≤253402300799))):=by
 refine s135 rfl rfl ?_
 by_cases c:0≤n
 ·by_cases c2:n≤253402300799
  ·simp [c135,c,c2]
  ·simp [c135,c,c2]
 ·simp [c135,c]
theorem runeAt_wd0:runeAt wdT 0=(119,1):=by rw [step_rune wdT 0 (by decide)];rfl
theorem runeAt_wd1:runeAt wdT 1=(100,1):=by rw [step_rune wdT 1 (by decide)];rfl
theorem runeAt_wd2:runeAt wdT 2=(104,1):=by rw [step_rune wdT 2 (by decide)];rfl
theorem runeAt_wd3:runeAt wdT 3=(109,1):=by rw [step_rune wdT 3 (by decide)];rfl
theorem runeAt_wd4:runeAt wdT 4=(115,1):=by rw [step_rune wdT 4 (by decide)];rfl
set_option maxHeartbeats 2000000 in
theorem sprint04_spec (n:Nat) (hn:n≤253402300799):Sp Tryz.prog gl 77 [i6 n] (.str (spP n)):=by
 refine s77 rfl rfl ?_
 have RG:=sright04_spec (n:Int)
 rw [decide_eq_true (show (0:Int)≤n by omega),decide_eq_true (show (n:Int)≤253402300799 by omega)] at RG
 unfold spP
 by_cases c0:n=0
 ·have c0':(n:Int)=0:=by omega
  rw [if_pos c0]
  rw [c0'] at RG ⊢
  simp -implicitDefEqProofs [c77]
  refine onC_mk _ (RG) ?_
  simp -implicitDefEqProofs
 have c0':((n:Int)==0)=false:=by simp;omega
 rw [if_neg c0]
 have RL:=spG_len unL n hn
 have RN:=spG_nil n
 have hl5:unL.length=5:=rfl
 obtain ⟨R,hR⟩: ∃R,R=spG unL n:=⟨_,rfl⟩
 rw [←hR] at RL RN ⊢
 rw [hl5] at RL
 have RN':R≠[]:=fun e=>c0 (RN.1 e)
 have WS:=fun (d:Nat) (hb:(Id.n 3).isNw d=false) (c0:AV) hc (l s:List UInt8) hl=>ws_spec (d:=d) (b:= .n 3) rfl hb (c0:=c0) hc l s hl
 have WR:=fun (d:Nat) (hb:(Id.n 3).isNw d=false) (l:List UInt8) (r:Nat) hr h hl=>wr_spec (d:=d) (b:= .n 3) rfl hb bld_at (c0:= .ptr (.n 3) 0) (.inr rfl) [] l r hr h hl
 have ST:=fun (d:Nat) (hb:(Id.n 3).isNw d=false) (c0:AV)=>st_spec (d:=d) (b:= .n 3) rfl hb (c0:=c0) R RN'
 have wdl:wdT.length=5:=rfl
 have bn:byteRows []=[]:=rfl
 simp -implicitDefEqProofs [c77]
 refine onC_mk _ (RG) ?_
 simp -implicitDefEqProofs [c0']
 rw [show ([119,100,104,109,115]:List UInt8)=wdT from rfl]
 obtain ⟨WD,hWD⟩: ∃WD,WD=wdT:=⟨_,rfl⟩
 have wdl':WD.length=5:=by rw [hWD];rfl
 have ra0:runeAt WD 0=(119,1):=by rw [hWD];exact runeAt_wd0
 have ra1:runeAt WD 1=(100,1):=by rw [hWD];exact runeAt_wd1
 have ra2:runeAt WD 2=(104,1):=by rw [hWD];exact runeAt_wd2
 have ra3:runeAt WD 3=(109,1):=by rw [hWD];exact runeAt_wd3
 have ra4:runeAt WD 4=(115,1):=by rw [hWD];exact runeAt_wd4
 rw [←hWD]
 clear hWD
 refine wp_lpk (α:=Nat×AV×List UInt8×Nat) (fun y=>⟨[(0,i6 y.2.2.2),(3,.ptr (.n 3) 0),(14,.itp 14)],[(.n 3,[y.2.1,.sl (byteRows y.2.2.1)]),(.it 14,[.itr WD y.1])],[(.b (.n 3) 1,bk 5)]⟩)
  (fun y=>y.1≤5∧(y.2.1= .nilT (.n 3) 173 2∨y.2.1= .ptr (.n 3) 0)∧y.2.2.2≤253402300799∧y.2.2.1++spG (unL.drop y.1) y.2.2.2=R) (fun y=>5 - y.1) ?_ (0,.nilT (.n 3) 173 2,[],n) ?_ ?_
 ·rintro K ⟨i,c1,s,m⟩ hK ⟨h1,hc1,h2,h3⟩
  simp only at h1 hc1 h2 h3
  have sl:s.length≤105:=by
   rw [←h3,List.length_append] at RL
   omega
  obtain rfl|rfl|rfl|rfl|rfl|rfl:i=0∨i=1∨i=2∨i=3∨i=4∨i=5:=by omega
  ·have UN:=sunit_spec 119
   rw [show unitZ 119=604800 from rfl] at UN
   rw [show unL.drop 0=(604800,119)::unL.drop 1 from rfl,spG] at h3
   have fin:=fun c' s' m' b0 b1 b2 σ' hσ=>hK (1,c',s',m') σ' ⟨by omega,b0,b1,b2⟩ (by simp only;omega) hσ
   clear hK ST RL RN
   have d0:(m:Int).tdiv 604800=((m / 604800:Nat):Int):=rfl
   have d1:IntKind.i64.wrap ((m:Int) / 604800)=((m / 604800:Nat):Int):=by rw [wrap_i64]<;>omega
   have d2:(m:Int).tmod 604800=((m%604800:Nat):Int):=rfl
   have d3:IntKind.i64.wrap ((m%604800:Nat):Int)=((m%604800:Nat):Int):=by rw [wrap_i64]<;>omega
   have d4:IntKind.i64.wrap ((m / 604800:Nat):Int)=((m / 604800:Nat):Int):=by rw [wrap_i64]<;>omega
   have d5:IntKind.i64.wrap ((m:Int)%604800)=((m%604800:Nat):Int):=by rw [wrap_i64]<;>omega
   have mb:m%604800≤253402300799:=by have:=Nat.mod_le m 604800;omega
   by_cases gu:604800≤m
   ·rw [if_pos gu] at h3
    have FI:=fmtI_spec (m / 604800) (by omega)
    have dl:=dec_len 19 (m / 604800) (by omega)
    have gq:0<m / 604800:=by omega
    have gq':(0:Int)<((m / 604800:Nat):Int):=by omega
    have W1:=fun d hd=>WS d hd c1 hc1 s (dec (m / 604800)) (by omega)
    have W2:=fun d hd=>WR d hd (s++dec (m / 604800)) 119 (by left;decide) (by decide) (by rw [List.length_append];omega)
    rw [show encN 119=[119] from rfl] at W2
    have fin:=fin (.ptr (.n 3) 0) (s++dec (m / 604800)++[119]) (m%604800) (.inr rfl) mb (by rw [←h3];simp)
    clear h3 WS WR hc1
    generalize dec (m / 604800)=D at *
    generalize m / 604800=q at *
    generalize m%604800=r at *
    simp -implicitDefEqProofs [ra0,wdl']
    refine onC_mk _ (UN) ?_
    simp -implicitDefEqProofs [gq,gq',d0,d1,d2,d3,d4,d5]
    refine onC_mk _ (FI) ?_
    simp -implicitDefEqProofs
    refine onH_mk _ _ (W1 _ rfl) ⟨?_,?_,?_,?_,?_,?_,?_⟩ ?_
    iterate 7 (· simp)
    simp -implicitDefEqProofs
    refine onH_mk _ _ (W2 _ rfl) ⟨?_,?_,?_,?_,?_,?_,?_⟩ ?_
    iterate 7 (· simp)
    simp -implicitDefEqProofs
    refine onC_mk _ (UN) ?_
    simp -implicitDefEqProofs [d0,d1,d2,d3,d4,d5]
    refine fin _ ?_
    refine weak_mk ?_ ?_ ?_ ?_ ?_ ?_<;>simp -implicitDefEqProofs [d0,d1,d2,d3,d4,d5]
   ·rw [if_neg gu] at h3
    have gq:m / 604800=0:=by rw [Nat.div_eq_zero_iff];omega
    have gm:m%604800=m:=Nat.mod_eq_of_lt (by omega)
    rw [gq] at d0 d1 d4
    rw [gm] at d2 d3 d5
    have fin:=fin c1 s m hc1 h2 h3
    clear h3 WS WR
    rcases hc1 with rfl|rfl
    ·simp [ra0,wdl']
     refine onC_mk _ (UN) ?_
     simp -implicitDefEqProofs [d0,d1,d2,d3,d4,d5]
     refine onC_mk _ (UN) ?_
     simp -implicitDefEqProofs [d0,d1,d2,d3,d4,d5]
     refine fin _ ?_
     refine weak_mk ?_ ?_ ?_ ?_ ?_ ?_<;>simp -implicitDefEqProofs [d0,d1,d2,d3,d4,d5]
    ·simp [ra0,wdl']
     refine onC_mk _ (UN) ?_
     simp -implicitDefEqProofs [d0,d1,d2,d3,d4,d5]
     refine onC_mk _ (UN) ?_
     simp -implicitDefEqProofs [d0,d1,d2,d3,d4,d5]
     refine fin _ ?_
     refine weak_mk ?_ ?_ ?_ ?_ ?_ ?_<;>simp -implicitDefEqProofs [d0,d1,d2,d3,d4,d5]
  ·have UN:=sunit_spec 100
   rw [show unitZ 100=86400 from rfl] at UN
   rw [show unL.drop 1=(86400,100)::unL.drop 2 from rfl,spG] at h3
   have fin:=fun c' s' m' b0 b1 b2 σ' hσ=>hK (2,c',s',m') σ' ⟨by omega,b0,b1,b2⟩ (by simp only;omega) hσ
   clear hK ST RL RN
   have d0:(m:Int).tdiv 86400=((m / 86400:Nat):Int):=rfl
   have d1:IntKind.i64.wrap ((m:Int) / 86400)=((m / 86400:Nat):Int):=by rw [wrap_i64]<;>omega
   have d2:(m:Int).tmod 86400=((m%86400:Nat):Int):=rfl
   have d3:IntKind.i64.wrap ((m%86400:Nat):Int)=((m%86400:Nat):Int):=by rw [wrap_i64]<;>omega
   have d4:IntKind.i64.wrap ((m / 86400:Nat):Int)=((m / 86400:Nat):Int):=by rw [wrap_i64]<;>omega
   have d5:IntKind.i64.wrap ((m:Int)%86400)=((m%86400:Nat):Int):=by rw [wrap_i64]<;>omega
   have mb:m%86400≤253402300799:=by have:=Nat.mod_le m 86400;omega
   by_cases gu:86400≤m
   ·rw [if_pos gu] at h3
    have FI:=fmtI_spec (m / 86400) (by omega)
    have dl:=dec_len 19 (m / 86400) (by omega)
    have gq:0<m / 86400:=by omega
    have gq':(0:Int)<((m / 86400:Nat):Int):=by omega
    have W1:=fun d hd=>WS d hd c1 hc1 s (dec (m / 86400)) (by omega)
    have W2:=fun d hd=>WR d hd (s++dec (m / 86400)) 100 (by left;decide) (by decide) (by rw [List.length_append];omega)
    rw [show encN 100=[100] from rfl] at W2
    have fin:=fin (.ptr (.n 3) 0) (s++dec (m / 86400)++[100]) (m%86400) (.inr rfl) mb (by rw [←h3];simp)
    clear h3 WS WR hc1
    generalize dec (m / 86400)=D at *
    generalize m / 86400=q at *
    generalize m%86400=r at *
    simp -implicitDefEqProofs [ra1,wdl']
    refine onC_mk _ (UN) ?_
    simp -implicitDefEqProofs [gq,gq',d0,d1,d2,d3,d4,d5]
    refine onC_mk _ (FI) ?_
    simp -implicitDefEqProofs
    refine onH_mk _ _ (W1 _ rfl) ⟨?_,?_,?_,?_,?_,?_,?_⟩ ?_
    iterate 7 (· simp)
    simp -implicitDefEqProofs
    refine onH_mk _ _ (W2 _ rfl) ⟨?_,?_,?_,?_,?_,?_,?_⟩ ?_
    iterate 7 (· simp)
    simp -implicitDefEqProofs
    refine onC_mk _ (UN) ?_
    simp -implicitDefEqProofs [d0,d1,d2,d3,d4,d5]
    refine fin _ ?_
    refine weak_mk ?_ ?_ ?_ ?_ ?_ ?_<;>simp -implicitDefEqProofs [d0,d1,d2,d3,d4,d5]
   ·rw [if_neg gu] at h3
    have gq:m / 86400=0:=by rw [Nat.div_eq_zero_iff];omega
    have gm:m%86400=m:=Nat.mod_eq_of_lt (by omega)
    rw [gq] at d0 d1 d4
    rw [gm] at d2 d3 d5
    have fin:=fin c1 s m hc1 h2 h3
    clear h3 WS WR
    rcases hc1 with rfl|rfl
    ·simp [ra1,wdl']
     refine onC_mk _ (UN) ?_
     simp -implicitDefEqProofs [d0,d1,d2,d3,d4,d5]
     refine onC_mk _ (UN) ?_
     simp -implicitDefEqProofs [d0,d1,d2,d3,d4,d5]
     refine fin _ ?_
     refine weak_mk ?_ ?_ ?_ ?_ ?_ ?_<;>simp -implicitDefEqProofs [d0,d1,d2,d3,d4,d5]
    ·simp [ra1,wdl']
     refine onC_mk _ (UN) ?_
     simp -implicitDefEqProofs [d0,d1,d2,d3,d4,d5]
     refine onC_mk _ (UN) ?_
     simp -implicitDefEqProofs [d0,d1,d2,d3,d4,d5]
     refine fin _ ?_
     refine weak_mk ?_ ?_ ?_ ?_ ?_ ?_<;>simp -implicitDefEqProofs [d0,d1,d2,d3,d4,d5]
  ·have UN:=sunit_spec 104
   rw [show unitZ 104=3600 from rfl] at UN
   rw [show unL.drop 2=(3600,104)::unL.drop 3 from rfl,spG] at h3
   have fin:=fun c' s' m' b0 b1 b2 σ' hσ=>hK (3,c',s',m') σ' ⟨by omega,b0,b1,b2⟩ (by simp only;omega) hσ
   clear hK ST RL RN
   have d0:(m:Int).tdiv 3600=((m / 3600:Nat):Int):=rfl
   have d1:IntKind.i64.wrap ((m:Int) / 3600)=((m / 3600:Nat):Int):=by rw [wrap_i64]<;>omega
   have d2:(m:Int).tmod 3600=((m%3600:Nat):Int):=rfl
   have d3:IntKind.i64.wrap ((m%3600:Nat):Int)=((m%3600:Nat):Int):=by rw [wrap_i64]<;>omega
   have d4:IntKind.i64.wrap ((m / 3600:Nat):Int)=((m / 3600:Nat):Int):=by rw [wrap_i64]<;>omega
   have d5:IntKind.i64.wrap ((m:Int)%3600)=((m%3600:Nat):Int):=by rw [wrap_i64]<;>omega
   have mb:m%3600≤253402300799:=by have:=Nat.mod_le m 3600;omega
   by_cases gu:3600≤m
   ·rw [if_pos gu] at h3
    have FI:=fmtI_spec (m / 3600) (by omega)
    have dl:=dec_len 19 (m / 3600) (by omega)
    have gq:0<m / 3600:=by omega
    have gq':(0:Int)<((m / 3600:Nat):Int):=by omega
    have W1:=fun d hd=>WS d hd c1 hc1 s (dec (m / 3600)) (by omega)
    have W2:=fun d hd=>WR d hd (s++dec (m / 3600)) 104 (by left;decide) (by decide) (by rw [List.length_append];omega)
    rw [show encN 104=[104] from rfl] at W2
    have fin:=fin (.ptr (.n 3) 0) (s++dec (m / 3600)++[104]) (m%3600) (.inr rfl) mb (by rw [←h3];simp)
    clear h3 WS WR hc1
    generalize dec (m / 3600)=D at *
    generalize m / 3600=q at *
    generalize m%3600=r at *
    simp -implicitDefEqProofs [ra2,wdl']
    refine onC_mk _ (UN) ?_
    simp -implicitDefEqProofs [gq,gq',d0,d1,d2,d3,d4,d5]
    refine onC_mk _ (FI) ?_
    simp -implicitDefEqProofs
    refine onH_mk _ _ (W1 _ rfl) ⟨?_,?_,?_,?_,?_,?_,?_⟩ ?_
    iterate 7 (· simp)
    simp -implicitDefEqProofs
    refine onH_mk _ _ (W2 _ rfl) ⟨?_,?_,?_,?_,?_,?_,?_⟩ ?_
    iterate 7 (· simp)
    simp -implicitDefEqProofs
    refine onC_mk _ (UN) ?_
    simp -implicitDefEqProofs [d0,d1,d2,d3,d4,d5]
    refine fin _ ?_
    refine weak_mk ?_ ?_ ?_ ?_ ?_ ?_<;>simp -implicitDefEqProofs [d0,d1,d2,d3,d4,d5]
   ·rw [if_neg gu] at h3
    have gq:m / 3600=0:=by rw [Nat.div_eq_zero_iff];omega
    have gm:m%3600=m:=Nat.mod_eq_of_lt (by omega)
    rw [gq] at d0 d1 d4
    rw [gm] at d2 d3 d5
    have fin:=fin c1 s m hc1 h2 h3
    clear h3 WS WR
    rcases hc1 with rfl|rfl
    ·simp [ra2,wdl']
     refine onC_mk _ (UN) ?_
     simp -implicitDefEqProofs [d0,d1,d2,d3,d4,d5]
     refine onC_mk _ (UN) ?_
     simp -implicitDefEqProofs [d0,d1,d2,d3,d4,d5]
     refine fin _ ?_
     refine weak_mk ?_ ?_ ?_ ?_ ?_ ?_<;>simp -implicitDefEqProofs [d0,d1,d2,d3,d4,d5]
    ·simp [ra2,wdl']
     refine onC_mk _ (UN) ?_
     simp -implicitDefEqProofs [d0,d1,d2,d3,d4,d5]
     refine onC_mk _ (UN) ?_
     simp -implicitDefEqProofs [d0,d1,d2,d3,d4,d5]
     refine fin _ ?_
     refine weak_mk ?_ ?_ ?_ ?_ ?_ ?_<;>simp -implicitDefEqProofs [d0,d1,d2,d3,d4,d5]
  ·have UN:=sunit_spec 109
   rw [show unitZ 109=60 from rfl] at UN
   rw [show unL.drop 3=(60,109)::unL.drop 4 from rfl,spG] at h3
   have fin:=fun c' s' m' b0 b1 b2 σ' hσ=>hK (4,c',s',m') σ' ⟨by omega,b0,b1,b2⟩ (by simp only;omega) hσ
   clear hK ST RL RN
   have d0:(m:Int).tdiv 60=((m / 60:Nat):Int):=rfl
   have d1:IntKind.i64.wrap ((m:Int) / 60)=((m / 60:Nat):Int):=by rw [wrap_i64]<;>omega
   have d2:(m:Int).tmod 60=((m%60:Nat):Int):=rfl
   have d3:IntKind.i64.wrap ((m%60:Nat):Int)=((m%60:Nat):Int):=by rw [wrap_i64]<;>omega
   have d4:IntKind.i64.wrap ((m / 60:Nat):Int)=((m / 60:Nat):Int):=by rw [wrap_i64]<;>omega
   have d5:IntKind.i64.wrap ((m:Int)%60)=((m%60:Nat):Int):=by rw [wrap_i64]<;>omega
   have mb:m%60≤253402300799:=by have:=Nat.mod_le m 60;omega
   by_cases gu:60≤m
   ·rw [if_pos gu] at h3
    have FI:=fmtI_spec (m / 60) (by omega)
    have dl:=dec_len 19 (m / 60) (by omega)
    have gq:0<m / 60:=by omega
    have gq':(0:Int)<((m / 60:Nat):Int):=by omega
    have W1:=fun d hd=>WS d hd c1 hc1 s (dec (m / 60)) (by omega)
    have W2:=fun d hd=>WR d hd (s++dec (m / 60)) 109 (by left;decide) (by decide) (by rw [List.length_append];omega)
    rw [show encN 109=[109] from rfl] at W2
    have fin:=fin (.ptr (.n 3) 0) (s++dec (m / 60)++[109]) (m%60) (.inr rfl) mb (by rw [←h3];simp)
    clear h3 WS WR hc1
    generalize dec (m / 60)=D at *
    generalize m / 60=q at *
    generalize m%60=r at *
    simp -implicitDefEqProofs [ra3,wdl']
    refine onC_mk _ (UN) ?_
    simp -implicitDefEqProofs [gq,gq',d0,d1,d2,d3,d4,d5]
    refine onC_mk _ (FI) ?_
    simp -implicitDefEqProofs
    refine onH_mk _ _ (W1 _ rfl) ⟨?_,?_,?_,?_,?_,?_,?_⟩ ?_
    iterate 7 (· simp)
    simp -implicitDefEqProofs
    refine onH_mk _ _ (W2 _ rfl) ⟨?_,?_,?_,?_,?_,?_,?_⟩ ?_
    iterate 7 (· simp)
    simp -implicitDefEqProofs
    refine onC_mk _ (UN) ?_
    simp -implicitDefEqProofs [d0,d1,d2,d3,d4,d5]
    refine fin _ ?_
    refine weak_mk ?_ ?_ ?_ ?_ ?_ ?_<;>simp -implicitDefEqProofs [d0,d1,d2,d3,d4,d5]
   ·rw [if_neg gu] at h3
    have gq:m / 60=0:=by rw [Nat.div_eq_zero_iff];omega
    have gm:m%60=m:=Nat.mod_eq_of_lt (by omega)
    rw [gq] at d0 d1 d4
    rw [gm] at d2 d3 d5
    have fin:=fin c1 s m hc1 h2 h3
    clear h3 WS WR
    rcases hc1 with rfl|rfl
    ·simp [ra3,wdl']
     refine onC_mk _ (UN) ?_
     simp -implicitDefEqProofs [d0,d1,d2,d3,d4,d5]
     refine onC_mk _ (UN) ?_
     simp -implicitDefEqProofs [d0,d1,d2,d3,d4,d5]
     refine fin _ ?_
     refine weak_mk ?_ ?_ ?_ ?_ ?_ ?_<;>simp -implicitDefEqProofs [d0,d1,d2,d3,d4,d5]
    ·simp [ra3,wdl']
     refine onC_mk _ (UN) ?_
     simp -implicitDefEqProofs [d0,d1,d2,d3,d4,d5]
     refine onC_mk _ (UN) ?_
     simp -implicitDefEqProofs [d0,d1,d2,d3,d4,d5]
     refine fin _ ?_
     refine weak_mk ?_ ?_ ?_ ?_ ?_ ?_<;>simp -implicitDefEqProofs [d0,d1,d2,d3,d4,d5]
  ·have UN:=sunit_spec 115
   rw [show unitZ 115=1 from rfl] at UN
   rw [show unL.drop 4=(1,115)::unL.drop 5 from rfl,spG] at h3
   have fin:=fun c' s' m' b0 b1 b2 σ' hσ=>hK (5,c',s',m') σ' ⟨by omega,b0,b1,b2⟩ (by simp only;omega) hσ
   clear hK ST RL RN
   have d0:(m:Int).tdiv 1=((m / 1:Nat):Int):=rfl
   have d1:IntKind.i64.wrap ((m:Int) / 1)=((m / 1:Nat):Int):=by rw [wrap_i64]<;>omega
   have d2:(m:Int).tmod 1=((m%1:Nat):Int):=rfl
   have d3:IntKind.i64.wrap ((m%1:Nat):Int)=((m%1:Nat):Int):=by rw [wrap_i64]<;>omega
   have d4:IntKind.i64.wrap ((m / 1:Nat):Int)=((m / 1:Nat):Int):=by rw [wrap_i64]<;>omega
   have d5:IntKind.i64.wrap ((m:Int)%1)=((m%1:Nat):Int):=by rw [wrap_i64]<;>omega
   have mb:m%1≤253402300799:=by have:=Nat.mod_le m 1;omega
   by_cases gu:1≤m
   ·rw [if_pos gu] at h3
    have FI:=fmtI_spec (m / 1) (by omega)
    have dl:=dec_len 19 (m / 1) (by omega)
    have gq:0<m / 1:=by omega
    have gq':(0:Int)<((m / 1:Nat):Int):=by omega
    have W1:=fun d hd=>WS d hd c1 hc1 s (dec (m / 1)) (by omega)
    have W2:=fun d hd=>WR d hd (s++dec (m / 1)) 115 (by left;decide) (by decide) (by rw [List.length_append];omega)
    rw [show encN 115=[115] from rfl] at W2
    have fin:=fin (.ptr (.n 3) 0) (s++dec (m / 1)++[115]) (m%1) (.inr rfl) mb (by rw [←h3];simp)
    clear h3 WS WR hc1
    generalize dec (m / 1)=D at *
    generalize m / 1=q at *
    generalize m%1=r at *
    simp -implicitDefEqProofs [ra4,wdl']
    refine onC_mk _ (UN) ?_
    simp -implicitDefEqProofs [gq,gq',d0,d1,d2,d3,d4,d5]
    refine onC_mk _ (FI) ?_
    simp -implicitDefEqProofs
    refine onH_mk _ _ (W1 _ rfl) ⟨?_,?_,?_,?_,?_,?_,?_⟩ ?_
    iterate 7 (· simp)
    simp -implicitDefEqProofs
    refine onH_mk _ _ (W2 _ rfl) ⟨?_,?_,?_,?_,?_,?_,?_⟩ ?_
    iterate 7 (· simp)
    simp -implicitDefEqProofs
    refine onC_mk _ (UN) ?_
    simp -implicitDefEqProofs [d0,d1,d2,d3,d4,d5]
    refine fin _ ?_
    refine weak_mk ?_ ?_ ?_ ?_ ?_ ?_<;>simp -implicitDefEqProofs [d0,d1,d2,d3,d4,d5]
   ·rw [if_neg gu] at h3
    have gq:m / 1=0:=by rw [Nat.div_eq_zero_iff];omega
    have gm:m%1=m:=Nat.mod_eq_of_lt (by omega)
    rw [gq] at d0 d1 d4
    rw [gm] at d2 d3 d5
    have fin:=fin c1 s m hc1 h2 h3
    clear h3 WS WR
    rcases hc1 with rfl|rfl
    ·simp [ra4,wdl']
     refine onC_mk _ (UN) ?_
     simp -implicitDefEqProofs [d0,d1,d2,d3,d4,d5]
     refine onC_mk _ (UN) ?_
     simp -implicitDefEqProofs [d0,d1,d2,d3,d4,d5]
     refine fin _ ?_
     refine weak_mk ?_ ?_ ?_ ?_ ?_ ?_<;>simp -implicitDefEqProofs [d0,d1,d2,d3,d4,d5]
    ·simp [ra4,wdl']
     refine onC_mk _ (UN) ?_
     simp -implicitDefEqProofs [d0,d1,d2,d3,d4,d5]
     refine onC_mk _ (UN) ?_
     simp -implicitDefEqProofs [d0,d1,d2,d3,d4,d5]
     refine fin _ ?_
     refine weak_mk ?_ ?_ ?_ ?_ ?_ ?_<;>simp -implicitDefEqProofs [d0,d1,d2,d3,d4,d5]
  ·rw [show unL.drop 5=[] from rfl,spG,List.append_nil] at h3
   subst h3
   have S1:=fun d hd=>ST d hd c1
   clear hK WS WR ST
   simp -implicitDefEqProofs [wdl']
   refine onH_mk _ _ (S1 _ rfl) ⟨?_,?_,?_,?_,?_,?_,?_⟩ ?_
   iterate 7 (· simp)
   simp -implicitDefEqProofs
 ·exact ⟨Nat.zero_le _,.inl rfl,hn,by rw [hR];rfl⟩
 ·refine weak_mk ?_ ?_ ?_ ?_ ?_ ?_<;>simp -implicitDefEqProofs [bn]
end Go.Ai
namespace Go.Ai
open Go.Proofs Go.Shelf
def ren_laysTrimR:Ren:={
 f:=fun x=>match x with
  |162=>132
  |232=>166
  |227=>167
  |234=>169
  |236=>171
  |228=>213
  |271=>216
  |151=>215
  |120=>245
  |197=>214
  |152=>228
  |260=>244
  |137=>256
  |119=>257
  |224=>248
  |225=>247
  |217=>246
  |266=>276
  |n=>n
 t:=fun x=>match x with
  |9=>9
  |4=>4
  |3=>3
  |5=>5
  |117=>211
  |116=>210
  |0=>0
  |124=>214
  |21=>21
  |105=>257
  |46=>207
  |119=>239
  |139=>242
  |138=>241
  |n=>n
 g:=fun x=>match x with
  |3=>0
  |4=>1
  |n=>n}
set_option maxRecDepth 100000 in
theorem laysTrimR:Lays.n162 Tryz.prog ren_laysTrimR where
 mixed:=by kernel_rfl
 f119:=Eq.trans Tryz.func257 (congrArg some (show Tryz.f257=Body.n119 ren_laysTrimR by kernel_rfl))
 f120:=Eq.trans Tryz.func245 (congrArg some (show Tryz.f245=Body.n120 ren_laysTrimR by kernel_rfl))
 f137:=Eq.trans Tryz.func256 (congrArg some (show Tryz.f256=Body.n137 ren_laysTrimR by kernel_rfl))
 f151:=Eq.trans Tryz.func215 (congrArg some (show Tryz.f215=Body.n151 ren_laysTrimR by kernel_rfl))
 f152:=Eq.trans Tryz.func228 (congrArg some (show Tryz.f228=Body.n152 ren_laysTrimR by kernel_rfl))
 f162:=Eq.trans Tryz.func132 (congrArg some (show Tryz.f132=Body.n162 ren_laysTrimR by kernel_rfl))
 f197:=Eq.trans Tryz.func214 (congrArg some (show Tryz.f214=Body.n197 ren_laysTrimR by kernel_rfl))
 f217:=Eq.trans Tryz.func246 (congrArg some (show Tryz.f246=Body.n217 ren_laysTrimR by kernel_rfl))
 f224:=Eq.trans Tryz.func248 (congrArg some (show Tryz.f248=Body.n224 ren_laysTrimR by kernel_rfl))
 f225:=Eq.trans Tryz.func247 (congrArg some (show Tryz.f247=Body.n225 ren_laysTrimR by kernel_rfl))
 f227:=Eq.trans Tryz.func167 (congrArg some (show Tryz.f167=Body.n227 ren_laysTrimR by kernel_rfl))
 f228:=Eq.trans Tryz.func213 (congrArg some (show Tryz.f213=Body.n228 ren_laysTrimR by kernel_rfl))
 f232:=Eq.trans Tryz.func166 (congrArg some (show Tryz.f166=Body.n232 ren_laysTrimR by kernel_rfl))
 f234:=Eq.trans Tryz.func169 (congrArg some (show Tryz.f169=Body.n234 ren_laysTrimR by kernel_rfl))
 f236:=Eq.trans Tryz.func171 (congrArg some (show Tryz.f171=Body.n236 ren_laysTrimR by kernel_rfl))
 f260:=Eq.trans Tryz.func244 (congrArg some (show Tryz.f244=Body.n260 ren_laysTrimR by kernel_rfl))
 f266:=Eq.trans Tryz.func276 (congrArg some (show Tryz.f276=Body.n266 ren_laysTrimR by kernel_rfl))
 f271:=Eq.trans Tryz.func216 (congrArg some (show Tryz.f216=Body.n271 ren_laysTrimR by kernel_rfl))
 t0:=Tryz.underlying0
 a0:=Tryz.isAgg0
 z0:=Tryz.sizeOf0
 v0:=Tryz.zeroValue0
 t3:=Tryz.underlying3
 a3:=Tryz.isAgg3
 z3:=Tryz.sizeOf3
 v3:=Tryz.zeroValue3
 t4:=Tryz.underlying4
 a4:=Tryz.isAgg4
 z4:=Tryz.sizeOf4
 v4:=Tryz.zeroValue4
 t5:=Tryz.underlying5
 a5:=Tryz.isAgg5
 z5:=Tryz.sizeOf5
 v5:=Tryz.zeroValue5
 t9:=Tryz.underlying9
 a9:=Tryz.isAgg9
 z9:=Tryz.sizeOf9
 v9:=Tryz.zeroValue9
 t21:=Tryz.underlying21
 a21:=Tryz.isAgg21
 z21:=Tryz.sizeOf21
 v21:=Tryz.zeroValue21
 t46:=Tryz.underlying207
 a46:=Tryz.isAgg207
 z46:=Tryz.sizeOf207
 v46:=Tryz.zeroValue207
 t105:=Tryz.underlying257
 a105:=Tryz.isAgg257
 z105:=Tryz.sizeOf257
 v105:=Tryz.zeroValue257
 t116:=Tryz.underlying210
 a116:=Tryz.isAgg210
 z116:=Tryz.sizeOf210
 t117:=Tryz.underlying211
 a117:=Tryz.isAgg211
 z117:=Tryz.sizeOf211
 v117:=Tryz.zeroValue211
 t119:=Tryz.underlying239
 a119:=Tryz.isAgg239
 z119:=Tryz.sizeOf239
 t124:=Tryz.underlying214
 a124:=Tryz.isAgg214
 z124:=Tryz.sizeOf214
 v124:=Tryz.zeroValue214
 t138:=Tryz.underlying241
 a138:=Tryz.isAgg241
 z138:=Tryz.sizeOf241
 v138:=Tryz.zeroValue241
 t139:=Tryz.underlying242
 a139:=Tryz.isAgg242
 z139:=Tryz.sizeOf242
 v139:=Tryz.zeroValue242
 g3:=by kernel_rfl
 g4:=by kernel_rfl
open Go.Proofs
def hxD (r:Nat):UInt8:=if r<10 then UInt8.ofNat (48+r) else UInt8.ofNat (87+r)
def hxL (r:Nat):List UInt8:=if r<16 then [hxD r] else [hxD (r / 16),hxD (r%16)]
theorem rhex1_spec (r:Nat) (h:r<16):Sp Tryz.prog gl 110 [i3 r] (.str [hxD r]):=by
 refine s110 rfl rfl ?_
 have w0:(r:Int).tmod 16=r:=by rw [Int.tmod_eq_emod_of_nonneg (by omega)];omega
 have w1:IntKind.i32.wrap (r:Int)=r:=by rw [wrap_i32']<;>omega
 have w2:IntKind.i32.wrap ((r:Int)+1)=((r+1:Nat):Int):=by rw [wrap_i32']<;>omega
 have hd:List.drop r (List.take (r+1) ([48,49,50,51,52,53,54,55,56,57,97,98,99,100,101,102]:List UInt8))=[hxD r]:=by
  have: ∀q:Fin 16,List.drop q.1 (List.take (q.1+1) ([48,49,50,51,52,53,54,55,56,57,97,98,99,100,101,102]:List UInt8))=[hxD q.1]:=by decide
  exact this ⟨r,h⟩
 obtain ⟨m,hm⟩: ∃m,m=r+1:=⟨_,rfl⟩
 rw [←hm] at w2 hd
 have q1:r≤m:=by omega
 have q2:m≤16:=by omega
 have q3:(r:Int)≤m:=by omega
 have q4:(m:Int)≤16:=by omega
 have q5: ¬(16:Int)≤r:=by omega
 have q6: ¬16≤r:=by omega
 generalize [hxD r]=R at *
 simp -implicitDefEqProofs [c110,w0,w1,w2,q1,q2,q3,q4,q5,q6,hd]
theorem rhex_spec (r:Nat) (h:r<256):Sp Tryz.prog gl 110 [i3 r] (.str (hxL r)):=by
 by_cases c:r<16
 ·unfold hxL
  rw [if_pos c]
  exact rhex1_spec r c
 refine s110 rfl rfl ?_
 have H:=rhex1_spec (r / 16) (by omega)
 have w0:(r:Int).tmod 16=((r%16:Nat):Int):=rfl
 have w3:IntKind.i32.wrap ((r:Int) / 16)=((r / 16:Nat):Int):=by rw [wrap_i32']<;>omega
 have hd:List.drop (r%16) (List.take (r%16+1) ([48,49,50,51,52,53,54,55,56,57,97,98,99,100,101,102]:List UInt8))=[hxD (r%16)]:=by
  have: ∀q:Fin 16,List.drop q.1 (List.take (q.1+1) ([48,49,50,51,52,53,54,55,56,57,97,98,99,100,101,102]:List UInt8))=[hxD q.1]:=by decide
  exact this ⟨r%16,Nat.mod_lt _ (by decide)⟩
 have m16:r%16<16:=Nat.mod_lt _ (by decide)
 have q5:(16:Int)≤r:=by omega
 have q6:16≤r:=by omega
 unfold hxL
 rw [if_neg c]
 generalize r%16=x at *
 generalize r / 16=y at *
 have w1:IntKind.i32.wrap (x:Int)=x:=by rw [wrap_i32']<;>omega
 have w2:IntKind.i32.wrap ((x:Int)+1)=((x+1:Nat):Int):=by rw [wrap_i32']<;>omega
 obtain ⟨m,hm⟩: ∃m,m=x+1:=⟨_,rfl⟩
 rw [←hm] at w2 hd
 have q1:x≤m:=by omega
 have q2:m≤16:=by omega
 have q3:(x:Int)≤m:=by omega
 have q4:(m:Int)≤16:=by omega
 generalize hxD x=X at *
 generalize hxD y=Y at *
 simp -implicitDefEqProofs [c110,w0,w1,w2,q1,q2,q3,q4,q5,q6,hd,w3]
 refine onC_mk _ (H) ?_
 simp -implicitDefEqProofs
def esR (r:Nat):List UInt8:=if r=34 then [92,34] else if r=92 then [92,92] else if r=10 then [92,110] else if r=9 then [92,116] else if r<32∨r=127 then [92,117,123]++(hxL r++[125]) else encN r
def esL:List Int→List UInt8
 |[]=>[]
 |r::l=>esR r.toNat++esL l
def quL (l:List Int):List UInt8:=34::(esL l++[34])
theorem hxL_len (r:Nat):(hxL r).length≤2:=by unfold hxL;split<;>simp
theorem esR_len (r:Nat):(esR r).length≤6:=by
 have h1:=hxL_len r
 have h2:=(encN_len r).1
 unfold esR
 repeat' split
 all_goals first|omega|(simp;omega)|simp
theorem esL_len: ∀l:List Int,(esL l).length≤6*l.length
 |[]=>by simp [esL]
 |r::l=>by
  have h1:=esL_len l
  have h2:=esR_len r.toNat
  simp only [esL,List.length_append,List.length_cons]
  omega
open Go.Proofs
set_option maxHeartbeats 1000000 in
theorem rquote_spec (s:List UInt8) (hl:s.length≤100000) (hg: ∀r∈runesL s 0,0≤r):Sp Tryz.prog gl 59 [.str s] (.str (quL (runesL s 0))):=by
 refine s59 rfl rfl ?_
 have RS:=runes_spec s (by omega)
 have hlen:=runesL_len s s.length 0 (by omega)
 have hok:=runesL_okR s s.length 0 (by omega)
 generalize runesL s 0=l at *
 have hr: ∀r∈l,0≤r∧r≤1114111:=fun r h=>by
  have:=hg r h
  rcases hok r h with h|h<;>omega
 have rl:=runeRows_len l
 have rat:=runeRows_at l
 generalize runeRows l=RR at *
 have el:=esL_len l
 unfold quL
 obtain ⟨R,hR⟩: ∃R,R=34::esL l:=⟨_,rfl⟩
 have RL:R.length≤700000:=by rw [hR,List.length_cons];omega
 have e0:34::(esL l++[34])=R++[34]:=by rw [hR];rfl
 rw [e0]
 simp -implicitDefEqProofs [c59]
 refine onC_mk _ (RS) ?_
 simp -implicitDefEqProofs
 refine wp_lpk (α:=List UInt8×Nat) (fun y=>⟨[(3,.str y.1),(4,.sl RR),(5,i6 y.2)],[],[]⟩) (fun y=>y.2≤l.length∧y.1++esL (l.drop y.2)=R) (fun y=>l.length - y.2) ?_ ([34],0) ?_ ?_
 ·rintro K ⟨cur,i⟩ hK ⟨h1,h2⟩
  simp only at h1 h2
  have cl:cur.length≤700000:=by
   rw [←h2,List.length_append] at RL
   omega
  by_cases g:i<l.length
  ·have g':(i:Int)<l.length:=by omega
   have gR:i<RR.length:=by omega
   have ra:=rat i g gR
   have t1:IntKind.i64.wrap ((i:Int)+1)=(i+1:Nat):=by rw [wrap_i64]<;>omega
   have hri:=hr _ (List.getElem_mem g)
   rw [List.drop_eq_getElem_cons g,esL] at h2
   obtain ⟨q,hq⟩: ∃q:Nat,l[i]=q:=⟨l[i].toNat,by omega⟩
   rw [hq] at ra h2 hri
   rw [Int.toNat_natCast] at h2
   have fin:=fun σ' hσ=>hK (cur++esR q,i+1) σ' ⟨g,by simp only;rw [List.append_assoc];exact h2⟩ (by simp only;omega) hσ
   have el2:=esR_len q
   have l0: ∀x:List UInt8,x.length≤6→cur.length+x.length≤9223372036854775807:=fun x hx=>by omega
   have l1:cur.length+2≤9223372036854775807:=by omega
   have l2:cur.length≤9223372036854775805:=by omega
   have BY:=rbytes_spec q (by omega)
   clear hK h2 hq rat hr hok hg RS
   unfold esR at fin el2
   have ne: ∀z:Nat,¬q=z→((q:Int)==(z:Int))=false:=fun z h=>beq_eq_false_iff_ne.2 (by omega)
   by_cases c1:q=34
   ·subst c1
    rw [if_pos rfl] at fin
    simp -implicitDefEqProofs [g,g',gR,ra,rl,l1,l2]
    refine fin _ ?_
    refine weak_mk ?_ ?_ ?_ ?_ ?_ ?_<;>simp -implicitDefEqProofs [t1]
   rw [if_neg c1] at fin el2
   have d1:((q:Int)==34)=false:=ne 34 c1
   by_cases c2:q=92
   ·subst c2
    rw [if_pos rfl] at fin
    simp -implicitDefEqProofs [g,g',gR,ra,rl,l1,l2]
    refine fin _ ?_
    refine weak_mk ?_ ?_ ?_ ?_ ?_ ?_<;>simp -implicitDefEqProofs [t1]
   rw [if_neg c2] at fin el2
   have d2:((q:Int)==92)=false:=ne 92 c2
   by_cases c3:q=10
   ·subst c3
    rw [if_pos rfl] at fin
    simp -implicitDefEqProofs [g,g',gR,ra,rl,l1,l2]
    refine fin _ ?_
    refine weak_mk ?_ ?_ ?_ ?_ ?_ ?_<;>simp -implicitDefEqProofs [t1]
   rw [if_neg c3] at fin el2
   have d3:((q:Int)==10)=false:=ne 10 c3
   by_cases c4:q=9
   ·subst c4
    rw [if_pos rfl] at fin
    simp -implicitDefEqProofs [g,g',gR,ra,rl,l1,l2]
    refine fin _ ?_
    refine weak_mk ?_ ?_ ?_ ?_ ?_ ?_<;>simp -implicitDefEqProofs [t1]
   rw [if_neg c4] at fin el2
   have d4:((q:Int)==9)=false:=ne 9 c4
   by_cases c5:q<32∨q=127
   ·rw [if_pos c5] at fin
    have HX:=rhex_spec q (by omega)
    have hxl:=hxL_len q
    generalize hxL q=hx at *
    have m1:cur.length+3+hx.length≤9223372036854775807:=by omega
    have m2:cur.length+3≤9223372036854775807:=by omega
    have m3:cur.length≤9223372036854775804:=by omega
    have m4:cur.length+(hx.length+3)≤9223372036854775807:=by omega
    have m5:cur.length+(hx.length+3)+1≤9223372036854775807:=by omega
    have m6:cur.length+(hx.length+1+1+1)≤9223372036854775807:=by omega
    have m7:cur.length+(hx.length+1+1+1)≤9223372036854775806:=by omega
    have m8:cur.length+(hx.length+3)≤9223372036854775806:=by omega
    have m9:cur.length+3+hx.length≤9223372036854775806:=by omega
    rcases c5 with c5|c5
    ·have c5':(q:Int)<32:=by omega
     simp -implicitDefEqProofs [g,g',gR,ra,rl,d1,d2,d3,d4,c1,c2,c3,c4,c5,c5',m2,m3]
     refine onC_mk _ (HX) ?_
     simp -implicitDefEqProofs [m1,m2,m3,m4,m5,m6,m7,m8,m9]
     refine fin _ ?_
     refine weak_mk ?_ ?_ ?_ ?_ ?_ ?_<;>simp -implicitDefEqProofs [t1]
    ·subst c5
     simp -implicitDefEqProofs [g,g',gR,ra,rl,m2,m3]
     refine onC_mk _ (HX) ?_
     simp -implicitDefEqProofs [m1,m2,m3,m4,m5,m6,m7,m8,m9]
     refine fin _ ?_
     refine weak_mk ?_ ?_ ?_ ?_ ?_ ?_<;>simp -implicitDefEqProofs [t1]
   ·rw [if_neg c5] at fin el2
    have c5': ¬(q:Int)<32:=by omega
    have c6:((q:Int)==127)=false:=ne 127 (by omega)
    have c7: ¬q<32:=by omega
    have m1:=l0 (encN q) el2
    generalize encN q=bs at *
    have c8: ¬q=127:=by omega
    simp -implicitDefEqProofs [g,g',gR,ra,rl,d1,d2,d3,d4,c1,c2,c3,c4,c5',c6,c7,c8]
    refine onC_mk _ (BY) ?_
    simp -implicitDefEqProofs [m1]
    refine fin _ ?_
    refine weak_mk ?_ ?_ ?_ ?_ ?_ ?_<;>simp -implicitDefEqProofs [t1]
  ·obtain rfl:i=l.length:=by omega
   rw [List.drop_length,esL,List.append_nil] at h2
   subst h2
   have g': ¬(l.length:Int)<l.length:=by omega
   have l2:cur.length≤9223372036854775806:=by omega
   clear hK
   simp -implicitDefEqProofs [g',rl,l2]
 ·exact ⟨Nat.zero_le _,hR.symm⟩
 ·refine weak_mk ?_ ?_ ?_ ?_ ?_ ?_<;>simp -implicitDefEqProofs
open Go.Proofs
def fcP (n:Nat):List UInt8:=dec (n / 1000)++(46::(UInt8.ofNat (48+n%1000 / 100)::frc 10 2 (n%1000%100)))
def tkP (k:Int) (s:List UInt8) (n:Nat):List UInt8:=
 if tkR k s n=false then [63]
 else if k=1 then s
 else if k=2 then quL (runesL s 0)
 else if k=3 then dec n
 else if k=4 then fcP n
 else if k=5 then shP n
 else if k=6 then spP n
 else if k=7 then [123]
 else if k=8 then [125]
 else if k=9 then [59]
 else []
theorem rprt_1 (k:Int) (hk:k=1) (s:List UInt8) (n:Nat) (l c:Int) (hl:s.length≤100000) (hn:n<18446744073709551616) (hr:tkR k s n=true):Sp Tryz.prog gl 20 [tkA k s n l c] (.str s):=by
 refine s20 rfl rfl ?_
 have RG:=rright_spec k s n l c (by omega)
 rw [hr] at RG
 have d1:(k==1)=true:=by subst hk;decide
 clear hk
 unfold tkA at *
 simp -implicitDefEqProofs [c20]
 refine onC_mk _ (RG) ?_
 simp -implicitDefEqProofs [d1]
theorem rprt_2 (k:Int) (hk:k=2) (s:List UInt8) (n:Nat) (l c:Int) (hl:s.length≤100000) (hn:n<18446744073709551616) (hg: ∀r∈runesL s 0,0≤r) (hr:tkR k s n=true):Sp Tryz.prog gl 20 [tkA k s n l c] (.str (quL (runesL s 0))):=by
 refine s20 rfl rfl ?_
 have RG:=rright_spec k s n l c (by omega)
 rw [hr] at RG
 have QU:=rquote_spec s hl hg
 generalize quL (runesL s 0)=out at *
 have d1:(k==1)=false:=by subst hk;decide
 have d2:(k==2)=true:=by subst hk;decide
 clear hk
 unfold tkA at *
 simp -implicitDefEqProofs [c20]
 refine onC_mk _ (RG) ?_
 simp -implicitDefEqProofs [d1]
 refine onB_mk (fun _=>?_) (fun h=>by rw [d2] at h;cases h)
 simp -implicitDefEqProofs
 refine onC_mk _ (QU) ?_
 simp -implicitDefEqProofs
theorem rprt_3 (k:Int) (hk:k=3) (s:List UInt8) (n:Nat) (l c:Int) (hl:s.length≤100000) (hn:n<18446744073709551616) (hr:tkR k s n=true):Sp Tryz.prog gl 20 [tkA k s n l c] (.str (dec n)):=by
 refine s20 rfl rfl ?_
 have RG:=rright_spec k s n l c (by omega)
 rw [hr] at RG
 have DG:=digits13_spec n hn
 generalize dec n=out at *
 have d1:(k==1)=false:=by subst hk;decide
 have d2:(k==2)=false:=by subst hk;decide
 have d3:(k==3)=true:=by subst hk;decide
 clear hk
 unfold tkA at *
 simp -implicitDefEqProofs [c20]
 refine onC_mk _ (RG) ?_
 simp -implicitDefEqProofs [d1,d2]
 refine onB_mk (fun _=>?_) (fun h=>by rw [d3] at h;cases h)
 simp -implicitDefEqProofs
 refine onC_mk _ (DG) ?_
 simp -implicitDefEqProofs
theorem rprt_5 (k:Int) (hk:k=5) (s:List UInt8) (n:Nat) (l c:Int) (hl:s.length≤100000) (hn:n<18446744073709551616) (hm:n≤1000000) (hr:tkR k s n=true):Sp Tryz.prog gl 20 [tkA k s n l c] (.str (shP n)):=by
 refine s20 rfl rfl ?_
 have RG:=rright_spec k s n l c (by omega)
 rw [hr] at RG
 have SH:=rshare_spec n (by omega)
 have w:IntKind.u32.wrap (n:Int)=n:=by rw [wrap_u32]<;>omega
 generalize shP n=out at *
 have d1:(k==1)=false:=by subst hk;decide
 have d2:(k==2)=false:=by subst hk;decide
 have d3:(k==3)=false:=by subst hk;decide
 have d4:(k==4)=false:=by subst hk;decide
 have d5:(k==5)=true:=by subst hk;decide
 clear hk
 unfold tkA at *
 simp -implicitDefEqProofs [c20]
 refine onC_mk _ (RG) ?_
 simp -implicitDefEqProofs [d1,d2,d3,d4]
 refine onB_mk (fun _=>?_) (fun h=>by rw [d5] at h;cases h)
 simp -implicitDefEqProofs [w]
 refine onC_mk _ (SH) ?_
 simp -implicitDefEqProofs
theorem rprt_6 (k:Int) (hk:k=6) (s:List UInt8) (n:Nat) (l c:Int) (hl:s.length≤100000) (hn:n<18446744073709551616) (hm:n≤253402300799) (hr:tkR k s n=true):Sp Tryz.prog gl 20 [tkA k s n l c] (.str (spP n)):=by
 refine s20 rfl rfl ?_
 have RG:=rright_spec k s n l c (by omega)
 rw [hr] at RG
 have SN:=rspan04_spec n hm
 have w:IntKind.i64.wrap (n:Int)=n:=by rw [wrap_i64]<;>omega
 generalize spP n=out at *
 have d1:(k==1)=false:=by subst hk;decide
 have d2:(k==2)=false:=by subst hk;decide
 have d3:(k==3)=false:=by subst hk;decide
 have d4:(k==4)=false:=by subst hk;decide
 have d5:(k==5)=false:=by subst hk;decide
 have d6:(k==6)=true:=by subst hk;decide
 clear hk
 unfold tkA at *
 simp -implicitDefEqProofs [c20]
 refine onC_mk _ (RG) ?_
 simp -implicitDefEqProofs [d1,d2,d3,d4,d5]
 refine onB_mk (fun _=>?_) (fun h=>by rw [d6] at h;cases h)
 simp -implicitDefEqProofs [w]
 refine onC_mk _ (SN) ?_
 simp -implicitDefEqProofs
theorem rprt_7 (k:Int) (hk:k=7) (s:List UInt8) (n:Nat) (l c:Int) (hl:s.length≤100000) (hn:n<18446744073709551616) (hr:tkR k s n=true):Sp Tryz.prog gl 20 [tkA k s n l c] (.str [123]):=by
 refine s20 rfl rfl ?_
 have RG:=rright_spec k s n l c (by omega)
 rw [hr] at RG
 have d1:(k==1)=false:=by subst hk;decide
 have d2:(k==2)=false:=by subst hk;decide
 have d3:(k==3)=false:=by subst hk;decide
 have d4:(k==4)=false:=by subst hk;decide
 have d5:(k==5)=false:=by subst hk;decide
 have d6:(k==6)=false:=by subst hk;decide
 have d7:(k==7)=true:=by subst hk;decide
 clear hk
 unfold tkA at *
 simp -implicitDefEqProofs [c20]
 refine onC_mk _ (RG) ?_
 simp -implicitDefEqProofs [d1,d2,d3,d4,d5,d6,d7]
theorem rprt_8 (k:Int) (hk:k=8) (s:List UInt8) (n:Nat) (l c:Int) (hl:s.length≤100000) (hn:n<18446744073709551616) (hr:tkR k s n=true):Sp Tryz.prog gl 20 [tkA k s n l c] (.str [125]):=by
 refine s20 rfl rfl ?_
 have RG:=rright_spec k s n l c (by omega)
 rw [hr] at RG
 have d1:(k==1)=false:=by subst hk;decide
 have d2:(k==2)=false:=by subst hk;decide
 have d3:(k==3)=false:=by subst hk;decide
 have d4:(k==4)=false:=by subst hk;decide
 have d5:(k==5)=false:=by subst hk;decide
 have d6:(k==6)=false:=by subst hk;decide
 have d7:(k==7)=false:=by subst hk;decide
 have d8:(k==8)=true:=by subst hk;decide
 clear hk
 unfold tkA at *
 simp -implicitDefEqProofs [c20]
 refine onC_mk _ (RG) ?_
 simp -implicitDefEqProofs [d1,d2,d3,d4,d5,d6,d7,d8]
theorem rprt_9 (k:Int) (hk:k=9) (s:List UInt8) (n:Nat) (l c:Int) (hl:s.length≤100000) (hn:n<18446744073709551616) (hr:tkR k s n=true):Sp Tryz.prog gl 20 [tkA k s n l c] (.str [59]):=by
 refine s20 rfl rfl ?_
 have RG:=rright_spec k s n l c (by omega)
 rw [hr] at RG
 have d1:(k==1)=false:=by subst hk;decide
 have d2:(k==2)=false:=by subst hk;decide
 have d3:(k==3)=false:=by subst hk;decide
 have d4:(k==4)=false:=by subst hk;decide
 have d5:(k==5)=false:=by subst hk;decide
 have d6:(k==6)=false:=by subst hk;decide
 have d7:(k==7)=false:=by subst hk;decide
 have d8:(k==8)=false:=by subst hk;decide
 have d9:(k==9)=true:=by subst hk;decide
 clear hk
 unfold tkA at *
 simp -implicitDefEqProofs [c20]
 refine onC_mk _ (RG) ?_
 simp -implicitDefEqProofs [d1,d2,d3,d4,d5,d6,d7,d8,d9]
theorem rprt_0 (k:Int) (hk:k=0) (s:List UInt8) (n:Nat) (l c:Int) (hl:s.length≤100000) (hr:tkR k s n=true):Sp Tryz.prog gl 20 [tkA k s n l c] (.str []):=by
 refine s20 rfl rfl ?_
 have RG:=rright_spec k s n l c (by omega)
 rw [hr] at RG
 have d1:(k==1)=false:=by subst hk;decide
 have d2:(k==2)=false:=by subst hk;decide
 have d3:(k==3)=false:=by subst hk;decide
 have d4:(k==4)=false:=by subst hk;decide
 have d5:(k==5)=false:=by subst hk;decide
 have d6:(k==6)=false:=by subst hk;decide
 have d7:(k==7)=false:=by subst hk;decide
 have d8:(k==8)=false:=by subst hk;decide
 have d9:(k==9)=false:=by subst hk;decide
 clear hk
 unfold tkA at *
 simp -implicitDefEqProofs [c20]
 refine onC_mk _ (RG) ?_
 simp -implicitDefEqProofs [d1,d2,d3,d4,d5,d6,d7,d8,d9]
theorem rprt_no (k:Int) (s:List UInt8) (n:Nat) (l c:Int) (hl:s.length≤100000) (hr:tkR k s n=false):Sp Tryz.prog gl 20 [tkA k s n l c] (.str [63]):=by
 refine s20 rfl rfl ?_
 have RG:=rright_spec k s n l c (by omega)
 rw [hr] at RG
 unfold tkA at *
 simp -implicitDefEqProofs [c20]
 refine onC_mk _ (RG) ?_
 simp -implicitDefEqProofs
open Go.Proofs
set_option maxHeartbeats 1000000 in
theorem rprt_4 (k:Int) (hk:k=4) (s:List UInt8) (n:Nat) (l c:Int) (hl:s.length≤100000) (hn:n<18446744073709551616) (hr:tkR k s n=true):Sp Tryz.prog gl 20 [tkA k s n l c] (.str (fcP n)):=by
 refine s20 rfl rfl ?_
 have RG:=rright_spec k s n l c (by omega)
 rw [hr] at RG
 have d1:(k==1)=false:=by subst hk;decide
 have d2:(k==2)=false:=by subst hk;decide
 have d3:(k==3)=false:=by subst hk;decide
 have d4:(k==4)=true:=by subst hk;decide
 clear hk
 have DG:=digits13_spec (n / 1000) (by omega)
 have DL:(dec (n / 1000)).length≤20:=dec_len 19 _ (by omega)
 have u1:(n:Int).tmod 1000=((n%1000:Nat):Int):=rfl
 have u2:IntKind.u64.wrap ((n%1000:Nat):Int)=((n%1000:Nat):Int):=by rw [wrap_u64]<;>omega
 have u3:IntKind.u64.wrap ((n:Int) / 1000)=((n / 1000:Nat):Int):=by rw [wrap_u64]<;>omega
 have a1:n%1000<1000:=Nat.mod_lt _ (by decide)
 unfold fcP
 generalize dec (n / 1000)=hd at *
 generalize n / 1000=q at *
 generalize n%1000=a at *
 have v1:(a:Int).tmod 100=((a%100:Nat):Int):=rfl
 have v2:IntKind.u64.wrap ((a%100:Nat):Int)=((a%100:Nat):Int):=by rw [wrap_u64]<;>omega
 have v3:IntKind.u64.wrap ((a:Int) / 100)=((a / 100:Nat):Int):=by rw [wrap_u64]<;>omega
 have b9:a / 100≤9:=by omega
 have x9:a%100<100:=Nat.mod_lt _ (by decide)
 generalize a%100=x0 at *
 generalize a / 100=b at *
 have v4:IntKind.u8.wrap (b:Int)=b:=by rw [wrap_u8]<;>omega
 have v5:IntKind.u8.wrap (48+(b:Int))=48+b:=by rw [wrap_u8]<;>omega
 have v6:((48:Int)+(b:Int)).toNat=48+b:=by omega
 have vD:48+UInt8.ofNat b=UInt8.ofNat (48+b):=by simp
 generalize UInt8.ofNat (48+b)=D0 at *
 obtain ⟨R,hR⟩: ∃R,R=hd++(46::(D0::frc 10 2 x0)):=⟨_,rfl⟩
 rw [←hR]
 have ll1:hd.length+1≤9223372036854775807:=by omega
 have ll2:hd.length≤9223372036854775806:=by omega
 have ll3:hd.length≤9223372036854775805:=by omega
 have ll4:hd.length+1+1≤9223372036854775807:=by omega
 have ll5:hd.length+2≤9223372036854775807:=by omega
 unfold tkA at *
 simp -implicitDefEqProofs [c20]
 refine onC_mk _ (RG) ?_
 simp -implicitDefEqProofs [d1,d2,d3]
 refine onB_mk (fun _=>?_) (fun h=>by rw [d4] at h;cases h)
 simp -implicitDefEqProofs [u1,u2,u3]
 refine onC_mk _ (DG) ?_
 simp -implicitDefEqProofs [ll1,ll2,ll3,ll4,ll5,u1,u2,u3,v1,v2,v3,v4,v5,v6,vD]
 refine wp_lpk (α:=List UInt8×Nat×Nat) (fun y=>⟨[(3,u y.2.1),(4,.str y.1)],[],[]⟩) (fun y=>y.2.1<100∧y.2.2≤2∧(y.2.2=1→y.2.1%10=0)∧(y.2.2=0→y.2.1=0)∧y.1.length+y.2.2≤100∧y.1++frc 10 y.2.2 y.2.1=R) (fun y=>y.2.2) ?_ (hd++[46,D0],x0,2) ?_ ?_
 ·rintro K ⟨cur,x,f⟩ hK ⟨h1,h2,h3,h4,h5,h6⟩
  simp only at h1 h2 h3 h4 h5 h6
  by_cases e0:x=0
  ·subst e0
   rw [show frc 10 f 0=[] by cases f<;>rfl,List.append_nil] at h6
   subst h6
   clear hK
   simp -implicitDefEqProofs
  ·obtain ⟨f,rfl⟩: ∃g,f=g+1:=by
    refine ⟨f - 1,?_⟩
    rcases Nat.eq_zero_or_pos f with hf|hf
    ·exact absurd (h4 hf) e0
    ·omega
   rw [frc,if_neg e0] at h6
   have fin:=fun σ' hσ=>hK (cur++[UInt8.ofNat (48+x / 10)],x%10*10,f) σ' ⟨by simp only;omega,by simp only;omega,by simp only;omega,by
    simp only
    intro hf
    have:=h3 (by omega)
    omega,by simp only [List.length_append,List.length_singleton];omega,by simp only;rw [List.append_assoc];exact h6⟩ (by simp only;omega) hσ
   have xp:(0:Int)<x:=by omega
   have xp':0<x:=by omega
   have l1:cur.length+1≤9223372036854775807:=by omega
   have l2:cur.length≤9223372036854775806:=by omega
   have t1:IntKind.u64.wrap ((x:Int) / 10)=((x / 10:Nat):Int):=by rw [wrap_u64]<;>omega
   have t5:(x:Int).tmod 10=((x%10:Nat):Int):=rfl
   have t6:IntKind.u64.wrap ((x%10:Nat):Int)=((x%10:Nat):Int):=by rw [wrap_u64]<;>omega
   have t7:IntKind.u64.wrap (((x%10:Nat):Int)*10)=((x%10*10:Nat):Int):=by rw [wrap_u64]<;>omega
   have q9:x / 10≤9:=by omega
   clear hK h6 h3 h4 hR DG RG
   generalize x%10*10=x' at *
   generalize ((x%10:Nat):Int)=r at *
   generalize x / 10=z at *
   have t2:IntKind.u8.wrap (z:Int)=z:=by rw [wrap_u8]<;>omega
   have t3:IntKind.u8.wrap (48+(z:Int))=48+z:=by rw [wrap_u8]<;>omega
   have t4:((48:Int)+(z:Int)).toNat=48+z:=by omega
   have tD:48+UInt8.ofNat z=UInt8.ofNat (48+z):=by simp
   generalize UInt8.ofNat (48+z)=D at *
   simp -implicitDefEqProofs [xp,xp',t1,t2,t3,t4,t5,t6,t7,l1,l2]
   refine fin _ ?_
   refine weak_mk ?_ ?_ ?_ ?_ ?_ ?_<;>simp -implicitDefEqProofs [t1,t2,t3,t4,t5,t6,t7,tD]
 ·exact ⟨x9,Nat.le_refl _,by simp only;omega,by simp only;omega,by simp only [List.length_append,List.length_cons,List.length_nil];omega,by rw [hR];simp⟩
 ·refine weak_mk ?_ ?_ ?_ ?_ ?_ ?_<;>simp -implicitDefEqProofs [u1,u2,u3,v1,v2,v3,v4,v5,v6,vD]
theorem rprt_spec (k:Int) (s:List UInt8) (n:Nat) (l c:Int) (hl:s.length≤100000) (hn:n<18446744073709551616):Sp Tryz.prog gl 20 [tkA k s n l c] (.str (tkP k s n)):=by
 unfold tkP
 cases hr:tkR k s n
 ·rw [if_pos rfl]
  exact rprt_no k s n l c hl hr
 rw [if_neg (by decide)]
 have hr':=hr
 unfold tkR at hr'
 by_cases c1:k=1
 ·rw [if_pos c1]
  exact rprt_1 k c1 s n l c hl hn hr
 rw [if_neg c1] at hr' ⊢
 by_cases c2:k=2
 ·rw [if_pos c2] at hr' ⊢
  rw [Bool.and_eq_true] at hr'
  have hg:=hr'.1
  unfold goodR at hg
  rw [List.all_eq_true] at hg
  exact rprt_2 k c2 s n l c hl hn (fun r h=>of_decide_eq_true (hg r h)) hr
 rw [if_neg c2] at hr' ⊢
 by_cases c3:k=3
 ·rw [if_pos c3]
  exact rprt_3 k c3 s n l c hl hn hr
 rw [if_neg c3]
 by_cases c4:k=4
 ·rw [if_pos c4]
  exact rprt_4 k c4 s n l c hl hn hr
 rw [if_neg c4]
 rw [if_neg (by rintro (h|h);exact c3 h;exact c4 h)] at hr'
 by_cases c5:k=5
 ·rw [if_pos c5] at hr' ⊢
  rw [Bool.and_eq_true,decide_eq_true_iff] at hr'
  exact rprt_5 k c5 s n l c hl hn hr'.2 hr
 rw [if_neg c5] at hr' ⊢
 by_cases c6:k=6
 ·rw [if_pos c6] at hr' ⊢
  rw [Bool.and_eq_true,decide_eq_true_iff] at hr'
  exact rprt_6 k c6 s n l c hl hn hr'.2 hr
 rw [if_neg c6] at hr' ⊢
 by_cases c7:k=7
 ·rw [if_pos c7]
  exact rprt_7 k c7 s n l c hl hn hr
 rw [if_neg c7]
 by_cases c8:k=8
 ·rw [if_pos c8]
  exact rprt_8 k c8 s n l c hl hn hr
 rw [if_neg c8]
 by_cases c9:k=9
 ·rw [if_pos c9]
  exact rprt_9 k c9 s n l c hl hn hr
 rw [if_neg c9]
 by_cases c0:k=0
 ·exact rprt_0 k c0 s n l c hl hr
 ·rw [if_neg (by rintro (h|h|h|h);exact c0 h;exact c7 h;exact c8 h;exact c9 h)] at hr'
  cases hr'
end Go.Ai
