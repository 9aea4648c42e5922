/- P10: a part of the proof: the rules, or what functions compute. Conditions: as each theorem says. -/
import Derived.Test.YtggemlhclppciaaGreatDoorP9
import Derived.Test.YtggemlhclppciaaGreatDoorP7
import Derived.Test.YtggemlhclppciaaGreatDoorP3
import Derived.Test.YtggemlhclppciaaGreatDoorP5
import Derived.Test.YtggemlhclppciaaGreatDoorCode
import Derived.Test.YtggemlhclppciaaGreatDoorLib11
import Derived.Shelf.Strings.SlTrimAscii
set_option linter.unusedSimpArgs false
set_option linter.unusedVariables false
set_option maxRecDepth 20000
namespace Go.Ai
open Go.Proofs
def sU (w:List UInt8):List UInt8×Int:=unqF (runesL w 0)
open Go.Proofs
end Go.Ai
namespace Go.Ai
open Go.Proofs
open Go.Proofs
def frc (m:Nat):Nat→Nat→List UInt8
 |0,_=>[]
 |f+1,x=>if x=0 then [] else UInt8.ofNat (48+x / m)::frc m f (x%m*10)
def shP (p:Nat):List UInt8:=if 1000000<p then [63] else dec (p / 10000)++((if p%10000=0 then [] else [46])++(frc 1000 4 (p%10000)++[37]))
open Go.Proofs
def unL:List (Nat×UInt8):=[(604800,119),(86400,100),(3600,104),(60,109),(1,115)]
def spG:List (Nat×UInt8)→Nat→List UInt8
 |[],_=>[]
 |(u,c)::l,n=>if u≤n then dec (n / u)++(c::spG l (n%u)) else spG l n
def spP (n:Nat):List UInt8:=if n=0 then [48,115] else spG unL n
open Go.Proofs
theorem spG_len: ∀(l:List (Nat×UInt8)) (n:Nat),n≤253402300799→(spG l n).length≤21*l.length
 |[],n,h=>by simp [spG]
 |(u,c)::l,n,h=>by
  rw [spG]
  split
  ·have h1:n / u≤n:=Nat.div_le_self _ _
   have h2:n%u≤n:=Nat.mod_le _ _
   have a:=spG_len l (n%u) (by omega)
   have b:=dec_len 19 (n / u) (by omega)
   simp only [List.length_append,List.length_cons]
   omega
  ·have a:=spG_len l n h
   simp only [List.length_cons]
   omega
theorem spG_nil (n:Nat):spG unL n=[]↔n=0:=by
 constructor
 ·intro h
  unfold unL at h
  simp only [spG] at h
  repeat' (split at h)
  all_goals first|omega|(simp at h)
 ·rintro rfl
  rfl
end Go.Ai
namespace Go.Ai
open Go.Proofs Go.Shelf
def wdT:List UInt8:=[119,100,104,109,115]
theorem bld_at:bldAt Tryz.prog 69 69 2:=by unfold bldAt;kernel_rfl
theorem sright04_spec (n:Int):Sp Tryz.prog gl 130 [i6 n] (.bool (decide (0≤n)&&decide (n≤253402300799))):=by
 refine s130 rfl rfl ?_
 by_cases c:0≤n
 ·by_cases c2:n≤253402300799
  ·simp [c130,c,c2]
  ·simp [c130,c,c2]
 ·simp [c130,c]
theorem runeAt_wd0:runeAt wdT 0=(119,1):=by rw [step_rune wdT 0 (by decide)];rfl
theorem runeAt_wd1:runeAt wdT 1=(100,1):=by rw [step_rune wdT 1 (by decide)];rfl
theorem runeAt_wd2:runeAt wdT 2=(104,1):=by rw [step_rune wdT 2 (by decide)];rfl
theorem runeAt_wd3:runeAt wdT 3=(109,1):=by rw [step_rune wdT 3 (by decide)];rfl
theorem runeAt_wd4:runeAt wdT 4=(115,1):=by rw [step_rune wdT 4 (by decide)];rfl
set_option maxHeartbeats 2000000 in
theorem sprint04_spec (n:Nat) (hn:n≤253402300799):Sp Tryz.prog gl 96 [i6 n] (.str (spP n)):=by
 refine s96 rfl rfl ?_
 have RG:=sright04_spec (n:Int)
 rw [decide_eq_true (show (0:Int)≤n by omega),decide_eq_true (show (n:Int)≤253402300799 by omega)] at RG
 unfold spP
 by_cases c0:n=0
 ·have c0':(n:Int)=0:=by omega
  rw [if_pos c0]
  rw [c0'] at RG ⊢
  simp -implicitDefEqProofs [c96]
  refine onC_mk _ (RG) ?_
  simp -implicitDefEqProofs
 have c0':((n:Int)==0)=false:=by simp;omega
 rw [if_neg c0]
 have RL:=spG_len unL n hn
 have RN:=spG_nil n
 have hl5:unL.length=5:=rfl
 obtain ⟨R,hR⟩: ∃R,R=spG unL n:=⟨_,rfl⟩
 rw [←hR] at RL RN ⊢
 rw [hl5] at RL
 have RN':R≠[]:=fun e=>c0 (RN.1 e)
 have WS:=fun (d:Nat) (hb:(Id.n 3).isNw d=false) (c0:AV) hc (l s:List UInt8) hl=>ws_spec (d:=d) (b:= .n 3) rfl hb (c0:=c0) hc l s hl
 have WR:=fun (d:Nat) (hb:(Id.n 3).isNw d=false) (l:List UInt8) (r:Nat) hr h hl=>wr_spec (d:=d) (b:= .n 3) rfl hb bld_at (c0:= .ptr (.n 3) 0) (.inr rfl) [] l r hr h hl
 have ST:=fun (d:Nat) (hb:(Id.n 3).isNw d=false) (c0:AV)=>st_spec (d:=d) (b:= .n 3) rfl hb (c0:=c0) R RN'
 have wdl:wdT.length=5:=rfl
 have bn:byteRows []=[]:=rfl
 simp -implicitDefEqProofs [c96]
 refine onC_mk _ (RG) ?_
 simp -implicitDefEqProofs [c0']
 rw [show ([119,100,104,109,115]:List UInt8)=wdT from rfl]
 obtain ⟨WD,hWD⟩: ∃WD,WD=wdT:=⟨_,rfl⟩
 have wdl':WD.length=5:=by rw [hWD];rfl
 have ra0:runeAt WD 0=(119,1):=by rw [hWD];exact runeAt_wd0
 have ra1:runeAt WD 1=(100,1):=by rw [hWD];exact runeAt_wd1
 have ra2:runeAt WD 2=(104,1):=by rw [hWD];exact runeAt_wd2
 have ra3:runeAt WD 3=(109,1):=by rw [hWD];exact runeAt_wd3
 have ra4:runeAt WD 4=(115,1):=by rw [hWD];exact runeAt_wd4
 rw [←hWD]
 clear hWD
 refine wp_lpk (α:=Nat×AV×List UInt8×Nat) (fun y=>⟨[(0,i6 y.2.2.2),(3,.ptr (.n 3) 0),(14,.itp 14)],[(.n 3,[y.2.1,.sl (byteRows y.2.2.1)]),(.it 14,[.itr WD y.1])],[(.b (.n 3) 1,bk 5)]⟩)
  (fun y=>y.1≤5∧(y.2.1= .nilT (.n 3) 69 2∨y.2.1= .ptr (.n 3) 0)∧y.2.2.2≤253402300799∧y.2.2.1++spG (unL.drop y.1) y.2.2.2=R) (fun y=>5 - y.1) ?_ (0,.nilT (.n 3) 69 2,[],n) ?_ ?_
 ·rintro K ⟨i,c1,s,m⟩ hK ⟨h1,hc1,h2,h3⟩
  simp only at h1 hc1 h2 h3
  have sl:s.length≤105:=by
   rw [←h3,List.length_append] at RL
   omega
  obtain rfl|rfl|rfl|rfl|rfl|rfl:i=0∨i=1∨i=2∨i=3∨i=4∨i=5:=by omega
  ·have UN:=sunit_spec 119
   rw [show unitZ 119=604800 from rfl] at UN
   rw [show unL.drop 0=(604800,119)::unL.drop 1 from rfl,spG] at h3
   have fin:=fun c' s' m' b0 b1 b2 σ' hσ=>hK (1,c',s',m') σ' ⟨by omega,b0,b1,b2⟩ (by simp only;omega) hσ
   clear hK ST RL RN
   have d0:(m:Int).tdiv 604800=((m / 604800:Nat):Int):=rfl
   have d1:IntKind.i64.wrap ((m:Int) / 604800)=((m / 604800:Nat):Int):=by rw [wrap_i64]<;>omega
   have d2:(m:Int).tmod 604800=((m%604800:Nat):Int):=rfl
   have d3:IntKind.i64.wrap ((m%604800:Nat):Int)=((m%604800:Nat):Int):=by rw [wrap_i64]<;>omega
   have d4:IntKind.i64.wrap ((m / 604800:Nat):Int)=((m / 604800:Nat):Int):=by rw [wrap_i64]<;>omega
   have d5:IntKind.i64.wrap ((m:Int)%604800)=((m%604800:Nat):Int):=by rw [wrap_i64]<;>omega
   have mb:m%604800≤253402300799:=by have:=Nat.mod_le m 604800;omega
   by_cases gu:604800≤m
   ·rw [if_pos gu] at h3
    have FI:=fmtI_spec (m / 604800) (by omega)
    have dl:=dec_len 19 (m / 604800) (by omega)
    have gq:0<m / 604800:=by omega
    have gq':(0:Int)<((m / 604800:Nat):Int):=by omega
    have W1:=fun d hd=>WS d hd c1 hc1 s (dec (m / 604800)) (by omega)
    have W2:=fun d hd=>WR d hd (s++dec (m / 604800)) 119 (by left;decide) (by decide) (by rw [List.length_append];omega)
    rw [show encN 119=[119] from rfl] at W2
    have fin:=fin (.ptr (.n 3) 0) (s++dec (m / 604800)++[119]) (m%604800) (.inr rfl) mb (by rw [←h3];simp)
    clear h3 WS WR hc1
    generalize dec (m / 604800)=D at *
    generalize m / 604800=q at *
    generalize m%604800=r at *
    simp -implicitDefEqProofs [ra0,wdl']
    refine onC_mk _ (UN) ?_
    simp -implicitDefEqProofs [gq,gq',d0,d1,d2,d3,d4,d5]
    refine onC_mk _ (FI) ?_
    simp -implicitDefEqProofs
    refine onH_mk _ _ (W1 _ rfl) ⟨?_,?_,?_,?_,?_,?_,?_⟩ ?_
    iterate 7 (· simp)
    simp -implicitDefEqProofs
    refine onH_mk _ _ (W2 _ rfl) ⟨?_,?_,?_,?_,?_,?_,?_⟩ ?_
    iterate 7 (· simp)
    simp -implicitDefEqProofs
    refine onC_mk _ (UN) ?_
    simp -implicitDefEqProofs [d0,d1,d2,d3,d4,d5]
    refine fin _ ?_
    refine weak_mk ?_ ?_ ?_ ?_ ?_ ?_<;>simp -implicitDefEqProofs [d0,d1,d2,d3,d4,d5]
   ·rw [if_neg gu] at h3
    have gq:m / 604800=0:=by rw [Nat.div_eq_zero_iff];omega
    have gm:m%604800=m:=Nat.mod_eq_of_lt (by omega)
    rw [gq] at d0 d1 d4
    rw [gm] at d2 d3 d5
    have fin:=fin c1 s m hc1 h2 h3
    clear h3 WS WR
    rcases hc1 with rfl|rfl
    ·simp [ra0,wdl']
     refine onC_mk _ (UN) ?_
     simp -implicitDefEqProofs [d0,d1,d2,d3,d4,d5]
     refine onC_mk _ (UN) ?_
     simp -implicitDefEqProofs [d0,d1,d2,d3,d4,d5]
     refine fin _ ?_
     refine weak_mk ?_ ?_ ?_ ?_ ?_ ?_<;>simp -implicitDefEqProofs [d0,d1,d2,d3,d4,d5]
    ·simp [ra0,wdl']
     refine onC_mk _ (UN) ?_
     simp -implicitDefEqProofs [d0,d1,d2,d3,d4,d5]
     refine onC_mk _ (UN) ?_
     simp -implicitDefEqProofs [d0,d1,d2,d3,d4,d5]
     refine fin _ ?_
     refine weak_mk ?_ ?_ ?_ ?_ ?_ ?_<;>simp -implicitDefEqProofs [d0,d1,d2,d3,d4,d5]
  ·have UN:=sunit_spec 100
   rw [show unitZ 100=86400 from rfl] at UN
   rw [show unL.drop 1=(86400,100)::unL.drop 2 from rfl,spG] at h3
   have fin:=fun c' s' m' b0 b1 b2 σ' hσ=>hK (2,c',s',m') σ' ⟨by omega,b0,b1,b2⟩ (by simp only;omega) hσ
   clear hK ST RL RN
   have d0:(m:Int).tdiv 86400=((m / 86400:Nat):Int):=rfl
   have d1:IntKind.i64.wrap ((m:Int) / 86400)=((m / 86400:Nat):Int):=by rw [wrap_i64]<;>omega
   have d2:(m:Int).tmod 86400=((m%86400:Nat):Int):=rfl
   have d3:IntKind.i64.wrap ((m%86400:Nat):Int)=((m%86400:Nat):Int):=by rw [wrap_i64]<;>omega
   have d4:IntKind.i64.wrap ((m / 86400:Nat):Int)=((m / 86400:Nat):Int):=by rw [wrap_i64]<;>omega
   have d5:IntKind.i64.wrap ((m:Int)%86400)=((m%86400:Nat):Int):=by rw [wrap_i64]<;>omega
   have mb:m%86400≤253402300799:=by have:=Nat.mod_le m 86400;omega
   by_cases gu:86400≤m
   ·rw [if_pos gu] at h3
    have FI:=fmtI_spec (m / 86400) (by omega)
    have dl:=dec_len 19 (m / 86400) (by omega)
    have gq:0<m / 86400:=by omega
    have gq':(0:Int)<((m / 86400:Nat):Int):=by omega
    have W1:=fun d hd=>WS d hd c1 hc1 s (dec (m / 86400)) (by omega)
    have W2:=fun d hd=>WR d hd (s++dec (m / 86400)) 100 (by left;decide) (by decide) (by rw [List.length_append];omega)
    rw [show encN 100=[100] from rfl] at W2
    have fin:=fin (.ptr (.n 3) 0) (s++dec (m / 86400)++[100]) (m%86400) (.inr rfl) mb (by rw [←h3];simp)
    clear h3 WS WR hc1
    generalize dec (m / 86400)=D at *
    generalize m / 86400=q at *
    generalize m%86400=r at *
    simp -implicitDefEqProofs [ra1,wdl']
    refine onC_mk _ (UN) ?_
    simp -implicitDefEqProofs [gq,gq',d0,d1,d2,d3,d4,d5]
    refine onC_mk _ (FI) ?_
    simp -implicitDefEqProofs
    refine onH_mk _ _ (W1 _ rfl) ⟨?_,?_,?_,?_,?_,?_,?_⟩ ?_
    iterate 7 (· simp)
    simp -implicitDefEqProofs
    refine onH_mk _ _ (W2 _ rfl) ⟨?_,?_,?_,?_,?_,?_,?_⟩ ?_
    iterate 7 (· simp)
    simp -implicitDefEqProofs
    refine onC_mk _ (UN) ?_
    simp -implicitDefEqProofs [d0,d1,d2,d3,d4,d5]
    refine fin _ ?_
    refine weak_mk ?_ ?_ ?_ ?_ ?_ ?_<;>simp -implicitDefEqProofs [d0,d1,d2,d3,d4,d5]
   ·rw [if_neg gu] at h3
    have gq:m / 86400=0:=by rw [Nat.div_eq_zero_iff];omega
    have gm:m%86400=m:=Nat.mod_eq_of_lt (by omega)
    rw [gq] at d0 d1 d4
    rw [gm] at d2 d3 d5
    have fin:=fin c1 s m hc1 h2 h3
    clear h3 WS WR
    rcases hc1 with rfl|rfl
    ·simp [ra1,wdl']
     refine onC_mk _ (UN) ?_
     simp -implicitDefEqProofs [d0,d1,d2,d3,d4,d5]
     refine onC_mk _ (UN) ?_
     simp -implicitDefEqProofs [d0,d1,d2,d3,d4,d5]
     refine fin _ ?_
     refine weak_mk ?_ ?_ ?_ ?_ ?_ ?_<;>simp -implicitDefEqProofs [d0,d1,d2,d3,d4,d5]
    ·simp [ra1,wdl']
     refine onC_mk _ (UN) ?_
     simp -implicitDefEqProofs [d0,d1,d2,d3,d4,d5]
     refine onC_mk _ (UN) ?_
     simp -implicitDefEqProofs [d0,d1,d2,d3,d4,d5]
     refine fin _ ?_
     refine weak_mk ?_ ?_ ?_ ?_ ?_ ?_<;>simp -implicitDefEqProofs [d0,d1,d2,d3,d4,d5]
  ·have UN:=sunit_spec 104
   rw [show unitZ 104=3600 from rfl] at UN
   rw [show unL.drop 2=(3600,104)::unL.drop 3 from rfl,spG] at h3
   have fin:=fun c' s' m' b0 b1 b2 σ' hσ=>hK (3,c',s',m') σ' ⟨by omega,b0,b1,b2⟩ (by simp only;omega) hσ
   clear hK ST RL RN
   have d0:(m:Int).tdiv 3600=((m / 3600:Nat):Int):=rfl
   have d1:IntKind.i64.wrap ((m:Int) / 3600)=((m / 3600:Nat):Int):=by rw [wrap_i64]<;>omega
   have d2:(m:Int).tmod 3600=((m%3600:Nat):Int):=rfl
   have d3:IntKind.i64.wrap ((m%3600:Nat):Int)=((m%3600:Nat):Int):=by rw [wrap_i64]<;>omega
   have d4:IntKind.i64.wrap ((m / 3600:Nat):Int)=((m / 3600:Nat):Int):=by rw [wrap_i64]<;>omega
   have d5:IntKind.i64.wrap ((m:Int)%3600)=((m%3600:Nat):Int):=by rw [wrap_i64]<;>omega
   have mb:m%3600≤253402300799:=by have:=Nat.mod_le m 3600;omega
   by_cases gu:3600≤m
   ·rw [if_pos gu] at h3
    have FI:=fmtI_spec (m / 3600) (by omega)
    have dl:=dec_len 19 (m / 3600) (by omega)
    have gq:0<m / 3600:=by omega
    have gq':(0:Int)<((m / 3600:Nat):Int):=by omega
    have W1:=fun d hd=>WS d hd c1 hc1 s (dec (m / 3600)) (by omega)
    have W2:=fun d hd=>WR d hd (s++dec (m / 3600)) 104 (by left;decide) (by decide) (by rw [List.length_append];omega)
    rw [show encN 104=[104] from rfl] at W2
    have fin:=fin (.ptr (.n 3) 0) (s++dec (m / 3600)++[104]) (m%3600) (.inr rfl) mb (by rw [←h3];simp)
    clear h3 WS WR hc1
    generalize dec (m / 3600)=D at *
    generalize m / 3600=q at *
    generalize m%3600=r at *
    simp -implicitDefEqProofs [ra2,wdl']
    refine onC_mk _ (UN) ?_
    simp -implicitDefEqProofs [gq,gq',d0,d1,d2,d3,d4,d5]
    refine onC_mk _ (FI) ?_
    simp -implicitDefEqProofs
    refine onH_mk _ _ (W1 _ rfl) ⟨?_,?_,?_,?_,?_,?_,?_⟩ ?_
    iterate 7 (· simp)
    simp -implicitDefEqProofs
    refine onH_mk _ _ (W2 _ rfl) ⟨?_,?_,?_,?_,?_,?_,?_⟩ ?_
    iterate 7 (· simp)
    simp -implicitDefEqProofs
    refine onC_mk _ (UN) ?_
    simp -implicitDefEqProofs [d0,d1,d2,d3,d4,d5]
    refine fin _ ?_
    refine weak_mk ?_ ?_ ?_ ?_ ?_ ?_<;>simp -implicitDefEqProofs [d0,d1,d2,d3,d4,d5]
   ·rw [if_neg gu] at h3
    have gq:m / 3600=0:=by rw [Nat.div_eq_zero_iff];omega
    have gm:m%3600=m:=Nat.mod_eq_of_lt (by omega)
    rw [gq] at d0 d1 d4
    rw [gm] at d2 d3 d5
    have fin:=fin c1 s m hc1 h2 h3
    clear h3 WS WR
    rcases hc1 with rfl|rfl
    ·simp [ra2,wdl']
     refine onC_mk _ (UN) ?_
     simp -implicitDefEqProofs [d0,d1,d2,d3,d4,d5]
     refine onC_mk _ (UN) ?_
     simp -implicitDefEqProofs [d0,d1,d2,d3,d4,d5]
     refine fin _ ?_
     refine weak_mk ?_ ?_ ?_ ?_ ?_ ?_<;>simp -implicitDefEqProofs [d0,d1,d2,d3,d4,d5]
    ·simp [ra2,wdl']
     refine onC_mk _ (UN) ?_
     simp -implicitDefEqProofs [d0,d1,d2,d3,d4,d5]
     refine onC_mk _ (UN) ?_
     simp -implicitDefEqProofs [d0,d1,d2,d3,d4,d5]
     refine fin _ ?_
     refine weak_mk ?_ ?_ ?_ ?_ ?_ ?_<;>simp -implicitDefEqProofs [d0,d1,d2,d3,d4,d5]
  ·have UN:=sunit_spec 109
   rw [show unitZ 109=60 from rfl] at UN
   rw [show unL.drop 3=(60,109)::unL.drop 4 from rfl,spG] at h3
   have fin:=fun c' s' m' b0 b1 b2 σ' hσ=>hK (4,c',s',m') σ' ⟨by omega,b0,b1,b2⟩ (by simp only;omega) hσ
   clear hK ST RL RN
   have d0:(m:Int).tdiv 60=((m / 60:Nat):Int):=rfl
   have d1:IntKind.i64.wrap ((m:Int) / 60)=((m / 60:Nat):Int):=by rw [wrap_i64]<;>omega
   have d2:(m:Int).tmod 60=((m%60:Nat):Int):=rfl
   have d3:IntKind.i64.wrap ((m%60:Nat):Int)=((m%60:Nat):Int):=by rw [wrap_i64]<;>omega
   have d4:IntKind.i64.wrap ((m / 60:Nat):Int)=((m / 60:Nat):Int):=by rw [wrap_i64]<;>omega
   have d5:IntKind.i64.wrap ((m:Int)%60)=((m%60:Nat):Int):=by rw [wrap_i64]<;>omega
   have mb:m%60≤253402300799:=by have:=Nat.mod_le m 60;omega
   by_cases gu:60≤m
   ·rw [if_pos gu] at h3
    have FI:=fmtI_spec (m / 60) (by omega)
    have dl:=dec_len 19 (m / 60) (by omega)
    have gq:0<m / 60:=by omega
    have gq':(0:Int)<((m / 60:Nat):Int):=by omega
    have W1:=fun d hd=>WS d hd c1 hc1 s (dec (m / 60)) (by omega)
    have W2:=fun d hd=>WR d hd (s++dec (m / 60)) 109 (by left;decide) (by decide) (by rw [List.length_append];omega)
    rw [show encN 109=[109] from rfl] at W2
    have fin:=fin (.ptr (.n 3) 0) (s++dec (m / 60)++[109]) (m%60) (.inr rfl) mb (by rw [←h3];simp)
    clear h3 WS WR hc1
    generalize dec (m / 60)=D at *
    generalize m / 60=q at *
    generalize m%60=r at *
    simp -implicitDefEqProofs [ra3,wdl']
    refine onC_mk _ (UN) ?_
    simp -implicitDefEqProofs [gq,gq',d0,d1,d2,d3,d4,d5]
    refine onC_mk _ (FI) ?_
    simp -implicitDefEqProofs
    refine onH_mk _ _ (W1 _ rfl) ⟨?_,?_,?_,?_,?_,?_,?_⟩ ?_
    iterate 7 (· simp)
    simp -implicitDefEqProofs
    refine onH_mk _ _ (W2 _ rfl) ⟨?_,?_,?_,?_,?_,?_,?_⟩ ?_
    iterate 7 (· simp)
    simp -implicitDefEqProofs
    refine onC_mk _ (UN) ?_
    simp -implicitDefEqProofs [d0,d1,d2,d3,d4,d5]
    refine fin _ ?_
    refine weak_mk ?_ ?_ ?_ ?_ ?_ ?_<;>simp -implicitDefEqProofs [d0,d1,d2,d3,d4,d5]
   ·rw [if_neg gu] at h3
    have gq:m / 60=0:=by rw [Nat.div_eq_zero_iff];omega
    have gm:m%60=m:=Nat.mod_eq_of_lt (by omega)
    rw [gq] at d0 d1 d4
    rw [gm] at d2 d3 d5
    have fin:=fin c1 s m hc1 h2 h3
    clear h3 WS WR
    rcases hc1 with rfl|rfl
    ·simp [ra3,wdl']
     refine onC_mk _ (UN) ?_
     simp -implicitDefEqProofs [d0,d1,d2,d3,d4,d5]
     refine onC_mk _ (UN) ?_
     simp -implicitDefEqProofs [d0,d1,d2,d3,d4,d5]
     refine fin _ ?_
     refine weak_mk ?_ ?_ ?_ ?_ ?_ ?_<;>simp -implicitDefEqProofs [d0,d1,d2,d3,d4,d5]
    ·simp [ra3,wdl']
     refine onC_mk _ (UN) ?_
     simp -implicitDefEqProofs [d0,d1,d2,d3,d4,d5]
     refine onC_mk _ (UN) ?_
     simp -implicitDefEqProofs [d0,d1,d2,d3,d4,d5]
     refine fin _ ?_
     refine weak_mk ?_ ?_ ?_ ?_ ?_ ?_<;>simp -implicitDefEqProofs [d0,d1,d2,d3,d4,d5]
  ·have UN:=sunit_spec 115
   rw [show unitZ 115=1 from rfl] at UN
   rw [show unL.drop 4=(1,115)::unL.drop 5 from rfl,spG] at h3
   have fin:=fun c' s' m' b0 b1 b2 σ' hσ=>hK (5,c',s',m') σ' ⟨by omega,b0,b1,b2⟩ (by simp only;omega) hσ
   clear hK ST RL RN
   have d0:(m:Int).tdiv 1=((m / 1:Nat):Int):=rfl
   have d1:IntKind.i64.wrap ((m:Int) / 1)=((m / 1:Nat):Int):=by rw [wrap_i64]<;>omega
   have d2:(m:Int).tmod 1=((m%1:Nat):Int):=rfl
   have d3:IntKind.i64.wrap ((m%1:Nat):Int)=((m%1:Nat):Int):=by rw [wrap_i64]<;>omega
   have d4:IntKind.i64.wrap ((m / 1:Nat):Int)=((m / 1:Nat):Int):=by rw [wrap_i64]<;>omega
   have d5:IntKind.i64.wrap ((m:Int)%1)=((m%1:Nat):Int):=by rw [wrap_i64]<;>omega
   have mb:m%1≤253402300799:=by have:=Nat.mod_le m 1;omega
   by_cases gu:1≤m
   ·rw [if_pos gu] at h3
    have FI:=fmtI_spec (m / 1) (by omega)
    have dl:=dec_len 19 (m / 1) (by omega)
    have gq:0<m / 1:=by omega
    have gq':(0:Int)<((m / 1:Nat):Int):=by omega
    have W1:=fun d hd=>WS d hd c1 hc1 s (dec (m / 1)) (by omega)
    have W2:=fun d hd=>WR d hd (s++dec (m / 1)) 115 (by left;decide) (by decide) (by rw [List.length_append];omega)
    rw [show encN 115=[115] from rfl] at W2
    have fin:=fin (.ptr (.n 3) 0) (s++dec (m / 1)++[115]) (m%1) (.inr rfl) mb (by rw [←h3];simp)
    clear h3 WS WR hc1
    generalize dec (m / 1)=D at *
    generalize m / 1=q at *
    generalize m%1=r at *
    simp -implicitDefEqProofs [ra4,wdl']
    refine onC_mk _ (UN) ?_
    simp -implicitDefEqProofs [gq,gq',d0,d1,d2,d3,d4,d5]
    refine onC_mk _ (FI) ?_
    simp -implicitDefEqProofs
    refine onH_mk _ _ (W1 _ rfl) ⟨?_,?_,?_,?_,?_,?_,?_⟩ ?_
    iterate 7 (· simp)
    simp -implicitDefEqProofs
    refine onH_mk _ _ (W2 _ rfl) ⟨?_,?_,?_,?_,?_,?_,?_⟩ ?_
    iterate 7 (· simp)
    simp -implicitDefEqProofs
    refine onC_mk _ (UN) ?_
    simp -implicitDefEqProofs [d0,d1,d2,d3,d4,d5]
    refine fin _ ?_
    refine weak_mk ?_ ?_ ?_ ?_ ?_ ?_<;>simp -implicitDefEqProofs [d0,d1,d2,d3,d4,d5]
   ·rw [if_neg gu] at h3
    have gq:m / 1=0:=by rw [Nat.div_eq_zero_iff];omega
    have gm:m%1=m:=Nat.mod_eq_of_lt (by omega)
    rw [gq] at d0 d1 d4
    rw [gm] at d2 d3 d5
    have fin:=fin c1 s m hc1 h2 h3
    clear h3 WS WR
    rcases hc1 with rfl|rfl
    ·simp [ra4,wdl']
     refine onC_mk _ (UN) ?_
     simp -implicitDefEqProofs [d0,d1,d2,d3,d4,d5]
     refine onC_mk _ (UN) ?_
     simp -implicitDefEqProofs [d0,d1,d2,d3,d4,d5]
     refine fin _ ?_
     refine weak_mk ?_ ?_ ?_ ?_ ?_ ?_<;>simp -implicitDefEqProofs [d0,d1,d2,d3,d4,d5]
    ·simp [ra4,wdl']
     refine onC_mk _ (UN) ?_
     simp -implicitDefEqProofs [d0,d1,d2,d3,d4,d5]
     refine onC_mk _ (UN) ?_
     simp -implicitDefEqProofs [d0,d1,d2,d3,d4,d5]
     refine fin _ ?_
     refine weak_mk ?_ ?_ ?_ ?_ ?_ ?_<;>simp -implicitDefEqProofs [d0,d1,d2,d3,d4,d5]
  ·rw [show unL.drop 5=[] from rfl,spG,List.append_nil] at h3
   subst h3
   have S1:=fun d hd=>ST d hd c1
   clear hK WS WR ST
   simp -implicitDefEqProofs [wdl']
   refine onH_mk _ _ (S1 _ rfl) ⟨?_,?_,?_,?_,?_,?_,?_⟩ ?_
   iterate 7 (· simp)
   simp -implicitDefEqProofs
 ·exact ⟨Nat.zero_le _,.inl rfl,hn,by rw [hR];rfl⟩
 ·refine weak_mk ?_ ?_ ?_ ?_ ?_ ?_<;>simp -implicitDefEqProofs [bn]
end Go.Ai
namespace Go.Ai
open Go.Proofs Go.Shelf
def ren_laysTrimR:Ren:={
 f:=fun x=>match x with
  |162=>127
  |232=>169
  |227=>170
  |234=>171
  |236=>172
  |228=>204
  |271=>205
  |151=>206
  |120=>226
  |197=>208
  |152=>219
  |260=>227
  |137=>238
  |119=>239
  |224=>230
  |225=>229
  |217=>228
  |266=>243
  |n=>n
 t:=fun x=>match x with
  |9=>9
  |4=>4
  |3=>3
  |5=>5
  |117=>214
  |116=>213
  |0=>0
  |124=>217
  |21=>21
  |105=>249
  |46=>173
  |119=>201
  |139=>204
  |138=>203
  |n=>n
 g:=fun x=>match x with
  |3=>0
  |4=>1
  |n=>n}
set_option maxRecDepth 100000 in
theorem laysTrimR:Lays.n162 Tryz.prog ren_laysTrimR where
 mixed:=by kernel_rfl
 f119:=Eq.trans Tryz.func239 (congrArg some (show Tryz.f239=Body.n119 ren_laysTrimR by kernel_rfl))
 f120:=Eq.trans Tryz.func226 (congrArg some (show Tryz.f226=Body.n120 ren_laysTrimR by kernel_rfl))
 f137:=Eq.trans Tryz.func238 (congrArg some (show Tryz.f238=Body.n137 ren_laysTrimR by kernel_rfl))
 f151:=Eq.trans Tryz.func206 (congrArg some (show Tryz.f206=Body.n151 ren_laysTrimR by kernel_rfl))
 f152:=Eq.trans Tryz.func219 (congrArg some (show Tryz.f219=Body.n152 ren_laysTrimR by kernel_rfl))
 f162:=Eq.trans Tryz.func127 (congrArg some (show Tryz.f127=Body.n162 ren_laysTrimR by kernel_rfl))
 f197:=Eq.trans Tryz.func208 (congrArg some (show Tryz.f208=Body.n197 ren_laysTrimR by kernel_rfl))
 f217:=Eq.trans Tryz.func228 (congrArg some (show Tryz.f228=Body.n217 ren_laysTrimR by kernel_rfl))
 f224:=Eq.trans Tryz.func230 (congrArg some (show Tryz.f230=Body.n224 ren_laysTrimR by kernel_rfl))
 f225:=Eq.trans Tryz.func229 (congrArg some (show Tryz.f229=Body.n225 ren_laysTrimR by kernel_rfl))
 f227:=Eq.trans Tryz.func170 (congrArg some (show Tryz.f170=Body.n227 ren_laysTrimR by kernel_rfl))
 f228:=Eq.trans Tryz.func204 (congrArg some (show Tryz.f204=Body.n228 ren_laysTrimR by kernel_rfl))
 f232:=Eq.trans Tryz.func169 (congrArg some (show Tryz.f169=Body.n232 ren_laysTrimR by kernel_rfl))
 f234:=Eq.trans Tryz.func171 (congrArg some (show Tryz.f171=Body.n234 ren_laysTrimR by kernel_rfl))
 f236:=Eq.trans Tryz.func172 (congrArg some (show Tryz.f172=Body.n236 ren_laysTrimR by kernel_rfl))
 f260:=Eq.trans Tryz.func227 (congrArg some (show Tryz.f227=Body.n260 ren_laysTrimR by kernel_rfl))
 f266:=Eq.trans Tryz.func243 (congrArg some (show Tryz.f243=Body.n266 ren_laysTrimR by kernel_rfl))
 f271:=Eq.trans Tryz.func205 (congrArg some (show Tryz.f205=Body.n271 ren_laysTrimR by kernel_rfl))
 t0:=Tryz.underlying0
 a0:=Tryz.isAgg0
 z0:=Tryz.sizeOf0
 v0:=Tryz.zeroValue0
 t3:=Tryz.underlying3
 a3:=Tryz.isAgg3
 z3:=Tryz.sizeOf3
 v3:=Tryz.zeroValue3
 t4:=Tryz.underlying4
 a4:=Tryz.isAgg4
 z4:=Tryz.sizeOf4
 v4:=Tryz.zeroValue4
 t5:=Tryz.underlying5
 a5:=Tryz.isAgg5
 z5:=Tryz.sizeOf5
 v5:=Tryz.zeroValue5
 t9:=Tryz.underlying9
 a9:=Tryz.isAgg9
 z9:=Tryz.sizeOf9
 v9:=Tryz.zeroValue9
 t21:=Tryz.underlying21
 a21:=Tryz.isAgg21
 z21:=Tryz.sizeOf21
 v21:=Tryz.zeroValue21
 t46:=Tryz.underlying173
 a46:=Tryz.isAgg173
 z46:=Tryz.sizeOf173
 v46:=Tryz.zeroValue173
 t105:=Tryz.underlying249
 a105:=Tryz.isAgg249
 z105:=Tryz.sizeOf249
 v105:=Tryz.zeroValue249
 t116:=Tryz.underlying213
 a116:=Tryz.isAgg213
 z116:=Tryz.sizeOf213
 t117:=Tryz.underlying214
 a117:=Tryz.isAgg214
 z117:=Tryz.sizeOf214
 v117:=Tryz.zeroValue214
 t119:=Tryz.underlying201
 a119:=Tryz.isAgg201
 z119:=Tryz.sizeOf201
 t124:=Tryz.underlying217
 a124:=Tryz.isAgg217
 z124:=Tryz.sizeOf217
 v124:=Tryz.zeroValue217
 t138:=Tryz.underlying203
 a138:=Tryz.isAgg203
 z138:=Tryz.sizeOf203
 v138:=Tryz.zeroValue203
 t139:=Tryz.underlying204
 a139:=Tryz.isAgg204
 z139:=Tryz.sizeOf204
 v139:=Tryz.zeroValue204
 g3:=by kernel_rfl
 g4:=by kernel_rfl
open Go.Proofs
def hxD (r:Nat):UInt8:=if r<10 then UInt8.ofNat (48+r) else UInt8.ofNat (87+r)
def hxL (r:Nat):List UInt8:=if r<16 then [hxD r] else [hxD (r / 16),hxD (r%16)]
def esR (r:Nat):List UInt8:=if r=34 then [92,34] else if r=92 then [92,92] else if r=10 then [92,110] else if r=9 then [92,116] else if r<32∨r=127 then [92,117,123]++(hxL r++[125]) else encN r
def esL:List Int→List UInt8
 |[]=>[]
 |r::l=>esR r.toNat++esL l
def quL (l:List Int):List UInt8:=34::(esL l++[34])
theorem hxL_len (r:Nat):(hxL r).length≤2:=by unfold hxL;split<;>simp
theorem esR_len (r:Nat):(esR r).length≤6:=by
 have h1:=hxL_len r
 have h2:=(encN_len r).1
 unfold esR
 repeat' split
 all_goals first|omega|(simp;omega)|simp
theorem esL_len: ∀l:List Int,(esL l).length≤6*l.length
 |[]=>by simp [esL]
 |r::l=>by
  have h1:=esL_len l
  have h2:=esR_len r.toNat
  simp only [esL,List.length_append,List.length_cons]
  omega
open Go.Proofs
end Go.Ai
namespace Go.Ai
open Go.Proofs
def fcP (n:Nat):List UInt8:=dec (n / 1000)++(46::(UInt8.ofNat (48+n%1000 / 100)::frc 10 2 (n%1000%100)))
def tkP (k:Int) (s:List UInt8) (n:Nat):List UInt8:=
 if tkR k s n=false then [63]
 else if k=1 then s
 else if k=2 then quL (runesL s 0)
 else if k=3 then dec n
 else if k=4 then fcP n
 else if k=5 then shP n
 else if k=6 then spP n
 else if k=7 then [123]
 else if k=8 then [125]
 else if k=9 then [59]
 else []
open Go.Proofs
end Go.Ai
