/- P12: a part of the proof: the rules, or what functions compute. Conditions: as each theorem says. -/
import Derived.Test.YthonkjadcpdphaaGreatDoorP11
import Derived.Test.YthonkjadcpdphaaGreatDoorP8
import Derived.Test.YthonkjadcpdphaaGreatDoorP4
import Derived.Test.YthonkjadcpdphaaGreatDoorP9
import Derived.Test.YthonkjadcpdphaaGreatDoorP1
import Derived.Test.YthonkjadcpdphaaGreatDoorAiRune
set_option linter.unusedSimpArgs false
set_option linter.unusedVariables false
set_option maxRecDepth 20000
namespace Go.Ai
open Go.Proofs
def vK (a:Nat) (tl:List UInt8):Nat→Nat
 |0=>a
 |k+1=>10*vK a tl k+dgt tl k
theorem vK_four (a:Nat) (tl:List UInt8):vK a tl 4=a*10000+frU tl 4:=by
 simp only [vK,frU]
 omega
theorem vK_lt (a:Nat) (tl:List UInt8) (ha:a<1000) (h: ∀i,dgt tl i≤9): ∀k,k≤4→vK a tl k<10000000:=by
 have a0:vK a tl 0<1000:=ha
 have a1:vK a tl 1<10000:=by
  have:=h 0
  rw [vK]
  omega
 have a2:vK a tl 2<100000:=by
  have:=h 1
  rw [vK]
  omega
 have a3:vK a tl 3<1000000:=by
  have:=h 2
  rw [vK]
  omega
 have a4:vK a tl 4<10000000:=by
  have:=h 3
  rw [vK]
  omega
 intro k hk
 obtain rfl|rfl|rfl|rfl|rfl:k=0∨k=1∨k=2∨k=3∨k=4:=by omega
 all_goals omega
theorem twB_ne (c:UInt8): ∀(s:List UInt8) (j:Nat),j<(s.takeWhile (notB c)).length→ ∀h:j<s.length,s[j]≠c
 |[],j,h,h2=>absurd h2 (by simp)
 |b::s,j,h,h2=>by
  rw [List.takeWhile_cons] at h
  split at h
  ·rename_i e
   cases j with
   |zero=>
    simp only [List.getElem_cons_zero]
    intro e2
    rw [e2] at e
    simp [notB] at e
   |succ j=>
    simp only [List.getElem_cons_succ]
    exact twB_ne c s j (by simpa using h) (by simpa using h2)
  ·simp at h
theorem twB_at (c:UInt8): ∀(s:List UInt8) (h:(s.takeWhile (notB c)).length<s.length),s[(s.takeWhile (notB c)).length]=c
 |[],h=>absurd h (by simp)
 |b::s,h=>by
  by_cases e:notB c b=true
  ·have e1:((b::s).takeWhile (notB c))=b::s.takeWhile (notB c):=by rw [List.takeWhile_cons,if_pos e]
   have h2:(s.takeWhile (notB c)).length<s.length:=by rw [e1] at h;simpa using h
   have:=twB_at c s h2
   simp only [e1,List.length_cons,List.getElem_cons_succ]
   exact this
  ·have e1:((b::s).takeWhile (notB c))=[]:=by rw [List.takeWhile_cons,if_neg e]
   simp only [e1,List.length_nil,List.getElem_cons_zero]
   simp [notB] at e
   exact e
def dotN (m d i:Nat):Nat:=if i≤d then m else d
theorem byt_in {s:List UInt8} {i:Nat} (h:i<s.length):(s[i].toNat:Int)=(byt s i:Nat):=by rw [byt_at h]
set_option maxHeartbeats 1000000 in
theorem rppread_spec (s:List UInt8) (hl:s.length≤1000000):Sp Tryz.prog gl 70 [.str s] (.tup [.int .u32 (pprF s).1,i6 (pprF s).2]):=by
 refine s70 rfl rfl ?_
 unfold pprF
 by_cases h2:s.length<2
 ·have h2':(s.length:Int)<2:=by omega
  rw [if_pos (.inl h2)]
  simp -implicitDefEqProofs [c70,h2,h2']
 have h2': ¬(s.length:Int)<2:=by omega
 obtain ⟨k,m,hk,hm⟩: ∃k m,s.length=k+2∧m=k+1:=⟨s.length - 2,s.length - 1,by omega,by omega⟩
 have W1:IntKind.i64.wrap ((s.length:Int) - 1)=(m:Int):=by rw [wrap_i64]<;>omega
 have W2:IntKind.i64.wrap ((s.length:Int) - 2)=(k:Int):=by rw [wrap_i64]<;>omega
 have g1:m<s.length:=by omega
 have g2:k<s.length:=by omega
 have g0:0<s.length:=by omega
 have e1:s.length - 1=m:=by omega
 rw [e1]
 by_cases h37:byt s (m)=37
 rotate_left
 ·have n1:((s[m].toNat:Int)!=37)=true:=by rw [bne_iff_ne,byt_in g1];omega
  rw [if_pos (.inr h37)]
  simp -implicitDefEqProofs [c70,h2,h2',W1,g1,n1]
 have n1:(s[m].toNat:Int)=37:=by rw [byt_in g1,h37];rfl
 rw [if_neg (by rintro (h|h);exact h2 h;exact h h37)]
 have bl:(s.take (m)).length=m:=by rw [List.length_take];omega
 have bat: ∀i (h:i<(s.take (m)).length) (h':i<s.length),(s.take (m))[i]=s[i]:=fun i h h'=>List.getElem_take
 have tne:=twB_ne 46 (s.take (m))
 have tat:=twB_at 46 (s.take (m))
 have tle:=takeB_len (s.take (m)) 46
 generalize hd:((s.take (m)).takeWhile (notB 46)).length=d at *
 clear hd
 have tne': ∀j,j<d→ ∀h:j<s.length,((s[j].toNat:Int)==46)=false:=fun j hj h=>by
  rw [beq_eq_false_iff_ne]
  intro e
  have hb:j<(s.take (m)).length:=by omega
  refine tne j hj hb ?_
  rw [bat j hb h]
  exact UInt8.toNat_inj.1 (by show s[j].toNat=46;omega)
 have tat': ∀(h:d<m) (h':d<s.length),(s[d].toNat:Int)=46:=fun h h'=>by
  have hb:d<(s.take (m)).length:=by omega
  have:=tat hb
  rw [bat d hb h'] at this
  rw [this]
  rfl
 clear tne tat
 obtain ⟨R,hR⟩: ∃R,R=pprB s (s.take (m)) d:=⟨_,rfl⟩
 rw [←hR]
 have bad: ∀i,i<m→i≠d→ ∀h:i<s.length,isDig s[i]=false→R=(0,5):=fun i h1 h2 h3 h4=>by
  rw [hR]
  unfold pprB
  rw [if_pos]
  have hb:i<(s.take (m)).length:=by omega
  rcases Nat.lt_or_ge i d with h|h
  ·left
   rw [List.all_eq_false]
   refine ⟨s[i],?_,by rw [h4];simp⟩
   rw [List.mem_take_iff_getElem]
   exact ⟨i,by omega,bat i hb h3⟩
  ·right
   rw [List.all_eq_false]
   refine ⟨s[i],?_,by rw [h4];simp⟩
   rw [List.mem_drop_iff_getElem]
   exact ⟨i - (d+1),by omega,by rw [←bat i hb h3];congr 1;omega⟩
 simp -implicitDefEqProofs [c70,h2,h2',W1,g1,n1]
 refine wp_lpk (α:=Nat) (fun i=>⟨[(0,.str s),(4,i6 s.length),(5,i6 (dotN m d i)),(6,i6 i)],[],[]⟩)
  (fun i=>i≤m∧ ∀j,j<i→j≠d→ ∀h:j<s.length,isDig s[j]=true) (fun i=>m - i) ?_ 0 ?_ ?_
 ·rintro K i hK ⟨h1,h3⟩
  by_cases g:i<m
  ·have g':(i:Int)<m:=by omega
   have gi:i<s.length:=by omega
   have t1:IntKind.i64.wrap ((i:Int)+1)=(i+1:Nat):=by rw [wrap_i64]<;>omega
   have lt:=s[i].toNat_lt
   have fin:(i≠d→isDig s[i]=true)→ ∀σ',Weak σ' ⟨[(0,.str s),(4,i6 s.length),(5,i6 (dotN m d (i+1))),(6,i6 (i+1:Nat))],[],[]⟩→K σ':=fun hh σ' hσ=>
    hK (i+1) σ' ⟨g,fun j hj hjd hjs=>by
     by_cases e:j=i
     ·subst e;exact hh hjd
     ·exact h3 j (by omega) hjd hjs⟩ (by omega) hσ
   have bad:=bad i g
   clear hK hR
   by_cases c:i=d
   ·subst c
    have t46:=tat' g gi
    have fin:=fin (fun h=>absurd rfl h)
    rw [show dotN m i (i+1)=i from if_neg (by omega)] at fin
    rw [show dotN m i i=m from if_pos (Nat.le_refl _)]
    clear bad h3 tne' tat'
    simp -implicitDefEqProofs [g,g',gi,t46,W1]
    refine fin _ ?_
    refine weak_mk ?_ ?_ ?_ ?_ ?_ ?_<;>simp -implicitDefEqProofs [t1]
   ·have bad:=bad c gi
    have nd:(s[i].toNat:Int)=46→((dotN m d i:Nat):Int)=m→False:=by
     intro q1 q2
     unfold dotN at q2
     by_cases c2:i<d
     ·have:=tne' i c2 gi
      rw [beq_eq_false_iff_ne] at this
      exact this q1
     ·rw [if_neg (by omega)] at q2
      omega
    have e5:dotN m d (i+1)=dotN m d i:=by
     unfold dotN
     by_cases c2:i<d
     ·rw [if_pos (by omega),if_pos (by omega)]
     ·rw [if_neg (by omega),if_neg (by omega)]
    rw [e5] at fin
    clear tne' tat' e5
    generalize dotN m d i=D at *
    cases hdg:isDig s[i]
    ·have bad:=bad hdg
     subst bad
     clear fin h3
     unfold isDig at hdg
     rw [decide_eq_false_iff_not] at hdg
     by_cases q1:(s[i].toNat:Int)=46
     ·have q2:((D:Int)==m)=false:=beq_eq_false_iff_ne.2 (nd q1)
      simp -implicitDefEqProofs [g,g',gi,q1,q2,W1]
     ·have q1':((s[i].toNat:Int)==46)=false:=beq_eq_false_iff_ne.2 q1
      by_cases q3:(s[i].toNat:Int)<48
      ·simp [g,g',gi,q1',q3,W1]
      ·have q4:(57:Int)<s[i].toNat:=by omega
       simp -implicitDefEqProofs [g,g',gi,q1',q3,q4,W1]
    ·have fin:=fin (fun _=>hdg)
     have hq:=(isDig_iff _).1 hdg
     have q1':((s[i].toNat:Int)==46)=false:=beq_eq_false_iff_ne.2 (by omega)
     have q3: ¬(s[i].toNat:Int)<48:=by omega
     have q4: ¬(57:Int)<s[i].toNat:=by omega
     clear bad h3 hdg nd
     simp -implicitDefEqProofs [g,g',gi,q1',q3,q4,W1]
     refine fin _ ?_
     refine weak_mk ?_ ?_ ?_ ?_ ?_ ?_<;>simp -implicitDefEqProofs [t1]
  ·obtain rfl:i=m:=by omega
   have g': ¬(i:Int)<i:=by omega
   have hD:dotN i d i=d:=by unfold dotN;split<;>omega
   rw [hD]
   clear hK tne' tat' bad
   have D1:((s.take i).take d).all isDig=true:=by
    rw [List.all_eq_true]
    intro x hx
    obtain ⟨j,hj,rfl⟩:=List.mem_take_iff_getElem.1 hx
    rw [bat j (by omega) (by omega)]
    exact h3 j (by omega) (by omega) _
   have D2:((s.take i).drop (d+1)).all isDig=true:=by
    rw [List.all_eq_true]
    intro x hx
    obtain ⟨j,hj,rfl⟩:=List.mem_drop_iff_getElem.1 hx
    rw [bat _ (by omega) (by omega)]
    exact h3 _ (by omega) (by omega) _
   unfold pprB at hR
   rw [D1,D2,if_neg (by rintro (h|h)<;>cases h),bl,show i - 1=k by omega] at hR
   obtain ⟨z,hz⟩: ∃z:Int,z=(k:Int) - d:=⟨_,rfl⟩
   have W3:IntKind.i64.wrap ((k:Int) - (d:Int))=z:=by rw [hz,wrap_i64]<;>omega
   have z1:k - d<1↔z<1:=by omega
   have z4:4<k - d↔(4:Int)<z:=by omega
   have s48:byt s k=48↔(s[k].toNat:Int)=48:=by rw [byt_in g2];omega
   have t48:byt s 0=48↔(s[0].toNat:Int)=48:=by rw [byt_in g0];omega
   clear n1 h37
   by_cases A:(d<i∧(k - d<1∨4<k - d∨byt s k=48))
   ·rw [if_pos (Or.inl A)] at hR
    subst hR
    obtain ⟨dm,A⟩:=A
    rw [z1,z4,s48] at A
    have dm':(d:Int)<i:=by omega
    by_cases a1:z<1
    ·simp [g',W1,W2,W3,dm,dm',a1]
    ·by_cases a2:(4:Int)<z
     ·simp [g',W1,W2,W3,dm,dm',a1,a2]
     ·have a3:(s[k].toNat:Int)=48:=by
       rcases A with h|h|h
       ·exact absurd h a1
       ·exact absurd h a2
       ·exact h
      simp -implicitDefEqProofs [g',W1,W2,W3,dm,dm',a1,a2,a3,g2]
   have a1:d<i→ ¬z<1:=fun dm h=>A ⟨dm,.inl (z1.2 h)⟩
   have a2:d<i→ ¬(4:Int)<z:=fun dm h=>A ⟨dm,.inr (.inl (z4.2 h))⟩
   have a3:d<i→((s[k].toNat:Int)==48)=false:=fun dm=>beq_eq_false_iff_ne.2 (fun h=>A ⟨dm,.inr (.inr (s48.2 h))⟩)
   by_cases B:d=0
   ·rw [if_pos (Or.inr (Or.inl B))] at hR
    subst hR
    have B0:((d:Int)==0)=true:=by rw [beq_iff_eq];omega
    have B1:(d:Int)=0:=by omega
    have dm:d<i:=by omega
    have dm':(d:Int)<i:=by omega
    have a1:=a1 dm
    have a2:=a2 dm
    have a3:=a3 dm
    simp -implicitDefEqProofs [g',W1,W2,W3,dm,dm',a1,a2,a3,g2,B0]
   have B':((d:Int)==0)=false:=beq_eq_false_iff_ne.2 (by omega)
   by_cases C:(byt s 0=48∧1<d)
   ·rw [if_pos (Or.inr (Or.inr C))] at hR
    subst hR
    have c1:=t48.1 C.1
    have c2:(1:Int)<d:=by omega
    have c2':=C.2
    by_cases dm:d<i
    ·have dm':(d:Int)<i:=by omega
     have a1:=a1 dm
     have a2:=a2 dm
     have a3:=a3 dm
     simp -implicitDefEqProofs [g',W1,W2,W3,dm,dm',a1,a2,a3,g2,B',B,g0,c1,c2,c2']
    ·have dm': ¬(d:Int)<i:=by omega
     simp -implicitDefEqProofs [g',W1,W2,W3,dm,dm',B',B,g0,c1,c2,c2']
   rw [if_neg (by rintro (h|h|h);exact A h;exact B h;exact C h)] at hR
   have D3':(3:Int)<d↔3<d:=by omega
   by_cases D3:3<d
   ·rw [if_pos D3] at hR
    subst hR
    have d3:=D3'.2 D3
    by_cases dm:d<i
    ·have dm':(d:Int)<i:=by omega
     have a1:=a1 dm
     have a2:=a2 dm
     have a3:=a3 dm
     by_cases C1:(s[0].toNat:Int)=48
     ·exact absurd ⟨t48.2 C1,by omega⟩ C
     ·have C1':((s[0].toNat:Int)==48)=false:=beq_eq_false_iff_ne.2 C1
      simp -implicitDefEqProofs [g',W1,W2,W3,dm,dm',a1,a2,a3,g2,B',B,g0,C1',D3,d3]
    ·have dm': ¬(d:Int)<i:=by omega
     by_cases C1:(s[0].toNat:Int)=48
     ·exact absurd ⟨t48.2 C1,by omega⟩ C
     ·have C1':((s[0].toNat:Int)==48)=false:=beq_eq_false_iff_ne.2 C1
      simp -implicitDefEqProofs [g',W1,W2,W3,dm,dm',B',B,g0,C1',D3,d3]
   rw [if_neg D3] at hR
   have d3: ¬(3:Int)<d:=by omega
   have V9: ∀j,dgt ((s.take i).drop (d+1)) j≤9:=fun j=>by
    by_cases gj:j<((s.take i).drop (d+1)).length
    ·rw [dgt_in gj]
     have:=(isDig_iff _).1 (List.all_eq_true.1 D2 _ (List.getElem_mem gj))
     omega
    ·rw [dgt_out gj]
     omega
   have V4:True:=trivial
   have f1: ∀q,q≤d→frU (s.take i) q<10^q:=fun q hq=>by
    rw [frU_undec (s.take i) q (by omega)]
    have:=undec_lt ((s.take i).take q) (by
     rw [List.all_eq_true]
     intro x hx
     obtain ⟨j,hj,rfl⟩:=List.mem_take_iff_getElem.1 hx
     rw [bat j (by omega) (by omega)]
     exact h3 j (by omega) (by omega) _)
    rw [show ((s.take i).take q).length=q by rw [List.length_take];omega] at this
    exact this
   have Cx:((s[0].toNat:Int)==48∧ ¬1<d∧ ¬(1:Int)<d)∨((s[0].toNat:Int)==48)=false:=by
    cases h:((s[0].toNat:Int)==48)
    ·exact .inr rfl
    ·refine .inl ⟨rfl,?_,?_⟩
     ·intro h2;exact C ⟨t48.2 (by simpa using h),h2⟩
     ·intro h2;exact C ⟨t48.2 (by simpa using h),by omega⟩
   by_cases dm:d<i
   ·have dm':(d:Int)<i:=by omega
    have a1:=a1 dm
    have a2:=a2 dm
    have a3:=a3 dm
    rcases Cx with ⟨C1,C2,C3⟩|C1
    ·simp [g',W1,W2,W3,dm,dm',a1,a2,a3,g2,B',B,g0,C1,C2,C3,D3,d3]
     refine wp_lpk (α:=Nat) (fun q=>⟨[(0,.str s),(4,i6 s.length),(5,i6 d),(8,.int .u32 (frU (s.take i) q)),(9,i6 q)],[],[]⟩) (fun q=>q≤d) (fun q=>d - q) ?_ 0 (Nat.zero_le _) ?_
     ·rintro K q hK q1
      by_cases gq:q<d
      ·have gq':(q:Int)<d:=by omega
       have gs:q<s.length:=by omega
       have t1:IntKind.i64.wrap ((q:Int)+1)=(q+1:Nat):=by rw [wrap_i64]<;>omega
       have dq:=(isDig_iff _).1 (h3 q (by omega) (by omega) gs)
       have fq:frU (s.take i) (q+1)=10*frU (s.take i) q+(s[q].toNat - 48):=by
        rw [frU,dgt_in (show q<(s.take i).length by omega),bat q (by omega) gs]
       have fl:=f1 q (by omega)
       have p10:(10:Nat)^q≤1000:=by
        obtain rfl|rfl|rfl:q=0∨q=1∨q=2:=by omega
        all_goals decide
       have fin:=fun σ' hσ=>hK (q+1) σ' gq (by omega) hσ
       rw [fq] at fin
       have fl2:frU (s.take i) q<1000:=Nat.lt_of_lt_of_le fl p10
       generalize frU (s.take i) q=v at *
       have w1:IntKind.u32.wrap (10*(v:Int))=10*(v:Int):=by rw [wrap_u32]<;>omega
       have w2:IntKind.u32.wrap (s[q].toNat:Int)=(s[q].toNat:Int):=by rw [wrap_u32]<;>omega
       have w3:IntKind.u32.wrap (10*(v:Int)+(s[q].toNat:Int))=10*(v:Int)+(s[q].toNat:Int):=by rw [wrap_u32]<;>omega
       have w4:IntKind.u32.wrap (10*(v:Int)+(s[q].toNat:Int) - 48)=((10*v+(s[q].toNat - 48):Nat):Int):=by rw [wrap_u32]<;>omega
       clear hK h3 bat fl p10 fq D1 D2 f1 V9 V4 hR
       simp -implicitDefEqProofs [gq,gq',gs,w1,w2,w3]
       refine fin _ ?_
       refine weak_mk ?_ ?_ ?_ ?_ ?_ ?_<;>simp -implicitDefEqProofs [t1,w1,w2,w3,w4]
      ·obtain rfl:q=d:=by omega
       clear hK
       have gq': ¬(q:Int)<q:=by omega
       have fl:frU (s.take i) q<1000:=by
        refine Nat.lt_of_lt_of_le (f1 q (Nat.le_refl _)) ?_
        obtain rfl|rfl|rfl|rfl:q=0∨q=1∨q=2∨q=3:=by omega
        all_goals decide
       unfold pprV at hR
       rw [←vK_four] at hR
       have vb:=vK_lt (frU (s.take i) q) ((s.take i).drop (q+1)) fl V9
       generalize frU (s.take i) q=a at *
       simp -implicitDefEqProofs [gq']
       refine wp_lpk (α:=Nat) (fun y=>⟨[(0,.str s),(4,i6 s.length),(5,i6 q),(8,.int .u32 (vK a ((s.take i).drop (q+1)) y)),(10,i6 y)],[],[]⟩) (fun y=>y≤4) (fun y=>4 - y) ?_ 0 (Nat.zero_le _) ?_
       ·rintro K y hK y1
        by_cases gy:y<4
        ·have gy':(y:Int)<4:=by omega
         have t1:IntKind.i64.wrap ((y:Int)+1)=(y+1:Nat):=by rw [wrap_i64]<;>omega
         have t2:IntKind.i64.wrap ((q:Int)+1)=(q:Int)+1:=by rw [wrap_i64]<;>omega
         obtain ⟨p,hp⟩: ∃p,p=q+1+y:=⟨_,rfl⟩
         have t3:IntKind.i64.wrap ((q:Int)+1+(y:Int))=(p:Nat):=by rw [wrap_i64]<;>omega
         have fin:=fun σ' hσ=>hK (y+1) σ' gy (by omega) hσ
         have vl:=vb y (by omega)
         rw [vK] at fin
         generalize vK a ((s.take i).drop (q+1)) y=v at *
         have w1:IntKind.u32.wrap (10*(v:Int))=10*(v:Int):=by rw [wrap_u32]<;>omega
         by_cases gp:p<i
         ·have gp':(p:Int)<i:=by omega
          have gs:p<s.length:=by omega
          have dq:=(isDig_iff _).1 (h3 p gp (by omega) gs)
          have dg:dgt ((s.take i).drop (q+1)) y=s[p].toNat - 48:=by
           rw [dgt_in (by rw [List.length_drop];omega),List.getElem_drop,bat _ (by omega) (by omega)]
           simp only [hp]
          rw [dg] at fin
          have w2:IntKind.u32.wrap (s[p].toNat:Int)=(s[p].toNat:Int):=by rw [wrap_u32]<;>omega
          have w3:IntKind.u32.wrap (10*(v:Int)+(s[p].toNat:Int))=10*(v:Int)+(s[p].toNat:Int):=by rw [wrap_u32]<;>omega
          have w4:IntKind.u32.wrap (10*(v:Int)+(s[p].toNat:Int) - 48)=((10*v+(s[p].toNat - 48):Nat):Int):=by rw [wrap_u32]<;>omega
          clear hK h3 bat hp dg D1 D2 f1 V9 V4 hR vb
          simp -implicitDefEqProofs [gy,gy',gs,gp,gp',t2,t3,W1,w1,w2,w3]
          refine fin _ ?_
          refine weak_mk ?_ ?_ ?_ ?_ ?_ ?_<;>simp -implicitDefEqProofs [t1,w1,w2,w3,w4]
         ·have gp': ¬(p:Int)<i:=by omega
          rw [dgt_out (by rw [List.length_drop];omega),Nat.add_zero] at fin
          clear hK h3 bat hp D1 D2 f1 V9 V4 hR vb
          simp -implicitDefEqProofs [gy,gy',gp,gp',t2,t3,W1,w1]
          refine fin _ ?_
          refine weak_mk ?_ ?_ ?_ ?_ ?_ ?_<;>simp -implicitDefEqProofs [t1,w1]
        ·obtain rfl:y=4:=by omega
         clear hK
         generalize vK a ((s.take i).drop (q+1)) 4=v at *
         by_cases cv:1000000<v
         ·have cv':(1000000:Int)<v:=by omega
          rw [if_pos cv] at hR
          subst hR
          simp -implicitDefEqProofs [cv,cv']
         ·have cv': ¬(1000000:Int)<v:=by omega
          rw [if_neg cv] at hR
          subst hR
          simp -implicitDefEqProofs [cv,cv']
       ·refine weak_mk ?_ ?_ ?_ ?_ ?_ ?_<;>simp -implicitDefEqProofs [vK]
     ·refine weak_mk ?_ ?_ ?_ ?_ ?_ ?_<;>simp -implicitDefEqProofs [frU]
    ·simp [g',W1,W2,W3,dm,dm',a1,a2,a3,g2,B',B,g0,C1,D3,d3]
     refine wp_lpk (α:=Nat) (fun q=>⟨[(0,.str s),(4,i6 s.length),(5,i6 d),(8,.int .u32 (frU (s.take i) q)),(9,i6 q)],[],[]⟩) (fun q=>q≤d) (fun q=>d - q) ?_ 0 (Nat.zero_le _) ?_
     ·rintro K q hK q1
      by_cases gq:q<d
      ·have gq':(q:Int)<d:=by omega
       have gs:q<s.length:=by omega
       have t1:IntKind.i64.wrap ((q:Int)+1)=(q+1:Nat):=by rw [wrap_i64]<;>omega
       have dq:=(isDig_iff _).1 (h3 q (by omega) (by omega) gs)
       have fq:frU (s.take i) (q+1)=10*frU (s.take i) q+(s[q].toNat - 48):=by
        rw [frU,dgt_in (show q<(s.take i).length by omega),bat q (by omega) gs]
       have fl:=f1 q (by omega)
       have p10:(10:Nat)^q≤1000:=by
        obtain rfl|rfl|rfl:q=0∨q=1∨q=2:=by omega
        all_goals decide
       have fin:=fun σ' hσ=>hK (q+1) σ' gq (by omega) hσ
       rw [fq] at fin
       have fl2:frU (s.take i) q<1000:=Nat.lt_of_lt_of_le fl p10
       generalize frU (s.take i) q=v at *
       have w1:IntKind.u32.wrap (10*(v:Int))=10*(v:Int):=by rw [wrap_u32]<;>omega
       have w2:IntKind.u32.wrap (s[q].toNat:Int)=(s[q].toNat:Int):=by rw [wrap_u32]<;>omega
       have w3:IntKind.u32.wrap (10*(v:Int)+(s[q].toNat:Int))=10*(v:Int)+(s[q].toNat:Int):=by rw [wrap_u32]<;>omega
       have w4:IntKind.u32.wrap (10*(v:Int)+(s[q].toNat:Int) - 48)=((10*v+(s[q].toNat - 48):Nat):Int):=by rw [wrap_u32]<;>omega
       clear hK h3 bat fl p10 fq D1 D2 f1 V9 V4 hR
       simp -implicitDefEqProofs [gq,gq',gs,w1,w2,w3]
       refine fin _ ?_
       refine weak_mk ?_ ?_ ?_ ?_ ?_ ?_<;>simp -implicitDefEqProofs [t1,w1,w2,w3,w4]
      ·obtain rfl:q=d:=by omega
       clear hK
       have gq': ¬(q:Int)<q:=by omega
       have fl:frU (s.take i) q<1000:=by
        refine Nat.lt_of_lt_of_le (f1 q (Nat.le_refl _)) ?_
        obtain rfl|rfl|rfl|rfl:q=0∨q=1∨q=2∨q=3:=by omega
        all_goals decide
       unfold pprV at hR
       rw [←vK_four] at hR
       have vb:=vK_lt (frU (s.take i) q) ((s.take i).drop (q+1)) fl V9
       generalize frU (s.take i) q=a at *
       simp -implicitDefEqProofs [gq']
       refine wp_lpk (α:=Nat) (fun y=>⟨[(0,.str s),(4,i6 s.length),(5,i6 q),(8,.int .u32 (vK a ((s.take i).drop (q+1)) y)),(10,i6 y)],[],[]⟩) (fun y=>y≤4) (fun y=>4 - y) ?_ 0 (Nat.zero_le _) ?_
       ·rintro K y hK y1
        by_cases gy:y<4
        ·have gy':(y:Int)<4:=by omega
         have t1:IntKind.i64.wrap ((y:Int)+1)=(y+1:Nat):=by rw [wrap_i64]<;>omega
         have t2:IntKind.i64.wrap ((q:Int)+1)=(q:Int)+1:=by rw [wrap_i64]<;>omega
         obtain ⟨p,hp⟩: ∃p,p=q+1+y:=⟨_,rfl⟩
         have t3:IntKind.i64.wrap ((q:Int)+1+(y:Int))=(p:Nat):=by rw [wrap_i64]<;>omega
         have fin:=fun σ' hσ=>hK (y+1) σ' gy (by omega) hσ
         have vl:=vb y (by omega)
         rw [vK] at fin
         generalize vK a ((s.take i).drop (q+1)) y=v at *
         have w1:IntKind.u32.wrap (10*(v:Int))=10*(v:Int):=by rw [wrap_u32]<;>omega
         by_cases gp:p<i
         ·have gp':(p:Int)<i:=by omega
          have gs:p<s.length:=by omega
          have dq:=(isDig_iff _).1 (h3 p gp (by omega) gs)
          have dg:dgt ((s.take i).drop (q+1)) y=s[p].toNat - 48:=by
           rw [dgt_in (by rw [List.length_drop];omega),List.getElem_drop,bat _ (by omega) (by omega)]
           simp only [hp]
          rw [dg] at fin
          have w2:IntKind.u32.wrap (s[p].toNat:Int)=(s[p].toNat:Int):=by rw [wrap_u32]<;>omega
          have w3:IntKind.u32.wrap (10*(v:Int)+(s[p].toNat:Int))=10*(v:Int)+(s[p].toNat:Int):=by rw [wrap_u32]<;>omega
          have w4:IntKind.u32.wrap (10*(v:Int)+(s[p].toNat:Int) - 48)=((10*v+(s[p].toNat - 48):Nat):Int):=by rw [wrap_u32]<;>omega
          clear hK h3 bat hp dg D1 D2 f1 V9 V4 hR vb
          simp -implicitDefEqProofs [gy,gy',gs,gp,gp',t2,t3,W1,w1,w2,w3]
          refine fin _ ?_
          refine weak_mk ?_ ?_ ?_ ?_ ?_ ?_<;>simp -implicitDefEqProofs [t1,w1,w2,w3,w4]
         ·have gp': ¬(p:Int)<i:=by omega
          rw [dgt_out (by rw [List.length_drop];omega),Nat.add_zero] at fin
          clear hK h3 bat hp D1 D2 f1 V9 V4 hR vb
          simp -implicitDefEqProofs [gy,gy',gp,gp',t2,t3,W1,w1]
          refine fin _ ?_
          refine weak_mk ?_ ?_ ?_ ?_ ?_ ?_<;>simp -implicitDefEqProofs [t1,w1]
        ·obtain rfl:y=4:=by omega
         clear hK
         generalize vK a ((s.take i).drop (q+1)) 4=v at *
         by_cases cv:1000000<v
         ·have cv':(1000000:Int)<v:=by omega
          rw [if_pos cv] at hR
          subst hR
          simp -implicitDefEqProofs [cv,cv']
         ·have cv': ¬(1000000:Int)<v:=by omega
          rw [if_neg cv] at hR
          subst hR
          simp -implicitDefEqProofs [cv,cv']
       ·refine weak_mk ?_ ?_ ?_ ?_ ?_ ?_<;>simp -implicitDefEqProofs [vK]
     ·refine weak_mk ?_ ?_ ?_ ?_ ?_ ?_<;>simp -implicitDefEqProofs [frU]
   ·have dm': ¬(d:Int)<i:=by omega
    rcases Cx with ⟨C1,C2,C3⟩|C1
    ·simp [g',W1,W2,W3,dm,dm',B',B,g0,C1,C2,C3,D3,d3]
     refine wp_lpk (α:=Nat) (fun q=>⟨[(0,.str s),(4,i6 s.length),(5,i6 d),(8,.int .u32 (frU (s.take i) q)),(9,i6 q)],[],[]⟩) (fun q=>q≤d) (fun q=>d - q) ?_ 0 (Nat.zero_le _) ?_
     ·rintro K q hK q1
      by_cases gq:q<d
      ·have gq':(q:Int)<d:=by omega
       have gs:q<s.length:=by omega
       have t1:IntKind.i64.wrap ((q:Int)+1)=(q+1:Nat):=by rw [wrap_i64]<;>omega
       have dq:=(isDig_iff _).1 (h3 q (by omega) (by omega) gs)
       have fq:frU (s.take i) (q+1)=10*frU (s.take i) q+(s[q].toNat - 48):=by
        rw [frU,dgt_in (show q<(s.take i).length by omega),bat q (by omega) gs]
       have fl:=f1 q (by omega)
       have p10:(10:Nat)^q≤1000:=by
        obtain rfl|rfl|rfl:q=0∨q=1∨q=2:=by omega
        all_goals decide
       have fin:=fun σ' hσ=>hK (q+1) σ' gq (by omega) hσ
       rw [fq] at fin
       have fl2:frU (s.take i) q<1000:=Nat.lt_of_lt_of_le fl p10
       generalize frU (s.take i) q=v at *
       have w1:IntKind.u32.wrap (10*(v:Int))=10*(v:Int):=by rw [wrap_u32]<;>omega
       have w2:IntKind.u32.wrap (s[q].toNat:Int)=(s[q].toNat:Int):=by rw [wrap_u32]<;>omega
       have w3:IntKind.u32.wrap (10*(v:Int)+(s[q].toNat:Int))=10*(v:Int)+(s[q].toNat:Int):=by rw [wrap_u32]<;>omega
       have w4:IntKind.u32.wrap (10*(v:Int)+(s[q].toNat:Int) - 48)=((10*v+(s[q].toNat - 48):Nat):Int):=by rw [wrap_u32]<;>omega
       clear hK h3 bat fl p10 fq D1 D2 f1 V9 V4 hR
       simp -implicitDefEqProofs [gq,gq',gs,w1,w2,w3]
       refine fin _ ?_
       refine weak_mk ?_ ?_ ?_ ?_ ?_ ?_<;>simp -implicitDefEqProofs [t1,w1,w2,w3,w4]
      ·obtain rfl:q=d:=by omega
       clear hK
       have gq': ¬(q:Int)<q:=by omega
       have fl:frU (s.take i) q<1000:=by
        refine Nat.lt_of_lt_of_le (f1 q (Nat.le_refl _)) ?_
        obtain rfl|rfl|rfl|rfl:q=0∨q=1∨q=2∨q=3:=by omega
        all_goals decide
       unfold pprV at hR
       rw [←vK_four] at hR
       have vb:=vK_lt (frU (s.take i) q) ((s.take i).drop (q+1)) fl V9
       generalize frU (s.take i) q=a at *
       simp -implicitDefEqProofs [gq']
       refine wp_lpk (α:=Nat) (fun y=>⟨[(0,.str s),(4,i6 s.length),(5,i6 q),(8,.int .u32 (vK a ((s.take i).drop (q+1)) y)),(10,i6 y)],[],[]⟩) (fun y=>y≤4) (fun y=>4 - y) ?_ 0 (Nat.zero_le _) ?_
       ·rintro K y hK y1
        by_cases gy:y<4
        ·have gy':(y:Int)<4:=by omega
         have t1:IntKind.i64.wrap ((y:Int)+1)=(y+1:Nat):=by rw [wrap_i64]<;>omega
         have t2:IntKind.i64.wrap ((q:Int)+1)=(q:Int)+1:=by rw [wrap_i64]<;>omega
         obtain ⟨p,hp⟩: ∃p,p=q+1+y:=⟨_,rfl⟩
         have t3:IntKind.i64.wrap ((q:Int)+1+(y:Int))=(p:Nat):=by rw [wrap_i64]<;>omega
         have fin:=fun σ' hσ=>hK (y+1) σ' gy (by omega) hσ
         have vl:=vb y (by omega)
         rw [vK] at fin
         generalize vK a ((s.take i).drop (q+1)) y=v at *
         have w1:IntKind.u32.wrap (10*(v:Int))=10*(v:Int):=by rw [wrap_u32]<;>omega
         by_cases gp:p<i
         ·have gp':(p:Int)<i:=by omega
          have gs:p<s.length:=by omega
          have dq:=(isDig_iff _).1 (h3 p gp (by omega) gs)
          have dg:dgt ((s.take i).drop (q+1)) y=s[p].toNat - 48:=by
           rw [dgt_in (by rw [List.length_drop];omega),List.getElem_drop,bat _ (by omega) (by omega)]
           simp only [hp]
          rw [dg] at fin
          have w2:IntKind.u32.wrap (s[p].toNat:Int)=(s[p].toNat:Int):=by rw [wrap_u32]<;>omega
          have w3:IntKind.u32.wrap (10*(v:Int)+(s[p].toNat:Int))=10*(v:Int)+(s[p].toNat:Int):=by rw [wrap_u32]<;>omega
          have w4:IntKind.u32.wrap (10*(v:Int)+(s[p].toNat:Int) - 48)=((10*v+(s[p].toNat - 48):Nat):Int):=by rw [wrap_u32]<;>omega
          clear hK h3 bat hp dg D1 D2 f1 V9 V4 hR vb
          simp -implicitDefEqProofs [gy,gy',gs,gp,gp',t2,t3,W1,w1,w2,w3]
          refine fin _ ?_
          refine weak_mk ?_ ?_ ?_ ?_ ?_ ?_<;>simp -implicitDefEqProofs [t1,w1,w2,w3,w4]
         ·have gp': ¬(p:Int)<i:=by omega
          rw [dgt_out (by rw [List.length_drop];omega),Nat.add_zero] at fin
          clear hK h3 bat hp D1 D2 f1 V9 V4 hR vb
          simp -implicitDefEqProofs [gy,gy',gp,gp',t2,t3,W1,w1]
          refine fin _ ?_
          refine weak_mk ?_ ?_ ?_ ?_ ?_ ?_<;>simp -implicitDefEqProofs [t1,w1]
        ·obtain rfl:y=4:=by omega
         clear hK
         generalize vK a ((s.take i).drop (q+1)) 4=v at *
         by_cases cv:1000000<v
         ·have cv':(1000000:Int)<v:=by omega
          rw [if_pos cv] at hR
          subst hR
          simp -implicitDefEqProofs [cv,cv']
         ·have cv': ¬(1000000:Int)<v:=by omega
          rw [if_neg cv] at hR
          subst hR
          simp -implicitDefEqProofs [cv,cv']
       ·refine weak_mk ?_ ?_ ?_ ?_ ?_ ?_<;>simp -implicitDefEqProofs [vK]
     ·refine weak_mk ?_ ?_ ?_ ?_ ?_ ?_<;>simp -implicitDefEqProofs [frU]
    ·simp [g',W1,W2,W3,dm,dm',B',B,g0,C1,D3,d3]
     refine wp_lpk (α:=Nat) (fun q=>⟨[(0,.str s),(4,i6 s.length),(5,i6 d),(8,.int .u32 (frU (s.take i) q)),(9,i6 q)],[],[]⟩) (fun q=>q≤d) (fun q=>d - q) ?_ 0 (Nat.zero_le _) ?_
     ·rintro K q hK q1
      by_cases gq:q<d
      ·have gq':(q:Int)<d:=by omega
       have gs:q<s.length:=by omega
       have t1:IntKind.i64.wrap ((q:Int)+1)=(q+1:Nat):=by rw [wrap_i64]<;>omega
       have dq:=(isDig_iff _).1 (h3 q (by omega) (by omega) gs)
       have fq:frU (s.take i) (q+1)=10*frU (s.take i) q+(s[q].toNat - 48):=by
        rw [frU,dgt_in (show q<(s.take i).length by omega),bat q (by omega) gs]
       have fl:=f1 q (by omega)
       have p10:(10:Nat)^q≤1000:=by
        obtain rfl|rfl|rfl:q=0∨q=1∨q=2:=by omega
        all_goals decide
       have fin:=fun σ' hσ=>hK (q+1) σ' gq (by omega) hσ
       rw [fq] at fin
       have fl2:frU (s.take i) q<1000:=Nat.lt_of_lt_of_le fl p10
       generalize frU (s.take i) q=v at *
       have w1:IntKind.u32.wrap (10*(v:Int))=10*(v:Int):=by rw [wrap_u32]<;>omega
       have w2:IntKind.u32.wrap (s[q].toNat:Int)=(s[q].toNat:Int):=by rw [wrap_u32]<;>omega
       have w3:IntKind.u32.wrap (10*(v:Int)+(s[q].toNat:Int))=10*(v:Int)+(s[q].toNat:Int):=by rw [wrap_u32]<;>omega
       have w4:IntKind.u32.wrap (10*(v:Int)+(s[q].toNat:Int) - 48)=((10*v+(s[q].toNat - 48):Nat):Int):=by rw [wrap_u32]<;>omega
       clear hK h3 bat fl p10 fq D1 D2 f1 V9 V4 hR
       simp -implicitDefEqProofs [gq,gq',gs,w1,w2,w3]
       refine fin _ ?_
       refine weak_mk ?_ ?_ ?_ ?_ ?_ ?_<;>simp -implicitDefEqProofs [t1,w1,w2,w3,w4]
      ·obtain rfl:q=d:=by omega
       clear hK
       have gq': ¬(q:Int)<q:=by omega
       have fl:frU (s.take i) q<1000:=by
        refine Nat.lt_of_lt_of_le (f1 q (Nat.le_refl _)) ?_
        obtain rfl|rfl|rfl|rfl:q=0∨q=1∨q=2∨q=3:=by omega
        all_goals decide
       unfold pprV at hR
       rw [←vK_four] at hR
       have vb:=vK_lt (frU (s.take i) q) ((s.take i).drop (q+1)) fl V9
       generalize frU (s.take i) q=a at *
       simp -implicitDefEqProofs [gq']
       refine wp_lpk (α:=Nat) (fun y=>⟨[(0,.str s),(4,i6 s.length),(5,i6 q),(8,.int .u32 (vK a ((s.take i).drop (q+1)) y)),(10,i6 y)],[],[]⟩) (fun y=>y≤4) (fun y=>4 - y) ?_ 0 (Nat.zero_le _) ?_
       ·rintro K y hK y1
        by_cases gy:y<4
        ·have gy':(y:Int)<4:=by omega
         have t1:IntKind.i64.wrap ((y:Int)+1)=(y+1:Nat):=by rw [wrap_i64]<;>omega
         have t2:IntKind.i64.wrap ((q:Int)+1)=(q:Int)+1:=by rw [wrap_i64]<;>omega
         obtain ⟨p,hp⟩: ∃p,p=q+1+y:=⟨_,rfl⟩
         have t3:IntKind.i64.wrap ((q:Int)+1+(y:Int))=(p:Nat):=by rw [wrap_i64]<;>omega
         have fin:=fun σ' hσ=>hK (y+1) σ' gy (by omega) hσ
         have vl:=vb y (by omega)
         rw [vK] at fin
         generalize vK a ((s.take i).drop (q+1)) y=v at *
         have w1:IntKind.u32.wrap (10*(v:Int))=10*(v:Int):=by rw [wrap_u32]<;>omega
         by_cases gp:p<i
         ·have gp':(p:Int)<i:=by omega
          have gs:p<s.length:=by omega
          have dq:=(isDig_iff _).1 (h3 p gp (by omega) gs)
          have dg:dgt ((s.take i).drop (q+1)) y=s[p].toNat - 48:=by
           rw [dgt_in (by rw [List.length_drop];omega),List.getElem_drop,bat _ (by omega) (by omega)]
           simp only [hp]
          rw [dg] at fin
          have w2:IntKind.u32.wrap (s[p].toNat:Int)=(s[p].toNat:Int):=by rw [wrap_u32]<;>omega
          have w3:IntKind.u32.wrap (10*(v:Int)+(s[p].toNat:Int))=10*(v:Int)+(s[p].toNat:Int):=by rw [wrap_u32]<;>omega
          have w4:IntKind.u32.wrap (10*(v:Int)+(s[p].toNat:Int) - 48)=((10*v+(s[p].toNat - 48):Nat):Int):=by rw [wrap_u32]<;>omega
          clear hK h3 bat hp dg D1 D2 f1 V9 V4 hR vb
          simp -implicitDefEqProofs [gy,gy',gs,gp,gp',t2,t3,W1,w1,w2,w3]
          refine fin _ ?_
          refine weak_mk ?_ ?_ ?_ ?_ ?_ ?_<;>simp -implicitDefEqProofs [t1,w1,w2,w3,w4]
         ·have gp': ¬(p:Int)<i:=by omega
          rw [dgt_out (by rw [List.length_drop];omega),Nat.add_zero] at fin
          clear hK h3 bat hp D1 D2 f1 V9 V4 hR vb
          simp -implicitDefEqProofs [gy,gy',gp,gp',t2,t3,W1,w1]
          refine fin _ ?_
          refine weak_mk ?_ ?_ ?_ ?_ ?_ ?_<;>simp -implicitDefEqProofs [t1,w1]
        ·obtain rfl:y=4:=by omega
         clear hK
         generalize vK a ((s.take i).drop (q+1)) 4=v at *
         by_cases cv:1000000<v
         ·have cv':(1000000:Int)<v:=by omega
          rw [if_pos cv] at hR
          subst hR
          simp -implicitDefEqProofs [cv,cv']
         ·have cv': ¬(1000000:Int)<v:=by omega
          rw [if_neg cv] at hR
          subst hR
          simp -implicitDefEqProofs [cv,cv']
       ·refine weak_mk ?_ ?_ ?_ ?_ ?_ ?_<;>simp -implicitDefEqProofs [vK]
     ·refine weak_mk ?_ ?_ ?_ ?_ ?_ ?_<;>simp -implicitDefEqProofs [frU]
 ·exact ⟨Nat.zero_le _,fun j h=>absurd h (by omega)⟩
 ·rw [show dotN m d 0=m from if_pos (Nat.zero_le _)]
  refine weak_mk ?_ ?_ ?_ ?_ ?_ ?_<;>simp -implicitDefEqProofs
open Go.Proofs
def wdR (s:List UInt8):TV:=
 if dgsF s=true then toldV 3 (numF s)
 else if byt s (s.length - 1)=37 then toldV 5 (pprF s)
 else if hasB 46 s=true then toldV 4 (facF (s.takeWhile (notB 46)) (s.drop ((s.takeWhile (notB 46)).length+1)))
 else toldV 6 (spanR s)
def rV (m:List Int):TV:=
 if m=[]∨digR (m.headD 0)=false then (if nameT (textR m)=true then .t 1 (textR m) 0 else .e 5)
 else wdR (textR m)
theorem toldV_rs (k:Int) (q:Nat×Int):(toldV k q).rs=if q.2=0 then .tup [.agg [i6 k,.str [],u q.1,i6 0,i6 0],i6 0] else .tup [.agg [i6 0,.str [],u 0,i6 0,i6 0],i6 q.2]:=by
 unfold toldV
 split<;>rfl
theorem pprF_lt (s:List UInt8):(pprF s).1<4294967296:=by rw [←ppF_eq];exact ppF_lt s
theorem spanR_lt (s:List UInt8):(spanR s).1≤253402300799:=by rw [←spanU_eq];exact spanU_le s
set_option maxHeartbeats 1000000 in
theorem rvalue_spec (m:List Int) (hm:m.length≤100000) (hr: ∀r∈m,r≤1114111):Sp Tryz.prog gl 24 [.sl (runeRows m)] (rV m).rs:=by
 refine s24 rfl rfl ?_
 have rl:=runeRows_len m
 have rat:=runeRows_at m
 have TX:=rtext_spec m (by omega) hr
 have tl:=textR_len m
 have NM:=rname_spec (textR m) (by omega)
 have DG:=rdigits_spec (textR m) (by omega)
 have NU:=rnumber_spec (textR m) (by omega)
 have PP:=rppread_spec (textR m) (by omega)
 have SP:=rspan_spec (textR m) (by omega)
 have FA:=fun h1 h2 h3=>rfactor_spec (textR m) (by omega) ((textR m).takeWhile (notB 46)).length h1 h2 h3
 have tat:=twB_at 46 (textR m)
 have tne:=twB_ne 46 (textR m)
 have tle:=takeB_len (textR m) 46
 have ttk:=takeB_tw 46 (textR m)
 have pl:=pprF_lt (textR m)
 have sl:=spanR_lt (textR m)
 rw [ttk] at FA
 have tpos:m≠[]→0<(textR m).length:=fun h=>by
  cases m with
  |nil=>exact absurd rfl h
  |cons r t=>
   rw [textR,List.length_append]
   have:=encR_pos r
   omega
 have en:(runeRows m=[])↔m=[]:=by
  rw [←List.length_eq_zero_iff,rl,List.length_eq_zero_iff]
 obtain ⟨RV,hRV⟩: ∃RV,RV=(wdR (textR m)).rs:=⟨_,rfl⟩
 unfold rV
 unfold wdR hasB at hRV
 generalize textR m=s at *
 generalize hd:(s.takeWhile (notB 46)).length=d at *
 obtain ⟨hdl,hdl'⟩: ∃x,x=s.takeWhile (notB 46):=⟨_,rfl⟩
 rw [←hdl'] at FA hRV ttk
 generalize runeRows m=RR at *
 have name: ∀(b:Bool),(if b=true then TV.t 1 s 0 else .e 5).rs=if b=true then .tup [.agg [i6 1,.str s,u 0,i6 0,i6 0],i6 0] else .tup [.agg [i6 0,.str [],u 0,i6 0,i6 0],i6 5]:=fun b=>by cases b<;>rfl
 by_cases m0:m=[]
 ·have l0:m.length=0:=by rw [m0];rfl
  have l0':(m.length:Int)=0:=by omega
  have l0'':((m.length:Int)==0)=true:=by rw [beq_iff_eq];exact l0'
  rw [if_pos (Or.inl m0),name]
  clear hRV FA SP PP NU DG name
  cases hn:nameT s
  ·rw [hn] at NM
   rw [if_neg (by decide)]
   simp -implicitDefEqProofs [c24]
   refine onC_mk _ (TX) ?_
   simp -implicitDefEqProofs [rl,l0,l0',l0'']
   refine onC_mk _ (NM) ?_
   simp -implicitDefEqProofs
  ·rw [hn] at NM
   rw [if_pos rfl]
   simp -implicitDefEqProofs [c24]
   refine onC_mk _ (TX) ?_
   simp -implicitDefEqProofs [rl,l0,l0',l0'']
   refine onC_mk _ (NM) ?_
   simp -implicitDefEqProofs
 have l0:0<m.length:=List.length_pos_iff.2 m0
 have l0': ¬(m.length:Int)=0:=by omega
 have l0'':((m.length:Int)==0)=false:=beq_eq_false_iff_ne.2 l0'
 have lR:0<RR.length:=by omega
 have ra:=rat 0 l0 lR
 have hh:m.headD 0=m[0]:=by
  cases m with
  |nil=>exact absurd rfl m0
  |cons a t=>rfl
 have RD:=rdigit13_spec m[0]
 rw [hh]
 have sp0:=tpos m0
 clear tpos hh en rat
 have ra':RR[0]?=some [i3 m[0]]:=by rw [List.getElem?_eq_getElem lR,ra]
 generalize m[0]=r0 at *
 have ne0: ¬m.length=0:=by omega
 cases hdg:digR r0
 ·rw [hdg] at RD
  rw [if_pos (Or.inr rfl),name]
  clear hRV FA SP PP NU DG name
  cases hn:nameT s
  ·rw [hn] at NM
   rw [if_neg (by decide)]
   simp -implicitDefEqProofs [c24]
   refine onC_mk _ (TX) ?_
   simp -implicitDefEqProofs [rl,ne0,l0',l0'',ra']
   refine onC_mk _ (RD) ?_
   simp -implicitDefEqProofs
   refine onC_mk _ (NM) ?_
   simp -implicitDefEqProofs
  ·rw [hn] at NM
   rw [if_pos rfl]
   simp -implicitDefEqProofs [c24]
   refine onC_mk _ (TX) ?_
   simp -implicitDefEqProofs [rl,ne0,l0',l0'',ra']
   refine onC_mk _ (RD) ?_
   simp -implicitDefEqProofs
   refine onC_mk _ (NM) ?_
   simp -implicitDefEqProofs
 rw [hdg] at RD
 rw [if_neg (by rintro (h|h);exact m0 h;cases h)]
 have e1:(wdR s).rs=RV:=by
  rw [hRV]
  unfold wdR hasB
  rw [hd,←hdl']
 rw [e1]
 clear e1 name NM
 simp -implicitDefEqProofs [c24]
 refine onC_mk _ (TX) ?_
 simp -implicitDefEqProofs [rl,ne0,l0',l0'',ra']
 refine onC_mk _ (RD) ?_
 simp -implicitDefEqProofs
 refine wp_lpk (α:=Nat) (fun i=>⟨[(2,.ptr (.n 2) 0),(4,.str s),(5,i6 6),(6,u 0),(7,i6 0),(8,.bool (decide (d<i))),(9,i6 i)],[(.n 2,[i6 0,.str [],u 0,i6 0,i6 0])],[]⟩)
  (fun i=>i≤s.length) (fun i=>s.length - i) ?_ 0 (Nat.zero_le _) ?_
 ·rintro K i hK h1
  by_cases g:i<s.length
  ·have g':(i:Int)<s.length:=by omega
   have t1:IntKind.i64.wrap ((i:Int)+1)=(i+1:Nat):=by rw [wrap_i64]<;>omega
   have fin:=fun σ' hσ=>hK (i+1) σ' g (by omega) hσ
   clear hK hRV FA SP PP NU DG
   by_cases c1:d<i
   ·rw [decide_eq_true (show d<i+1 by omega)] at fin
    rw [decide_eq_true c1]
    simp -implicitDefEqProofs [g,g']
    refine fin _ ?_
    refine weak_mk ?_ ?_ ?_ ?_ ?_ ?_<;>simp -implicitDefEqProofs [t1]
   ·rw [decide_eq_false c1]
    by_cases c2:i=d
    ·subst c2
     rw [decide_eq_true (show i<i+1 by omega)] at fin
     have h46:(s[i].toNat:Int)=46:=by rw [tat g];rfl
     simp -implicitDefEqProofs [g,g',h46]
     refine fin _ ?_
     refine weak_mk ?_ ?_ ?_ ?_ ?_ ?_<;>simp -implicitDefEqProofs [t1]
    ·rw [decide_eq_false (show ¬d<i+1 by omega)] at fin
     have h46:((s[i].toNat:Int)==46)=false:=by
      rw [beq_eq_false_iff_ne]
      intro e
      exact tne i (by omega) g (UInt8.toNat_inj.1 (by show s[i].toNat=46;omega))
     simp -implicitDefEqProofs [g,g',h46]
     refine fin _ ?_
     refine weak_mk ?_ ?_ ?_ ?_ ?_ ?_<;>simp -implicitDefEqProofs [t1]
  ·obtain rfl:i=s.length:=by omega
   have g': ¬(s.length:Int)<s.length:=by omega
   clear hK
   cases hdF:dgsF s
   ·rw [hdF] at DG hRV
    rw [if_neg (by decide)] at hRV
    clear NU
    obtain ⟨z,hz⟩: ∃z,s.length=z+1:=⟨s.length - 1,by omega⟩
    have gz:z<s.length:=by omega
    have wz:IntKind.i64.wrap ((s.length:Int) - 1)=(z:Nat):=by rw [wrap_i64]<;>omega
    rw [show s.length - 1=z by omega] at hRV
    by_cases c37:byt s z=37
    ·rw [if_pos c37,toldV_rs] at hRV
     have k37:(s[z].toNat:Int)=37:=by rw [byt_in gz,c37];rfl
     clear FA SP
     generalize pprF s=q at *
     obtain ⟨n,e⟩:=q
     dsimp only at PP hRV pl
     have wn:IntKind.u64.wrap (n:Int)=n:=by rw [wrap_u64]<;>omega
     subst hRV
     by_cases ce:e=0
     ·subst ce
      rw [if_pos rfl]
      simp -implicitDefEqProofs [g']
      refine onC_mk _ (DG) ?_
      simp -implicitDefEqProofs [gz,wz,k37]
      refine onC_mk _ (PP) ?_
      simp -implicitDefEqProofs [wn]
     ·have ce':(e !=0)=true:=bne_iff_ne.2 ce
      rw [if_neg ce]
      simp -implicitDefEqProofs [g']
      refine onC_mk _ (DG) ?_
      simp -implicitDefEqProofs [gz,wz,k37]
      refine onC_mk _ (PP) ?_
      simp -implicitDefEqProofs [wn,ce,ce']
    ·rw [if_neg c37] at hRV
     have k37:((s[z].toNat:Int)==37)=false:=by rw [beq_eq_false_iff_ne,byt_in gz];omega
     clear PP
     by_cases ch:d<s.length
     ·rw [decide_eq_true ch,if_pos rfl,toldV_rs] at hRV
      rw [decide_eq_true ch]
      have FA:=FA ch (tat ch) (fun j hj h=>tne j hj h)
      clear SP
      generalize facF hdl (s.drop (d+1))=q at *
      obtain ⟨n,e⟩:=q
      dsimp only at FA hRV
      subst hRV
      by_cases ce:e=0
      ·subst ce
       rw [if_pos rfl]
       simp -implicitDefEqProofs [g']
       refine onC_mk _ (DG) ?_
       simp -implicitDefEqProofs [gz,wz,k37]
       refine onC_mk _ (FA) ?_
       simp -implicitDefEqProofs
      ·have ce':(e !=0)=true:=bne_iff_ne.2 ce
       rw [if_neg ce]
       simp -implicitDefEqProofs [g']
       refine onC_mk _ (DG) ?_
       simp -implicitDefEqProofs [gz,wz,k37]
       refine onC_mk _ (FA) ?_
       simp -implicitDefEqProofs [ce,ce']
     ·rw [decide_eq_false ch,if_neg (by decide),toldV_rs] at hRV
      rw [decide_eq_false ch]
      clear FA
      generalize spanR s=q at *
      obtain ⟨n,e⟩:=q
      dsimp only at SP hRV sl
      have wn:IntKind.u64.wrap (n:Int)=n:=by rw [wrap_u64]<;>omega
      subst hRV
      by_cases ce:e=0
      ·subst ce
       rw [if_pos rfl]
       simp -implicitDefEqProofs [g']
       refine onC_mk _ (DG) ?_
       simp -implicitDefEqProofs [gz,wz,k37]
       refine onC_mk _ (SP) ?_
       simp -implicitDefEqProofs [wn]
      ·have ce':(e !=0)=true:=bne_iff_ne.2 ce
       rw [if_neg ce]
       simp -implicitDefEqProofs [g']
       refine onC_mk _ (DG) ?_
       simp -implicitDefEqProofs [gz,wz,k37]
       refine onC_mk _ (SP) ?_
       simp -implicitDefEqProofs [wn,ce,ce']
   ·rw [hdF] at DG hRV
    rw [if_pos rfl,toldV_rs] at hRV
    clear FA SP PP
    generalize numF s=q at *
    obtain ⟨n,e⟩:=q
    dsimp only at NU hRV
    subst hRV
    by_cases ce:e=0
    ·subst ce
     rw [if_pos rfl]
     simp -implicitDefEqProofs [g']
     refine onC_mk _ (DG) ?_
     simp -implicitDefEqProofs
     refine onC_mk _ (NU) ?_
     simp -implicitDefEqProofs
    ·have ce':(e !=0)=true:=bne_iff_ne.2 ce
     rw [if_neg ce]
     simp -implicitDefEqProofs [g']
     refine onC_mk _ (DG) ?_
     simp -implicitDefEqProofs
     refine onC_mk _ (NU) ?_
     simp -implicitDefEqProofs [ce,ce']
 ·refine weak_mk ?_ ?_ ?_ ?_ ?_ ?_<;>simp -implicitDefEqProofs
end Go.Ai
namespace Go.Ai
open Go.Proofs Go.Shelf
def ren_wr:Ren:={
 f:=fun x=>match x with
  |168=>127
  |242=>186
  |278=>230
  |n=>ren_laysJoin.f n
 t:=fun x=>match x with
  |21=>21
  |46=>207
  |51=>66
  |n=>ren_laysJoin.t n
 g:=fun x=>x}
set_option maxRecDepth 100000 in
theorem laysWR:Lays.n168 Tryz.prog ren_wr where
 mixed:=laysJoin.mixed
 f168:=Eq.trans Tryz.func127 (congrArg some (show Tryz.f127=Body.n168 ren_wr by kernel_rfl))
 f240:=Eq.trans Tryz.func185 (congrArg some (show Tryz.f185=Body.n240 ren_wr by kernel_rfl))
 f242:=Eq.trans Tryz.func186 (congrArg some (show Tryz.f186=Body.n242 ren_wr by kernel_rfl))
 f276:=Eq.trans Tryz.func229 (congrArg some (show Tryz.f229=Body.n276 ren_wr by kernel_rfl))
 f278:=Eq.trans Tryz.func230 (congrArg some (show Tryz.f230=Body.n278 ren_wr by kernel_rfl))
 t0:=laysJoin.t0
 a0:=laysJoin.a0
 z0:=laysJoin.z0
 v0:=laysJoin.v0
 t3:=laysJoin.t3
 a3:=laysJoin.a3
 z3:=laysJoin.z3
 v3:=laysJoin.v3
 t4:=laysJoin.t4
 a4:=laysJoin.a4
 z4:=laysJoin.z4
 v4:=laysJoin.v4
 t5:=extraJ.t5
 a5:=extraJ.a5
 z5:=extraJ.z5
 v5:=extraJ.v5
 t9:=laysJoin.t9
 a9:=laysJoin.a9
 z9:=laysJoin.z9
 v9:=laysJoin.v9
 t20:=laysJoin.t20
 a20:=laysJoin.a20
 z20:=laysJoin.z20
 v20:=laysJoin.v20
 t21:=Tryz.underlying21
 a21:=Tryz.isAgg21
 z21:=Tryz.sizeOf21
 v21:=Tryz.zeroValue21
 t37:=laysJoin.t37
 a37:=laysJoin.a37
 z37:=laysJoin.z37
 v37:=laysJoin.v37
 t46:=Tryz.underlying207
 a46:=Tryz.isAgg207
 z46:=Tryz.sizeOf207
 v46:=Tryz.zeroValue207
 t51:=Tryz.underlying66
 a51:=Tryz.isAgg66
 z51:=Tryz.sizeOf66
 v51:=Tryz.zeroValue66
 t70:=laysJoin.t70
 a70:=laysJoin.a70
 z70:=laysJoin.z70
 v70:=laysJoin.v70
 t72:=laysJoin.t72
 a72:=laysJoin.a72
 z72:=laysJoin.z72
 v72:=laysJoin.v72
 t75:=laysJoin.t75
 a75:=laysJoin.a75
 z75:=laysJoin.z75
 v75:=laysJoin.v75
 t164:=laysJoin.t164
 a164:=laysJoin.a164
 z164:=laysJoin.z164
 v164:=laysJoin.v164
theorem extraW:Builder.Extra Tryz.prog ren_wr where
 sizeBuilder:=by kernel_rfl
 liesBuilder:=by kernel_rfl
 t5:=Tryz.underlying5
 a5:=Tryz.isAgg5
 z5:=Tryz.sizeOf5
 v5:=Tryz.zeroValue5
 infoByte:=by kernel_rfl
 cellsByte:=by kernel_rfl
 sizeByte:=by kernel_rfl
 neB5:=by decide
theorem encN_cells (r:Nat) (h:r≤1114111):runeV (r:Int)→Lib.byteCells (encN r)=Lib.runeCells (r:Int):=by
 intro hr
 have b8: ∀n:Nat,n<256→((UInt8.ofNat n).toNat:Int)=n:=fun n hn=>by rw [UInt8.toNat_ofNat_of_lt' (by simpa using hn)]
 unfold encN Lib.byteCells Lib.runeCells
 by_cases c1:r<128
 ·rw [if_pos c1,Lib.encodeRuneZ_one (by omega) (by omega)]
  simp only [List.map_cons,List.map_nil,b8 r (by omega)]
 rw [if_neg c1]
 by_cases c2:r<2048
 ·rw [if_pos c2,Lib.encodeRuneZ_two (by omega) (by omega)]
  simp only [List.map_cons,List.map_nil,b8 (192+r / 64) (by omega),b8 (128+r%64) (by omega)]
  rfl
 rw [if_neg c2]
 by_cases c3:r<65536
 ·rw [if_pos c3,Lib.encodeRuneZ_three (by rcases hr with h|h<;>omega)]
  simp only [List.map_cons,List.map_nil,b8 (224+r / 4096) (by omega),b8 (128+r / 64%64) (by omega),b8 (128+r%64) (by omega)]
  rfl
 rw [if_neg c3,Lib.encodeRuneZ_four (by omega) (by omega)]
 simp only [List.map_cons,List.map_nil,b8 (240+r / 262144) (by omega),b8 (128+r / 4096%64) (by omega),b8 (128+r / 64%64) (by omega),b8 (128+r%64) (by omega)]
 rfl
theorem wr_spec {d:Nat} {b:Id} (hit:b.isIt=false) (hnwb:b.isNw d=false) {T n:Nat} (hT:bldAt Tryz.prog 173 T n) {c0:AV} (hc0:c0= .nilT b T n∨c0= .ptr b 0) (rest:List AV) (l:List UInt8) (r:Nat) (hr:runeV (r:Int)) (h:r≤1114111) (hl:l.length+4≤140737488355328):
  SpH Tryz.prog gl 127 d ⟨[.ptr b 0,.int .i32 r],[(b,c0:: .sl (byteRows l)::rest)],[(.b b 1,bk 5)]⟩ ⟨.tup [.int .i64 (encN r).length,.undef],[(b,.ptr b 0:: .sl (byteRows (l++encN r))::rest)],[(.b b 1,bk 5)]⟩:=
 wr_shelf laysWR extraW (by kernel_rfl) (by kernel_rfl) hit hnwb (T:=T) (n:=n) (hc0.imp (fun h=>⟨h,hT⟩) id) (rest:=rest) l (encN r) r hr (encN_cells r h hr) hl
end Go.Ai
namespace Go.Ai
open Go.Proofs Go.Shelf
def hexR (r:Int):Int:=if digR r=true then r - 48 else if 97≤r∧r≤102 then r - 87 else -1
theorem thex_spec (r:Int):Sp Tryz.prog gl 287 [i3 r] (i3 (hexR r)):=by
 refine s287 rfl rfl ?_
 have D:=tdigit_spec r
 unfold hexR
 cases hd:digR r
 ·rw [hd] at D
  rw [if_neg (by decide)]
  by_cases c1:97≤r
  ·by_cases c2:r≤102
   ·rw [if_pos ⟨c1,c2⟩]
    have t1:IntKind.i32.wrap (r - 97)=r - 97:=by rw [wrap_i32']<;>omega
    have t2:IntKind.i32.wrap (r - 97+10)=r - 87:=by rw [wrap_i32']<;>omega
    simp -implicitDefEqProofs [c287]
    refine onC_mk _ (D) ?_
    simp -implicitDefEqProofs [c1,c2,t1,t2]
   ·rw [if_neg (fun h=>c2 h.2)]
    simp -implicitDefEqProofs [c287]
    refine onC_mk _ (D) ?_
    simp -implicitDefEqProofs [c1,c2]
  ·rw [if_neg (fun h=>c1 h.1)]
   simp -implicitDefEqProofs [c287]
   refine onC_mk _ (D) ?_
   simp -implicitDefEqProofs [c1]
 ·rw [hd] at D
  rw [if_pos rfl]
  have hh:48≤r∧r≤57:=by unfold digR at hd;exact of_decide_eq_true hd
  have t1:IntKind.i32.wrap (r - 48)=r - 48:=by rw [wrap_i32']<;>omega
  simp -implicitDefEqProofs [c287]
  refine onC_mk _ (D) ?_
  simp -implicitDefEqProofs [t1]
def validR (r:Int):Bool:=decide (0≤r∧r<55296)||decide (57343<r∧r≤1114111)
theorem validR_iff (r:Int):validR r=true↔runeV r:=by
 unfold validR runeV
 rw [Bool.or_eq_true,decide_eq_true_iff,decide_eq_true_iff]
theorem vrune_spec (r:Int):Sp Tryz.prog gl 257 [i3 r] (.bool (validR r)):=by
 refine s257 rfl rfl ?_
 unfold validR
 by_cases d1:0≤r
 ·by_cases d2:r<55296
  ·simp [c257,d1,d2]
  ·by_cases c1:57343<r
   ·by_cases c2:r≤1114111
    ·simp [c257,d1,d2,c1,c2]
    ·simp [c257,d1,d2,c1,c2]
   ·simp [c257,d1,d2,c1]
 ·have d2: ¬57343<r:=by omega
  simp -implicitDefEqProofs [c257,d1,d2]
end Go.Ai
namespace Go.Ai
open Go.Proofs Go.Shelf
structure Rd where
 out:List Int
 st:Int
 n:Nat
 c:Nat
def rdHd (b:Id):List Int→List AV
 |[]=>[.nilT b 281 5,.nils]
 |r::l=>[.ptr b 0,.sl (byteRows (textR (r::l)))]
def rdPm (b:Id):List Int→List (Pl×Nat)
 |[]=>[]
 |r::l=>[(.b b 1,bk 5)]
def rdBx (b:Id) (x:Rd):List AV:=rdHd b x.out++[i6 x.st,i3 x.n,i6 x.c]
def afterR (x:Rd) (r:Int):Rd×Bool:=
 if r=34∨r=92 then ({x with st:=0,out:=x.out++[r]},true)
 else if r=110 then ({x with st:=0,out:=x.out++[10]},true)
 else if r=116 then ({x with st:=0,out:=x.out++[9]},true)
 else if r=117 then ({x with st:=2},true)
 else ({x with st:=0},false)
def withinR (x:Rd) (r:Int):Rd×Bool:=
 if 0≤hexR r∧x.c<6 then ({x with n:=16*x.n+(hexR r).toNat,c:=x.c+1},true)
 else if r≠125∨x.c=0∨validR x.n=false then (x,false)
 else ({x with out:=x.out++[(x.n:Int)],st:=0},true)
theorem bld_reader:bldAt Tryz.prog 173 281 5:=by unfold bldAt;kernel_rfl
theorem rdHd_snoc (b:Id) (l:List Int) (r:Nat):rdHd b (l++[(r:Int)])=[.ptr b 0,.sl (byteRows (textR l++encN r))]:=by
 have e:textR (l++[(r:Int)])=textR l++encN r:=by
  rw [textR_append]
  have:encR (r:Int)=encN r:=by unfold encR;rw [if_neg (by omega),Int.toNat_natCast]
  rw [textR,textR,List.append_nil,this]
 rw [←e]
 cases l<;>rfl
theorem rdPm_snoc (b:Id) (l:List Int) (r:Int):rdPm b (l++[r])=[(.b b 1,bk 5)]:=by cases l<;>rfl
theorem rafter_spec (x:Rd) (hl:x.out.length≤1000000) (r:Int) (d:Nat) (b:Id) (hb:b.isIt=false) (hbd:b.isNw d=false):
  SpH Tryz.prog gl 274 d ⟨[.ptr b 0,i3 r],[(b,rdBx b x)],rdPm b x.out⟩ ⟨.bool (afterR x r).2,[(b,rdBx b (afterR x r).1)],rdPm b (afterR x r).1.out⟩:=by
 refine h274 rfl ?_
 have hib:=inn_notNw hbd
 have ne: ∀z:Int,¬r=z→(r==z)=false:=fun z h=>beq_eq_false_iff_ne.2 h
 have tl:=textR_len x.out
 have W:=fun (q:Nat) (hq:runeV (q:Int)) (hq2:q≤1114111) (c0:AV) (hc0:c0= .nilT (.up b) 281 5∨c0= .ptr (.up b) 0) e he=>wr_spec (d:=e) (b:= .up b) hb he bld_reader hc0 [i6 0,i3 x.n,i6 x.c] (textR x.out) q hq hq2 (by omega)
 unfold afterR
 by_cases c1:r=34∨r=92
 ·rw [if_pos c1]
  dsimp only
  obtain ⟨q,rfl⟩: ∃q:Nat,r=q:=⟨r.toNat,by omega⟩
  have hq:runeV (q:Int):=by unfold runeV;omega
  have W:=W q hq (by omega)
  unfold rdBx
  rw [rdHd_snoc,rdPm_snoc]
  have c1':((q:Int)==34)=true∨(((q:Int)==34)=false∧((q:Int)==92)=true):=by
   by_cases h:(q:Int)=34
   ·left;rw [h];rfl
   ·right;exact ⟨beq_eq_false_iff_ne.2 h,by rw [beq_iff_eq];omega⟩
  cases hx:x.out with
  |nil=>
   rw [hx] at W
   have W:=W _ (.inl rfl)
   rw [show textR []=[] from rfl,List.nil_append] at W ⊢
   rw [show byteRows []=[] from rfl] at W
   generalize byteRows (encN q)=B at *
   simp only [rdHd,rdPm]
   simp only [inSt,mpB,mpL,AV.mp,mpP,Pl.mp,List.cons_append,List.nil_append]
   rcases c1' with c1'|⟨c1',c2'⟩
   ·simp [c274,c1']
    refine onH_mk _ _ (W _ rfl) ⟨?_,?_,?_,?_,?_,?_,?_⟩ ?_
    iterate 7 (· simp [hb])
    simp -implicitDefEqProofs
    refine postH_r ⟨?_,?_,?_,?_,?_,?_⟩<;>simp -implicitDefEqProofs [hib,hb]
   ·simp [c274,c1',c2']
    refine onH_mk _ _ (W _ rfl) ⟨?_,?_,?_,?_,?_,?_,?_⟩ ?_
    iterate 7 (· simp [hb])
    simp -implicitDefEqProofs
    refine postH_r ⟨?_,?_,?_,?_,?_,?_⟩<;>simp -implicitDefEqProofs [hib,hb]
  |cons a l=>
   rw [hx] at W
   have W:=W _ (.inr rfl)
   generalize byteRows (textR (a::l)++encN q)=B at *
   simp only [rdHd,rdPm]
   generalize byteRows (textR (a::l))=B0 at *
   simp only [inSt,mpB,mpL,AV.mp,mpP,Pl.mp,List.cons_append,List.nil_append]
   rcases c1' with c1'|⟨c1',c2'⟩
   ·simp [c274,c1']
    refine onH_mk _ _ (W _ rfl) ⟨?_,?_,?_,?_,?_,?_,?_⟩ ?_
    iterate 7 (· simp [hb])
    simp -implicitDefEqProofs
    refine postH_r ⟨?_,?_,?_,?_,?_,?_⟩<;>simp -implicitDefEqProofs [hib,hb]
   ·simp [c274,c1',c2']
    refine onH_mk _ _ (W _ rfl) ⟨?_,?_,?_,?_,?_,?_,?_⟩ ?_
    iterate 7 (· simp [hb])
    simp -implicitDefEqProofs
    refine postH_r ⟨?_,?_,?_,?_,?_,?_⟩<;>simp -implicitDefEqProofs [hib,hb]
 rw [if_neg c1]
 have n1:=ne 34 (fun h=>c1 (.inl h))
 have n2:=ne 92 (fun h=>c1 (.inr h))
 by_cases c3:r=110
 ·rw [if_pos c3]
  subst c3
  dsimp only
  have W:=W 10 (by unfold runeV;omega) (by omega)
  unfold rdBx
  rw [show (10:Int)=((10:Nat):Int) from rfl,rdHd_snoc,rdPm_snoc]
  cases hx:x.out with
  |nil=>
   rw [hx] at W
   have W:=W _ (.inl rfl)
   rw [show textR []=[] from rfl,List.nil_append] at W ⊢
   rw [show byteRows []=[] from rfl] at W
   generalize byteRows (encN 10)=B at *
   simp only [rdHd,rdPm]
   simp only [inSt,mpB,mpL,AV.mp,mpP,Pl.mp,List.cons_append,List.nil_append]
   simp -implicitDefEqProofs [c274]
   refine onH_mk _ _ (W _ rfl) ⟨?_,?_,?_,?_,?_,?_,?_⟩ ?_
   iterate 7 (· simp [hb])
   simp -implicitDefEqProofs
   refine postH_r ⟨?_,?_,?_,?_,?_,?_⟩<;>simp -implicitDefEqProofs [hib,hb]
  |cons a l=>
   rw [hx] at W
   have W:=W _ (.inr rfl)
   generalize byteRows (textR (a::l)++encN 10)=B at *
   simp only [rdHd,rdPm]
   generalize byteRows (textR (a::l))=B0 at *
   simp only [inSt,mpB,mpL,AV.mp,mpP,Pl.mp,List.cons_append,List.nil_append]
   simp -implicitDefEqProofs [c274]
   refine onH_mk _ _ (W _ rfl) ⟨?_,?_,?_,?_,?_,?_,?_⟩ ?_
   iterate 7 (· simp [hb])
   simp -implicitDefEqProofs
   refine postH_r ⟨?_,?_,?_,?_,?_,?_⟩<;>simp -implicitDefEqProofs [hib,hb]
 rw [if_neg c3]
 have n3:=ne 110 c3
 by_cases c4:r=116
 ·rw [if_pos c4]
  subst c4
  dsimp only
  have W:=W 9 (by unfold runeV;omega) (by omega)
  unfold rdBx
  rw [show (9:Int)=((9:Nat):Int) from rfl,rdHd_snoc,rdPm_snoc]
  cases hx:x.out with
  |nil=>
   rw [hx] at W
   have W:=W _ (.inl rfl)
   rw [show textR []=[] from rfl,List.nil_append] at W ⊢
   rw [show byteRows []=[] from rfl] at W
   generalize byteRows (encN 9)=B at *
   simp only [rdHd,rdPm]
   simp only [inSt,mpB,mpL,AV.mp,mpP,Pl.mp,List.cons_append,List.nil_append]
   simp -implicitDefEqProofs [c274]
   refine onH_mk _ _ (W _ rfl) ⟨?_,?_,?_,?_,?_,?_,?_⟩ ?_
   iterate 7 (· simp [hb])
   simp -implicitDefEqProofs
   refine postH_r ⟨?_,?_,?_,?_,?_,?_⟩<;>simp -implicitDefEqProofs [hib,hb]
  |cons a l=>
   rw [hx] at W
   have W:=W _ (.inr rfl)
   generalize byteRows (textR (a::l)++encN 9)=B at *
   simp only [rdHd,rdPm]
   generalize byteRows (textR (a::l))=B0 at *
   simp only [inSt,mpB,mpL,AV.mp,mpP,Pl.mp,List.cons_append,List.nil_append]
   simp -implicitDefEqProofs [c274]
   refine onH_mk _ _ (W _ rfl) ⟨?_,?_,?_,?_,?_,?_,?_⟩ ?_
   iterate 7 (· simp [hb])
   simp -implicitDefEqProofs
   refine postH_r ⟨?_,?_,?_,?_,?_,?_⟩<;>simp -implicitDefEqProofs [hib,hb]
 rw [if_neg c4]
 have n4:=ne 116 c4
 clear W
 by_cases c5:r=117
 ·rw [if_pos c5]
  subst c5
  dsimp only
  unfold rdBx
  cases hx:x.out with
  |nil=>
   simp only [rdHd,rdPm]
   simp only [inSt,mpB,mpL,AV.mp,mpP,Pl.mp,List.cons_append,List.nil_append]
   simp -implicitDefEqProofs [c274]
   refine postH_r ⟨?_,?_,?_,?_,?_,?_⟩<;>simp -implicitDefEqProofs [hib,hb]
  |cons a l=>
   simp only [rdHd,rdPm]
   generalize byteRows (textR (a::l))=B0 at *
   simp only [inSt,mpB,mpL,AV.mp,mpP,Pl.mp,List.cons_append,List.nil_append]
   simp -implicitDefEqProofs [c274]
   refine postH_r ⟨?_,?_,?_,?_,?_,?_⟩<;>simp -implicitDefEqProofs [hib,hb]
 rw [if_neg c5]
 have n5:=ne 117 c5
 dsimp only
 unfold rdBx
 cases hx:x.out with
 |nil=>
  simp only [rdHd,rdPm]
  simp only [inSt,mpB,mpL,AV.mp,mpP,Pl.mp,List.cons_append,List.nil_append]
  simp -implicitDefEqProofs [c274,n1,n2,n3,n4,n5]
  refine postH_r ⟨?_,?_,?_,?_,?_,?_⟩<;>simp -implicitDefEqProofs [hib,hb]
 |cons a l=>
  simp only [rdHd,rdPm]
  generalize byteRows (textR (a::l))=B0 at *
  simp only [inSt,mpB,mpL,AV.mp,mpP,Pl.mp,List.cons_append,List.nil_append]
  simp -implicitDefEqProofs [c274,n1,n2,n3,n4,n5]
  refine postH_r ⟨?_,?_,?_,?_,?_,?_⟩<;>simp -implicitDefEqProofs [hib,hb]
end Go.Ai
namespace Go.Ai
open Go.Proofs Go.Shelf
theorem hexR_lt (r:Int):hexR r<16:=by
 unfold hexR digR
 split
 ·rename_i h
  have:=of_decide_eq_true h
  omega
 ·split<;>omega
theorem or_hex (x h:Nat) (hx:x<16777216) (hh:h<16):bits BinOp.or IntKind.i32 ((x*16:Nat):Int) (h:Int)=((16*x+h:Nat):Int):=by
 have hx2:x*16|||h=16*x+h:=by
  rw [show x*16=2^4*x by omega,←Nat.two_pow_add_eq_or_of_lt (by omega)]
 have h1:(BitVec.ofInt 32 ((x*16:Nat):Int)).toNat=x*16:=by
  rw [BitVec.ofInt_natCast,BitVec.toNat_ofNat];exact Nat.mod_eq_of_lt (by omega)
 have h2:(BitVec.ofInt 32 (h:Int)).toNat=h:=by
  rw [BitVec.ofInt_natCast,BitVec.toNat_ofNat];exact Nat.mod_eq_of_lt (by omega)
 show IntKind.i32.wrap ((BitVec.ofInt 32 ((x*16:Nat):Int)|||BitVec.ofInt 32 (h:Int)).toNat:Int)=_
 rw [BitVec.toNat_or,h1,h2,hx2,wrap_i32']<;>omega
theorem shl_hex (x:Nat) (hx:x<16777216):IntKind.i32.wrap ((x:Int)*2^(min 4 IntKind.i32.bits))=((x*16:Nat):Int):=by
 have e:(2:Int)^(min 4 IntKind.i32.bits)=16:=by decide
 rw [e,wrap_i32']<;>omega
theorem rwithinR_spec (x:Rd) (hl:x.out.length≤1000000) (hc:x.c≤6) (hn:x.n<16^x.c) (r:Int) (d:Nat) (b:Id) (hb:b.isIt=false) (hbd:b.isNw d=false):
  SpH Tryz.prog gl 275 d ⟨[.ptr b 0,i3 r],[(b,rdBx b x)],rdPm b x.out⟩ ⟨.bool (withinR x r).2,[(b,rdBx b (withinR x r).1)],rdPm b (withinR x r).1.out⟩:=by
 refine h275 rfl ?_
 have hib:=inn_notNw hbd
 have tl:=textR_len x.out
 have HX:=thex_spec r
 have hlt:=hexR_lt r
 have nlt:x.n<16777216:=Nat.lt_of_lt_of_le hn (Nat.le_trans (Nat.pow_le_pow_right (by omega) hc) (by decide))
 have VS:=vrune_spec (x.n:Int)
 unfold withinR
 by_cases c1:0≤hexR r∧x.c<6
 ·rw [if_pos c1]
  dsimp only
  obtain ⟨h,hh⟩: ∃h:Nat,hexR r=h:=⟨(hexR r).toNat,by omega⟩
  rw [hh] at HX hlt c1 ⊢
  rw [Int.toNat_natCast]
  have k1:=shl_hex x.n nlt
  have k2:=or_hex x.n h nlt (by omega)
  have k3:IntKind.i64.wrap ((x.c:Int)+1)=(x.c+1:Nat):=by rw [wrap_i64]<;>omega
  have k4:(x.c:Int)<6:=by omega
  have k5:=c1.2
  have k6:=c1.1
  have kk:((16*x.n+h:Nat):Int)=16*(x.n:Int)+h:=by omega
  rw [kk] at k2
  generalize ((x.n*16:Nat):Int)=SV at *
  unfold rdBx
  clear VS
  cases hx:x.out with
  |nil=>
   simp only [rdHd,rdPm]
   simp only [inSt,mpB,mpL,AV.mp,mpP,Pl.mp,List.cons_append,List.nil_append]
   simp -implicitDefEqProofs [c275]
   refine onC_mk _ (HX) ?_
   simp -implicitDefEqProofs [k1,k2,k3,k4,k5,k6]
   refine postH_r ⟨?_,?_,?_,?_,?_,?_⟩<;>simp -implicitDefEqProofs [hib,hb]
  |cons a l=>
   simp only [rdHd,rdPm]
   generalize byteRows (textR (a::l))=B0 at *
   simp only [inSt,mpB,mpL,AV.mp,mpP,Pl.mp,List.cons_append,List.nil_append]
   simp -implicitDefEqProofs [c275]
   refine onC_mk _ (HX) ?_
   simp -implicitDefEqProofs [k1,k2,k3,k4,k5,k6]
   refine postH_r ⟨?_,?_,?_,?_,?_,?_⟩<;>simp -implicitDefEqProofs [hib,hb]
 rw [if_neg c1]
 by_cases c2:r=125
 ·subst c2
  have e:hexR 125= -1:=by decide
  rw [e] at HX
  by_cases c3:x.c=0
  ·rw [if_pos (.inr (.inl c3))]
   dsimp only
   unfold rdBx
   clear VS
   cases hx:x.out with
   |nil=>
    simp only [rdHd,rdPm]
    simp only [inSt,mpB,mpL,AV.mp,mpP,Pl.mp,List.cons_append,List.nil_append]
    simp -implicitDefEqProofs [c275]
    refine onC_mk _ (HX) ?_
    simp -implicitDefEqProofs [c3]
    refine postH_r ⟨?_,?_,?_,?_,?_,?_⟩<;>simp -implicitDefEqProofs [hib,hb,c3]
   |cons a l=>
    simp only [rdHd,rdPm]
    generalize byteRows (textR (a::l))=B0 at *
    simp only [inSt,mpB,mpL,AV.mp,mpP,Pl.mp,List.cons_append,List.nil_append]
    simp -implicitDefEqProofs [c275]
    refine onC_mk _ (HX) ?_
    simp -implicitDefEqProofs [c3]
    refine postH_r ⟨?_,?_,?_,?_,?_,?_⟩<;>simp -implicitDefEqProofs [hib,hb,c3]
  ·have c3':((x.c:Int)==0)=false:=beq_eq_false_iff_ne.2 (by omega)
   cases hv:validR (x.n:Int)
   ·rw [hv] at VS
    rw [if_pos (.inr (.inr rfl))]
    dsimp only
    unfold rdBx
    cases hx:x.out with
    |nil=>
     simp only [rdHd,rdPm]
     simp only [inSt,mpB,mpL,AV.mp,mpP,Pl.mp,List.cons_append,List.nil_append]
     simp -implicitDefEqProofs [c275]
     refine onC_mk _ (HX) ?_
     simp -implicitDefEqProofs [c3,c3']
     refine onC_mk _ (VS) ?_
     simp -implicitDefEqProofs
     refine postH_r ⟨?_,?_,?_,?_,?_,?_⟩<;>simp -implicitDefEqProofs [hib,hb]
    |cons a l=>
     simp only [rdHd,rdPm]
     generalize byteRows (textR (a::l))=B0 at *
     simp only [inSt,mpB,mpL,AV.mp,mpP,Pl.mp,List.cons_append,List.nil_append]
     simp -implicitDefEqProofs [c275]
     refine onC_mk _ (HX) ?_
     simp -implicitDefEqProofs [c3,c3']
     refine onC_mk _ (VS) ?_
     simp -implicitDefEqProofs
     refine postH_r ⟨?_,?_,?_,?_,?_,?_⟩<;>simp -implicitDefEqProofs [hib,hb]
   ·rw [hv] at VS
    rw [if_neg (by rintro (h|h|h)<;>first|exact h rfl|exact c3 h|cases h)]
    dsimp only
    have hq:=(validR_iff _).1 hv
    have W:=fun (s6:Int) (c0:AV) (hc0:c0= .nilT (.up b) 281 5∨c0= .ptr (.up b) 0) (e:Nat) (he:(Id.up b).isNw e=false)=>wr_spec (d:=e) (b:= .up b) hb he bld_reader hc0 [i6 s6,i3 x.n,i6 x.c] (textR x.out) x.n hq (by unfold runeV at hq;omega) (by omega)
    unfold rdBx
    rw [rdHd_snoc,rdPm_snoc]
    cases hx:x.out with
    |nil=>
     rw [hx] at W
     have W:=fun s6=>W s6 _ (.inl rfl)
     rw [show textR []=[] from rfl] at W ⊢
     simp only [List.nil_append] at W ⊢
     rw [show byteRows []=[] from rfl] at W
     generalize byteRows (encN x.n)=B at *
     simp only [rdHd,rdPm]
     simp only [inSt,mpB,mpL,AV.mp,mpP,Pl.mp,List.cons_append,List.nil_append]
     simp -implicitDefEqProofs [c275]
     refine onC_mk _ (HX) ?_
     simp -implicitDefEqProofs [c3,c3']
     refine onC_mk _ (VS) ?_
     simp -implicitDefEqProofs
     refine onH_mk _ _ (W x.st _ rfl) ⟨?_,?_,?_,?_,?_,?_,?_⟩ ?_
     iterate 7 (· simp [hb])
     simp -implicitDefEqProofs
     refine postH_r ⟨?_,?_,?_,?_,?_,?_⟩<;>simp -implicitDefEqProofs [hib,hb]
    |cons a l=>
     rw [hx] at W
     have W:=fun s6=>W s6 _ (.inr rfl)
     generalize byteRows (textR (a::l)++encN x.n)=B at *
     simp only [rdHd,rdPm]
     generalize byteRows (textR (a::l))=B0 at *
     simp only [inSt,mpB,mpL,AV.mp,mpP,Pl.mp,List.cons_append,List.nil_append]
     simp -implicitDefEqProofs [c275]
     refine onC_mk _ (HX) ?_
     simp -implicitDefEqProofs [c3,c3']
     refine onC_mk _ (VS) ?_
     simp -implicitDefEqProofs
     refine onH_mk _ _ (W x.st _ rfl) ⟨?_,?_,?_,?_,?_,?_,?_⟩ ?_
     iterate 7 (· simp [hb])
     simp -implicitDefEqProofs
     refine postH_r ⟨?_,?_,?_,?_,?_,?_⟩<;>simp -implicitDefEqProofs [hib,hb]
 ·rw [if_pos (.inl c2)]
  dsimp only
  have c2':(r !=125)=true:=bne_iff_ne.2 c2
  have c2'':(r==125)=false:=beq_eq_false_iff_ne.2 c2
  unfold rdBx
  clear VS
  by_cases c3:0≤hexR r
  ·have c4: ¬x.c<6:=fun h=>c1 ⟨c3,h⟩
   have c4': ¬(x.c:Int)<6:=by omega
   cases hx:x.out with
   |nil=>
    simp only [rdHd,rdPm]
    simp only [inSt,mpB,mpL,AV.mp,mpP,Pl.mp,List.cons_append,List.nil_append]
    simp -implicitDefEqProofs [c275]
    refine onC_mk _ (HX) ?_
    simp -implicitDefEqProofs [c3,c4,c4',c2',c2'']
    refine postH_r ⟨?_,?_,?_,?_,?_,?_⟩<;>simp -implicitDefEqProofs [hib,hb]
   |cons a l=>
    simp only [rdHd,rdPm]
    generalize byteRows (textR (a::l))=B0 at *
    simp only [inSt,mpB,mpL,AV.mp,mpP,Pl.mp,List.cons_append,List.nil_append]
    simp -implicitDefEqProofs [c275]
    refine onC_mk _ (HX) ?_
    simp -implicitDefEqProofs [c3,c4,c4',c2',c2'']
    refine postH_r ⟨?_,?_,?_,?_,?_,?_⟩<;>simp -implicitDefEqProofs [hib,hb]
  ·cases hx:x.out with
   |nil=>
    simp only [rdHd,rdPm]
    simp only [inSt,mpB,mpL,AV.mp,mpP,Pl.mp,List.cons_append,List.nil_append]
    simp -implicitDefEqProofs [c275]
    refine onC_mk _ (HX) ?_
    simp -implicitDefEqProofs [c3,c2',c2'']
    refine postH_r ⟨?_,?_,?_,?_,?_,?_⟩<;>simp -implicitDefEqProofs [hib,hb]
   |cons a l=>
    simp only [rdHd,rdPm]
    generalize byteRows (textR (a::l))=B0 at *
    simp only [inSt,mpB,mpL,AV.mp,mpP,Pl.mp,List.cons_append,List.nil_append]
    simp -implicitDefEqProofs [c275]
    refine onC_mk _ (HX) ?_
    simp -implicitDefEqProofs [c3,c2',c2'']
    refine postH_r ⟨?_,?_,?_,?_,?_,?_⟩<;>simp -implicitDefEqProofs [hib,hb]
end Go.Ai
