/- P21: a part of the proof: the rules, or what functions compute. Conditions: as each theorem says. -/
import Derived.Test.YthonkjadcpdphaaGreatDoorP7
import Derived.Test.YthonkjadcpdphaaGreatDoorP6
import Derived.Test.YthonkjadcpdphaaGreatDoorP8
import Derived.Test.YthonkjadcpdphaaGreatDoorP17
import Derived.Test.YthonkjadcpdphaaGreatDoorP18
import Derived.Test.YthonkjadcpdphaaGreatDoorAiShelf4
set_option linter.unusedSimpArgs false
set_option linter.unusedVariables false
set_option maxRecDepth 20000
namespace Go.Ai
open Go.Proofs
def wordF (k:Int):List UInt8:=
 if k=1 then [99,108,111,99,107] else if k=2 then [110,111,116,105,102,121] else if k=3 then [103,111,97,108] else if k=4 then [119,105,110,100,111,119,115]
 else if k=5 then [112,101,114,105,111,100] else if k=6 then [97,108,101,114,116,115] else if k=7 then [101,112,105,115,111,100,101] else if k=8 then [98,111,120]
 else if k=9 then [101,110,116,114,121] else if k=10 then [97,99,107,101,100] else if k=11 then [115,105,108,101,110,99,101] else [63]
def printF (k:Int) (n:List UInt8):List UInt8:=if n=[] then wordF k else wordF k++32::n
theorem wordF_le (k:Int):(wordF k).length≤7:=by
 unfold wordF
 repeat' split
 all_goals decide
theorem k_cases {k:Int} (h1:1≤k) (h2:k≤11):k=1∨k=2∨k=3∨k=4∨k=5∨k=6∨k=7∨k=8∨k=9∨k=10∨k=11:=by omega
theorem wordF_none {k:Int} (h: ¬(1≤k∧k≤11)):wordF k=[63]:=by
 unfold wordF
 rw [if_neg (by omega),if_neg (by omega),if_neg (by omega),if_neg (by omega),if_neg (by omega),if_neg (by omega),if_neg (by omega),if_neg (by omega),if_neg (by omega),if_neg (by omega),if_neg (by omega)]
theorem aprint_tail (k:Int) (n:List UInt8) (hn:n.length≤1000000) (e:List (Nat×AV)) (bx:List (Id×List AV)) (pm:List (Pl×Nat)) (e1:lk e 1= .ptr (.n 1) 0) (e4:lk e 4= .str (wordF k)) (hb:lkB bx (.n 1)=some [i6 k,.str n]):
  wpA (SpH Tryz.prog gl) (AC.tl 4 c27) (postA [.t 2] (.str (printF k n))) ⟨e,bx,pm⟩:=by
 simp only [c27,AC.tl]
 have hw:=wordF_le k
 unfold printF
 generalize wordF k=w at *
 have q1:1+n.length≤9223372036854775807:=by omega
 have q2:w.length+(1+n.length)≤9223372036854775807:=by omega
 have q3:w.length+(n.length+1)≤9223372036854775807:=by omega
 have q4:n.length+1≤9223372036854775807:=by omega
 cases n with
 |nil=>simp -implicitDefEqProofs [e1,e4,hb]
 |cons c n=>
  rw [if_neg (by simp)]
  simp only [List.length_cons] at q1 q2 q3 q4
  have q5:w.length+(1+(n.length+1))≤9223372036854775807:=by omega
  have q6:w.length+(n.length+1+1)≤9223372036854775807:=by omega
  have q7:1+(n.length+1)≤9223372036854775807:=by omega
  have q8:n.length+1+1≤9223372036854775807:=by omega
  have q9:n.length+1≤9223372036854775806:=by omega
  have q0:n.length≤9223372036854775805:=by omega
  simp -implicitDefEqProofs [e1,e4,hb,q1,q2,q3,q4,q5,q6,q7,q8,q9,q0]
def wordsA:List AV:=[.str [],.str [99,108,111,99,107],.str [110,111,116,105,102,121],.str [103,111,97,108],.str [119,105,110,100,111,119,115],.str [112,101,114,105,111,100],.str [97,108,101,114,116,115],.str [101,112,105,115,111,100,101],.str [98,111,120],.str [101,110,116,114,121],.str [97,99,107,101,100],.str [115,105,108,101,110,99,101]]
theorem wordsA_at {k:Int} (h1:1≤k) (h2:k≤11):wordsA[k.toNat]?=some (.str (wordF k)):=by
 rcases k_cases h1 h2 with rfl|rfl|rfl|rfl|rfl|rfl|rfl|rfl|rfl|rfl|rfl<;>rfl
theorem aprint_tail3 (k:Int) (n:List UInt8) (hn:n.length≤1000000) (e:List (Nat×AV)) (bx:List (Id×List AV)) (pm:List (Pl×Nat)) (W:List AV) (hW:1≤k→k≤11→W[k.toNat]?=some (.str (wordF k)))
  (e1:lk e 1= .ptr (.n 1) 0) (e3:lk e 3= .ptr (.n 3) 0) (e4:lk e 4= .str [63]) (hb:lkB bx (.n 1)=some [i6 k,.str n]) (hb3:lkB bx (.n 3)=some W):
  wpA (SpH Tryz.prog gl) (AC.tl 3 c27) (postA [.t 2] (.str (printF k n))) ⟨e,bx,pm⟩:=by
 have tail:=aprint_tail k n hn
 have ec:AC.tl 3 c27=AC.cutAt 1 (AC.tl 4 c27) (AC.tl 3 c27):=rfl
 rw [ec]
 generalize AC.tl 4 c27=t at tail ⊢
 simp only [c27,AC.tl,AC.cutAt]
 by_cases h1:1≤k
 ·by_cases h2:k≤11
  ·have h3:0≤k:=by omega
   have h4:k<12:=by omega
   have hW:=hW h1 h2
   simp -implicitDefEqProofs [e1,e3,e4,hb,hb3,h1,h2,h3,h4,hW]
   refine tail _ _ _ ?_ ?_ ?_<;>simp -implicitDefEqProofs [e1,e3,e4,hb]
  ·have hw:=wordF_none (k:=k) (by omega)
   simp -implicitDefEqProofs [e1,e3,e4,hb,h1,h2]
   refine tail _ _ _ ?_ ?_ ?_<;>simp -implicitDefEqProofs [hw,e1,e3,e4,hb]
 ·have hw:=wordF_none (k:=k) (by omega)
  simp -implicitDefEqProofs [e1,e3,e4,hb,h1]
  refine tail _ _ _ ?_ ?_ ?_<;>simp -implicitDefEqProofs [hw,e1,e3,e4,hb]
set_option maxHeartbeats 4000000 in
theorem aprint_spec (k:Int) (n:List UInt8) (hn:n.length≤1000000):Sp Tryz.prog gl 27 [.agg [i6 k,.str n]] (.str (printF k n)):=by
 refine s27 rfl rfl ?_
 have tail:=fun e bx pm=>aprint_tail3 k n hn e bx pm wordsA wordsA_at
 have ec:c27=AC.cutAt 3 (AC.tl 3 c27) c27:=rfl
 rw [ec]
 generalize AC.tl 3 c27=t at tail ⊢
 simp only [c27,AC.cutAt]
 simp -implicitDefEqProofs
 refine tail _ _ _ ?_ ?_ ?_ ?_ ?_<;>simp -implicitDefEqProofs [wordsA]
theorem awake35_spec:Sp Tryz.prog gl 8 [] (.bool true):=by
 refine s8 rfl rfl ?_
 have LK:=look0_spec
 have P1:=aprint_spec 1 [] (by simp)
 have P2:=aprint_spec 2 [] (by simp)
 have w1:printF 1 []=[99,108,111,99,107]:=rfl
 have w2:printF 2 []=[110,111,116,105,102,121]:=rfl
 rw [w1] at P1
 rw [w2] at P2
 unfold M0 at LK
 simp -implicitDefEqProofs [c8]
 refine onC_mk _ LK ?_
 simp -implicitDefEqProofs
 refine onC_mk _ P1 ?_
 simp -implicitDefEqProofs
 refine onC_mk _ P2 ?_
 simp -implicitDefEqProofs
open Go.Proofs
end Go.Ai
namespace Go.Ai
open Go.Proofs
open Go.Proofs
def heavyEn (es:List En):Bool:=decide (80<es.length)||es.any fun e=>heavyK e.k
def heavySi (ss:List Si):Bool:=decide (30<ss.length)||ss.any fun s=>decide (500<s.n.length)||decide (500<s.g.length)
def heavyGv (g:GV):Bool:=heavyG g.g||(decide (20<g.ws.length)||decide (10<g.al.length))
def heavyVw (x:Vw):Bool:=decide (8<x.gs.length)||(heavyEn x.es||(heavySi x.ss||x.gs.any heavyGv))
theorem anyD {α:Type} (p:α→Bool) (l:List α) (i:Nat) (h:i<l.length):(l.drop i).any p=(p l[i]||(l.drop (i+1)).any p):=by
 rw [List.drop_eq_getElem_cons h,List.any_cons]
theorem heavyEn_spec (es:List En) (dr:Nat):Sp Tryz.prog gl 28 [.agg [.sl (es.map En.row),u dr]] (.bool (heavyEn es)):=by
 refine s28 rfl rfl ?_
 unfold heavyEn
 have rl:(es.map En.row).length=es.length:=by simp
 by_cases h:80<es.length
 ·have h':(80:Int)<es.length:=by omega
  simp -implicitDefEqProofs [c28,h,h']
 ·have h': ¬(80:Int)<es.length:=by omega
  rw [decide_eq_false h,Bool.false_or]
  obtain ⟨R,hR⟩: ∃R,R=es.any fun e=>heavyK e.k:=⟨_,rfl⟩
  rw [←hR]
  have rat:=en_at es
  simp -implicitDefEqProofs [c28,h,h']
  refine wp_lpk (α:=Nat) (fun i=>⟨[(1,.ptr (.n 1) 0),(3,i6 i)],[(.n 1,[.sl (es.map En.row),u dr])],[]⟩)
   (fun i=>i≤es.length∧((es.drop i).any fun e=>heavyK e.k)=R) (fun i=>es.length - i) ?_ 0 ?_ ?_
  ·rintro K i hK ⟨h1,h2⟩
   by_cases gi:i<es.length
   ·have t1:IntKind.i64.wrap ((i:Int)+1)=(i+1:Nat):=by rw [wrap_i64]<;>omega
    have gR:i<(es.map En.row).length:=by omega
    have ra:=rat i gi gR
    rw [anyD _ es i gi] at h2
    have HX:=xheavy_spec es[i].k
    change Sp _ _ _ _ (.bool (heavyK es[i].k)) at HX
    have kr:es[i].k.row=[.str es[i].k.g,.str es[i].k.r,.bool es[i].k.p,u es[i].k.e,.bool es[i].k.f]:=rfl
    rw [kr] at HX
    have fin:((es.drop (i+1)).any fun e=>heavyK e.k)=R→ ∀σ',Weak σ' ⟨[(1,.ptr (.n 1) 0),(3,i6 (i+1:Nat))],[(.n 1,[.sl (es.map En.row),u dr])],[]⟩→K σ':=
     fun hh σ' hσ=>hK (i+1) σ' ⟨by omega,hh⟩ (by omega) hσ
    clear hK hR rat kr
    generalize heavyK es[i].k=hk at *
    generalize es[i]=a at *
    generalize es.map En.row=RW at *
    simp -implicitDefEqProofs [gi,gR,ra,rl]
    refine onC_mk _ HX ?_
    cases hk
    ·rw [Bool.false_or] at h2
     have fin:=fin h2
     simp -implicitDefEqProofs
     refine fin _ (weak_mk ?_ ?_ ?_ ?_ ?_ ?_)<;>simp -implicitDefEqProofs [t1]
    ·rw [Bool.true_or] at h2
     subst h2
     simp -implicitDefEqProofs
   ·obtain rfl:i=es.length:=by omega
    rw [List.drop_length] at h2
    simp only [List.any_nil] at h2
    subst h2
    clear hK rat
    simp -implicitDefEqProofs [rl]
  ·exact ⟨Nat.zero_le _,by rw [List.drop_zero];exact hR.symm⟩
  ·refine weak_mk ?_ ?_ ?_ ?_ ?_ ?_<;>simp -implicitDefEqProofs
theorem si_at (l:List Si) (i:Nat) (h:i<l.length) (h2:i<(l.map Si.row).length):(l.map Si.row)[i]=[.str l[i].n,.str l[i].g,i6 l[i].wh,i6 l[i].fr,i6 l[i].tl]:=by simp [Si.row]
theorem heavySi_spec (ss:List Si):Sp Tryz.prog gl 29 [.sl (ss.map Si.row)] (.bool (heavySi ss)):=by
 refine s29 rfl rfl ?_
 unfold heavySi
 have rl:(ss.map Si.row).length=ss.length:=by simp
 by_cases h:30<ss.length
 ·have h':(30:Int)<ss.length:=by omega
  simp -implicitDefEqProofs [c29,h,h']
 ·have h': ¬(30:Int)<ss.length:=by omega
  rw [decide_eq_false h,Bool.false_or]
  obtain ⟨R,hR⟩: ∃R,R=ss.any fun s=>decide (500<s.n.length)||decide (500<s.g.length):=⟨_,rfl⟩
  rw [←hR]
  have rat:=si_at ss
  simp -implicitDefEqProofs [c29,h,h']
  refine wp_lpk (α:=Nat) (fun i=>⟨[(0,.sl (ss.map Si.row)),(3,i6 i)],[],[]⟩)
   (fun i=>i≤ss.length∧((ss.drop i).any fun s=>decide (500<s.n.length)||decide (500<s.g.length))=R) (fun i=>ss.length - i) ?_ 0 ?_ ?_
  ·rintro K i hK ⟨h1,h2⟩
   by_cases gi:i<ss.length
   ·have t1:IntKind.i64.wrap ((i:Int)+1)=(i+1:Nat):=by rw [wrap_i64]<;>omega
    have gR:i<(ss.map Si.row).length:=by omega
    have ra:=rat i gi gR
    rw [anyD _ ss i gi] at h2
    have fin:((ss.drop (i+1)).any fun s=>decide (500<s.n.length)||decide (500<s.g.length))=R→ ∀σ',Weak σ' ⟨[(0,.sl (ss.map Si.row)),(3,i6 (i+1:Nat))],[],[]⟩→K σ':=
     fun hh σ' hσ=>hK (i+1) σ' ⟨by omega,hh⟩ (by omega) hσ
    clear hK hR rat
    generalize ss[i]=a at *
    generalize ss.map Si.row=RW at *
    by_cases c1:500<a.n.length
    ·rw [decide_eq_true c1,Bool.true_or,Bool.true_or] at h2
     subst h2
     have c1':(500:Int)<a.n.length:=by omega
     simp -implicitDefEqProofs [gi,gR,ra,rl,c1']
    ·have c1': ¬(500:Int)<a.n.length:=by omega
     by_cases c2:500<a.g.length
     ·rw [decide_eq_true c2,Bool.or_true,Bool.true_or] at h2
      subst h2
      have c2':(500:Int)<a.g.length:=by omega
      simp -implicitDefEqProofs [gi,gR,ra,rl,c1',c2']
     ·rw [decide_eq_false c1,decide_eq_false c2,Bool.false_or,Bool.false_or] at h2
      have fin:=fin h2
      have c2': ¬(500:Int)<a.g.length:=by omega
      simp -implicitDefEqProofs [gi,gR,ra,rl,c1',c2']
      refine fin _ (weak_mk ?_ ?_ ?_ ?_ ?_ ?_)<;>simp -implicitDefEqProofs [t1]
   ·obtain rfl:i=ss.length:=by omega
    rw [List.drop_length] at h2
    simp only [List.any_nil] at h2
    subst h2
    clear hK rat
    simp -implicitDefEqProofs [rl]
  ·exact ⟨Nat.zero_le _,by rw [List.drop_zero];exact hR.symm⟩
  ·refine weak_mk ?_ ?_ ?_ ?_ ?_ ?_<;>simp -implicitDefEqProofs
open Go.Proofs
set_option maxRecDepth 40000 in
theorem heavyVw_spec (x:Vw):Sp Tryz.prog gl 9 [.agg x.row] (.bool (heavyVw x)):=by
 refine s9 rfl rfl ?_
 unfold heavyVw
 have EN:=heavyEn_spec x.es x.dr
 have SI:=heavySi_spec x.ss
 have rl:(x.gs.map GV.row).length=x.gs.length:=by simp
 have rat:=gv_at x.gs
 have hM2: ∀h:2<x.row.length,x.row[2]=(.sl (x.gs.map GV.row)):=by intro h;rfl
 have hM10: ∀h:10<x.row.length,x.row[10]=(.sl (x.ss.map Si.row)):=by intro h;rfl
 have hMb:List.take 2 (List.drop 8 x.row)=[.sl (x.es.map En.row),u x.dr]:=rfl
 have hMl:x.row.length=11:=rfl
 have hM0:idsL x.row=[]:=rfl
 generalize x.row=M at *
 by_cases h8:8<x.gs.length
 ·have h8':(8:Int)<x.gs.length:=by omega
  simp only [decide_eq_true h8,Bool.true_or]
  simp -implicitDefEqProofs [c9,hM2,hMl,h8,h8',rl]
 ·have h8': ¬(8:Int)<x.gs.length:=by omega
  simp only [decide_eq_false h8,Bool.false_or]
  generalize heavyEn x.es=he at *
  generalize heavySi x.ss=hs at *
  cases he
  ·cases hs
   ·rw [Bool.false_or,Bool.false_or]
    obtain ⟨R,hR⟩: ∃R,R=x.gs.any heavyGv:=⟨_,rfl⟩
    rw [←hR]
    simp -implicitDefEqProofs [c9,hM2,hM10,hMb,hMl,h8,h8',rl]
    refine onC_mk _ EN ?_
    simp -implicitDefEqProofs [hM10,hMl]
    refine onC_mk _ SI ?_
    simp -implicitDefEqProofs
    refine wp_lpk (α:=Nat) (fun i=>⟨[(1,.ptr (.n 1) 0),(3,i6 i)],[(.n 1,M)],[]⟩)
     (fun i=>i≤x.gs.length∧(x.gs.drop i).any heavyGv=R) (fun i=>x.gs.length - i) ?_ 0 ?_ ?_
    ·rintro K i hK ⟨h1,h2⟩
     by_cases gi:i<x.gs.length
     ·have t1:IntKind.i64.wrap ((i:Int)+1)=(i+1:Nat):=by rw [wrap_i64]<;>omega
      have gR:i<(x.gs.map GV.row).length:=by omega
      have ra:=rat i gi gR
      rw [anyD _ x.gs i gi] at h2
      rw [GV_row] at ra
      have HG:=heavyG_spec x.gs[i].g
      have gr:x.gs[i].g.row=[.str x.gs[i].g.n,.int .u32 x.gs[i].g.t,i6 x.gs[i].g.g,i6 x.gs[i].g.a,i6 x.gs[i].g.o,i6 x.gs[i].g.c,.sl (x.gs[i].g.lb.map Lb.row),.sl (x.gs[i].g.ru.map Ru.row)]:=rfl
      rw [gr] at HG
      have fin:(x.gs.drop (i+1)).any heavyGv=R→ ∀σ',Weak σ' ⟨[(1,.ptr (.n 1) 0),(3,i6 (i+1:Nat))],[(.n 1,M)],[]⟩→K σ':=
       fun hh σ' hσ=>hK (i+1) σ' ⟨by omega,hh⟩ (by omega) hσ
      unfold heavyGv at h2
      have wl:(x.gs[i].ws.map WV.row).length=x.gs[i].ws.length:=by simp
      have al:(x.gs[i].al.map Al.row).length=x.gs[i].al.length:=by simp
      clear hK hR rat gr EN SI hMb hM10
      generalize heavyG x.gs[i].g=hg at *
      generalize x.gs[i].ws.map WV.row=WR at *
      generalize x.gs[i].al.map Al.row=AR0 at *
      generalize x.gs[i].g.lb.map Lb.row=LR at *
      generalize x.gs[i].g.ru.map Ru.row=RR0 at *
      generalize x.gs[i]=g at *
      generalize x.gs.map GV.row=RW at *
      simp -implicitDefEqProofs [gi,gR,ra,rl,hM2,hMl]
      refine onC_mk _ HG ?_
      cases hg
      ·rw [Bool.false_or] at h2
       by_cases c1:20<g.ws.length
       ·have c1':(20:Int)<g.ws.length:=by omega
        rw [decide_eq_true c1,Bool.true_or,Bool.true_or] at h2
        subst h2
        simp -implicitDefEqProofs [gi,gR,ra,rl,hM2,hMl,c1',wl]
       ·have c1': ¬(20:Int)<g.ws.length:=by omega
        by_cases c2:10<g.al.length
        ·have c2':(10:Int)<g.al.length:=by omega
         rw [decide_eq_false c1,decide_eq_true c2,Bool.false_or,Bool.true_or] at h2
         subst h2
         simp -implicitDefEqProofs [gi,gR,ra,rl,hM2,hMl,c1',c2',wl,al]
        ·have c2': ¬(10:Int)<g.al.length:=by omega
         rw [decide_eq_false c1,decide_eq_false c2,Bool.false_or,Bool.false_or] at h2
         have fin:=fin h2
         simp -implicitDefEqProofs [gi,gR,ra,rl,hM2,hMl,c1',c2',wl,al]
         refine fin _ (weak_mk ?_ ?_ ?_ ?_ ?_ ?_)<;>simp -implicitDefEqProofs [t1,hM0]
      ·rw [Bool.true_or,Bool.true_or] at h2
       subst h2
       simp -implicitDefEqProofs
     ·obtain rfl:i=x.gs.length:=by omega
      rw [List.drop_length] at h2
      simp only [List.any_nil] at h2
      subst h2
      clear hK rat
      simp -implicitDefEqProofs [rl,hM2,hMl]
    ·exact ⟨Nat.zero_le _,by rw [List.drop_zero];exact hR.symm⟩
    ·refine weak_mk ?_ ?_ ?_ ?_ ?_ ?_<;>simp -implicitDefEqProofs [hM0]
   ·simp only [Bool.false_or,Bool.true_or]
    simp -implicitDefEqProofs [c9,hM2,hM10,hMb,hMl,h8,h8',rl]
    refine onC_mk _ EN ?_
    simp -implicitDefEqProofs [hM10,hMl]
    refine onC_mk _ SI ?_
    simp -implicitDefEqProofs
  ·simp only [Bool.true_or]
   simp -implicitDefEqProofs [c9,hM2,hM10,hMb,hMl,h8,h8',rl]
   refine onC_mk _ EN ?_
   simp -implicitDefEqProofs
end Go.Ai
namespace Go.Ai
open Go.Proofs Go.Shelf
end Go.Ai
