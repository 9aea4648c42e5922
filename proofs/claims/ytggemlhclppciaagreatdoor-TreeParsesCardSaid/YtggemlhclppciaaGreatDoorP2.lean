/- P2: a part of the proof: the rules, or what functions compute. Conditions: as each theorem says. -/
import Derived.Test.YtggemlhclppciaaGreatDoorP1
set_option linter.unusedSimpArgs false
set_option linter.unusedVariables false
set_option maxRecDepth 20000
namespace Go.Ai
open Go.Proofs
def LOk (f:Nat):Prop:= ∀(d:Nat) (e:Int) (l:List Tk) (n:Nat) (D:Nat) (b:Id),b.isIt=false→b.isNw D=false→d≤5→n≤300→
 (∀o l' n',pL f d e [] l n= .ok o l' n'→SpH Tryz.prog gl 49 D ⟨[.ptr b 0,i6 d,i6 e],[(b,paB l n)],[]⟩ ⟨.sl (itRows o),[(b,paB l' n')],[]⟩)∧
 (∀c t l' n',pL f d e [] l n= .th c t l' n'→SpT Tryz.prog gl 49 D ⟨[.ptr b 0,i6 d,i6 e],[(b,paB l n)],[]⟩ ⟨fltV c t,[(b,paB l' n')],[]⟩)
def IOk (f:Nat):Prop:= ∀(d:Nat) (x:Tk) (l:List Tk) (n:Nat) (D:Nat) (b:Id),b.isIt=false→b.isNw D=false→d≤4→n≤300→
 (∀y l' n',pI f d x.t x.ln x.co [] l n= .ok y l' n'→SpH Tryz.prog gl 81 D ⟨[.ptr b 0,.agg x.row,i6 d],[(b,paB l n)],[]⟩ ⟨.agg y.row,[(b,paB l' n')],[]⟩)∧
 (∀c t l' n',pI f d x.t x.ln x.co [] l n= .th c t l' n'→SpT Tryz.prog gl 81 D ⟨[.ptr b 0,.agg x.row,i6 d],[(b,paB l n)],[]⟩ ⟨fltV c t,[(b,paB l' n')],[]⟩)
set_option maxHeartbeats 2000000 in
theorem list_wp (f d:Nat) (e:Int) (l:List Tk) (n:Nat) (D:Nat) (b:Id) (hb:b.isIt=false) (hbd:b.isNw D=false) (hd:d≤5) (hn:n≤300) (hI: ∀g,g<f→IOk g) (Q:AE→St→Prop) (Rp:AV→St→Prop) (hno:pL f d e [] l n≠ .no)
  (hQ: ∀o l' n',pL f d e [] l n= .ok o l' n'→ ∀σ,postH D [.t 6] ⟨.sl (itRows o),[(b,paB l' n')],[]⟩ .r σ→Q .r σ)
  (hR: ∀c t l' n',pL f d e [] l n= .th c t l' n'→ ∀v σ,postT D ⟨fltV c t,[(b,paB l' n')],[]⟩ v σ→Rp v σ):
  wpA2 (SpH Tryz.prog gl) (SpT Tryz.prog gl) Rp c49 Q (inSt ⟨[.ptr b 0,i6 d,i6 e],[(b,paB l n)],[]⟩):=by
 have hib:=inn_notNw hbd
 obtain ⟨R,hRR⟩: ∃R,R=pL f d e [] l n:=⟨_,rfl⟩
 rw [←hRR] at hno hQ hR
 have hlim:lim=140737488355328:=rfl
 unfold paB at *
 simp only [inSt,mpB,mpL,AV.mp,mpP,Pl.mp]
 simp -implicitDefEqProofs [c49]
 refine wp_lpk2 (α:=Nat×List It×List Tk×Nat) (fun y=>⟨[(0,.ptr (.up b) 0),(1,i6 d),(2,i6 e),(7,.sl (itRows y.2.1))],[(.up b,[.sl (y.2.2.1.map Tk.row),i6 y.2.2.2])],[(.s 7,6)]⟩) (fun y=>y.1≤f∧y.2.1.length≤y.2.2.2∧y.2.2.2≤300∧pL y.1 d e y.2.1 y.2.2.1 y.2.2.2=R) (fun y=>y.1) ?_ (f,[],l,n) ?_ ?_
 ·rintro K ⟨g,out,l,n⟩ hK ⟨hg,ho,hn,he⟩
  simp only at hg ho hn he
  cases g with
  |zero=>exact absurd (by rw [←he];simp [pL]) hno
  |succ g=>
   cases l with
   |nil=>exact absurd (by rw [←he];simp [pL]) hno
   |cons t r=>
    rw [pL] at he
    have NX:=fun D h=>pnext_spec t r n D (.up b) hb h
    unfold paB at NX
    have hri:=it_six out
    have hrl:=itRows_len out
    have hll:((itRows out).length+1)*88≤lim:=by rw [hlim,hrl];omega
    have TH:=fun (c:Int) (D:Nat)=>throw_spec c t D
    simp only [Tk.row] at NX TH
    rw [List.map_cons,Tk.row] at *
    have hi1:=hI g (by omega)
    obtain ⟨tk,tt,tn,tl,tc⟩:=t
    simp only [Tk.row] at NX TH he ⊢
    have e2:(tk==e)=decide (tk=e):=rfl
    generalize nxt (⟨tk,tt,tn,tl,tc⟩::r)=l2 at *
    generalize List.map Tk.row r=LR at *
    simp -implicitDefEqProofs
    refine onH_mk _ _ (NX _ rfl) ⟨?_,?_,?_,?_,?_,?_,?_⟩ ?_
    iterate 7 (· simp)
    simp -implicitDefEqProofs
    by_cases c1:tk=e
    ·rw [if_pos c1] at he
     have c1':(tk==e)=true:=by simpa using c1
     clear hK hR hI hi1
     simp -implicitDefEqProofs [c1,c1']
     refine hQ _ _ _ he.symm _ ?_
     refine postH_r ⟨?_,?_,?_,?_,?_,?_⟩<;>simp -implicitDefEqProofs [hib,hb]
    rw [if_neg c1] at he
    have c1':(tk==e)=false:=by simpa using c1
    by_cases c2:tk≠1
    ·rw [if_pos c2] at he
     have c2':(tk !=1)=true:=by simpa using c2
     clear hK hQ hI hi1
     simp -implicitDefEqProofs [c1,c1',c2,c2']
     refine onP_t _ _ (TH 6 _) ⟨?_,?_,?_,?_,?_,?_,?_⟩ rfl ?_
     iterate 7 (· simp)
     refine hR _ _ _ _ he.symm _ _ ⟨rfl,by simp,?_⟩
     refine ⟨?_,?_,?_,?_,?_,?_⟩<;>simp -implicitDefEqProofs [hib,hb]
    rw [if_neg c2] at he
    have c2:tk=1:=by omega
    by_cases c3:4<d
    ·rw [if_pos c3] at he
     have c3':(4:Int)<d:=by omega
     have c2':(tk !=1)=false:=by simpa using c2
     clear hK hQ hI hi1 c2
     simp -implicitDefEqProofs [c1,c1',c2',c3,c3']
     refine onP_t _ _ (TH 19 _) ⟨?_,?_,?_,?_,?_,?_,?_⟩ rfl ?_
     iterate 7 (· simp)
     refine hR _ _ _ _ he.symm _ _ ⟨rfl,by simp,?_⟩
     refine ⟨?_,?_,?_,?_,?_,?_⟩<;>simp -implicitDefEqProofs [hib,hb]
    rw [if_neg c3] at he
    have c3': ¬(4:Int)<d:=by omega
    by_cases c4:n=300
    ·rw [if_pos c4] at he
     have c4':((n:Int)==300)=true:=by rw [c4];rfl
     have c2':(tk !=1)=false:=by simpa using c2
     clear hK hQ hI hi1 c2
     subst c4
     simp -implicitDefEqProofs [c1,c1',c2',c3,c3',c4']
     refine onP_t _ _ (TH 9 _) ⟨?_,?_,?_,?_,?_,?_,?_⟩ rfl ?_
     iterate 7 (· simp)
     refine hR _ _ _ _ he.symm _ _ ⟨rfl,by simp,?_⟩
     refine ⟨?_,?_,?_,?_,?_,?_⟩<;>simp -implicitDefEqProofs [hib,hb]
    rw [if_neg c4] at he
    have c4':((n:Int)==300)=false:=beq_eq_false_iff_ne.2 (by omega)
    have c2':(tk !=1)=false:=by simpa using c2
    have t1:IntKind.i64.wrap ((n:Int)+1)=(n+1:Nat):=by rw [wrap_i64]<;>omega
    have hcn:=(p_cnt g).2 d tt tl tc [] l2 (n+1)
    have hiO:=fun D h=>(hi1 d ⟨tk,tt,tn,tl,tc⟩ l2 (n+1) D (.up b) hb h (by omega) (by omega)).1
    have hiT:=fun D h=>(hi1 d ⟨tk,tt,tn,tl,tc⟩ l2 (n+1) D (.up b) hb h (by omega) (by omega)).2
    simp only [Tk.row] at hiO hiT
    clear hi1 hI
    split at he
    ·rename_i x l3 n3 hx
     have IOk:=fun D h=>hiO D h _ _ _ hx
     have hc3:=hcn _ _ _ hx (by omega)
     have fin:=fun σ' hσ=>hK (g,out++[x],l3,n3) σ' ⟨by omega,by simp only [List.length_append,List.length_singleton];omega,hc3.2,he⟩ (by simp only;omega) hσ
     simp only [itRows_app,itRows] at fin
     obtain ⟨xn,ws,xb,ks,xl,xc⟩:=x
     simp only [It.row] at IOk fin
     unfold paB at IOk
     clear hiO hiT hK hQ hR TH NX hcn hx
     generalize itRows out=OR at *
     generalize itRows ks=KR at *
     generalize List.map Tk.row ws=WR at *
     generalize List.map Tk.row l3=L3 at *
     generalize List.map Tk.row l2=L2 at *
     simp -implicitDefEqProofs [c1,c1',c2',c3,c3',c4,c4',t1]
     refine onP_h _ _ (IOk _ rfl) ⟨?_,?_,?_,?_,?_,?_,?_⟩ ?_
     iterate 7 (· simp [t1])
     simp -implicitDefEqProofs [hlim]
     refine ⟨by omega,hri,?_⟩
     refine fin _ ?_
     refine weak_mk ?_ ?_ ?_ ?_ ?_ ?_<;>simp -implicitDefEqProofs [t1]
    ·rename_i c' t' l3 n3 hx
     have IT:=fun D h=>hiT D h _ _ _ _ hx
     unfold paB at IT
     clear hiO hiT hK hQ TH NX hcn hx
     simp -implicitDefEqProofs [c1,c1',c2',c3,c3',c4,c4',t1]
     refine onP_t _ _ (IT _ rfl) ⟨?_,?_,?_,?_,?_,?_,?_⟩ rfl ?_
     iterate 7 (· simp [t1])
     refine hR _ _ _ _ he.symm _ _ ⟨rfl,by simp,?_⟩
     refine ⟨?_,?_,?_,?_,?_,?_⟩<;>simp -implicitDefEqProofs [hib,hb]
    ·exact absurd he.symm hno
 ·exact ⟨Nat.le_refl _,Nat.zero_le _,hn,hRR.symm⟩
 ·refine weak_mk ?_ ?_ ?_ ?_ ?_ ?_<;>simp -implicitDefEqProofs [itRows]
theorem list_ok (f:Nat) (hI: ∀g,g<f→IOk g):LOk f:=by
 intro d e l n D b hb hbd hd hn
 refine ⟨fun o l' n' h=>?_,fun c t l' n' h=>?_⟩
 ·refine h49 rfl ?_
  refine list_wp f d e l n D b hb hbd hd hn hI _ _ (by rw [h];simp) (fun o2 l2 n2 h2 σ hp=>?_) (fun c t l' n' h2=>by rw [h] at h2;cases h2)
  rw [h] at h2
  cases h2
  exact hp
 ·refine t49 rfl ?_
  refine list_wp f d e l n D b hb hbd hd hn hI _ _ (by rw [h];simp) (fun o2 l2 n2 h2=>by rw [h] at h2;cases h2) (fun c2 t2 l2 n2 h2 v σ hp=>?_)
  rw [h] at h2
  cases h2
  exact hp
open Go.Proofs
set_option maxHeartbeats 2000000 in
theorem item_wp (f d:Nat) (x:Tk) (l:List Tk) (n:Nat) (D:Nat) (b:Id) (hb:b.isIt=false) (hbd:b.isNw D=false) (hd:d≤4) (hn:n≤300) (hL: ∀g,g<f→LOk g) (Q:AE→St→Prop) (Rp:AV→St→Prop) (hno:pI f d x.t x.ln x.co [] l n≠ .no)
  (hQ: ∀y l' n',pI f d x.t x.ln x.co [] l n= .ok y l' n'→ ∀σ,postH D [.ca 6 6] ⟨.agg y.row,[(b,paB l' n')],[]⟩ .r σ→Q .r σ)
  (hR: ∀c t l' n',pI f d x.t x.ln x.co [] l n= .th c t l' n'→ ∀v σ,postT D ⟨fltV c t,[(b,paB l' n')],[]⟩ v σ→Rp v σ):
  wpA2 (SpH Tryz.prog gl) (SpT Tryz.prog gl) Rp c81 Q (inSt ⟨[.ptr b 0,.agg x.row,i6 d],[(b,paB l n)],[]⟩):=by
 have hib:=inn_notNw hbd
 obtain ⟨R,hRR⟩: ∃R,R=pI f d x.t x.ln x.co [] l n:=⟨_,rfl⟩
 rw [←hRR] at hno hQ hR
 have hlim:lim=140737488355328:=rfl
 have w1:IntKind.i64.wrap ((d:Int)+1)=(d+1:Nat):=by rw [wrap_i64]<;>omega
 obtain ⟨xk,nm,xn,ln,co⟩:=x
 simp only [Tk.row] at *
 unfold paB at *
 simp only [inSt,mpB,mpL,AV.mp,mpP,Pl.mp]
 simp -implicitDefEqProofs [c81]
 refine wp_lpk2 (α:=Nat×List Tk×List Tk×Nat) (fun y=>⟨[(0,.ptr (.up b) 0),(2,i6 d),(6,.ptr (.n 6) 0),(7,.ptr (.n 7) 0)],[(.n 7,[.str nm,.sl (y.2.1.map Tk.row),.bool false,.sl [],i6 ln,i6 co]),(.n 6,[.str [],.nils,.bool false,.nils,i6 0,i6 0]),(.up b,[.sl (y.2.2.1.map Tk.row),i6 y.2.2.2])],[(.b (.n 7) 1,5)]⟩) (fun y=>y.1≤f∧y.2.1.length≤6∧y.2.2.2≤300∧pI y.1 d nm ln co y.2.1 y.2.2.1 y.2.2.2=R) (fun y=>y.1) ?_ (f,[],l,n) ?_ ?_
 ·rintro K ⟨g,ws,l,n⟩ hK ⟨hg,ho,hn,he⟩
  simp only at hg ho hn he
  cases g with
  |zero=>exact absurd (by rw [←he];simp [pI]) hno
  |succ g=>
   cases l with
   |nil=>exact absurd (by rw [←he];simp [pI]) hno
   |cons t r=>
    rw [pI] at he
    have NX:=fun D h=>pnext_spec t r n D (.up b) hb h
    unfold paB at NX
    have hwr:=tk_five ws
    have hwl:(ws.map Tk.row).length=ws.length:=List.length_map _
    have TH:=fun (c:Int) (D:Nat)=>throw_spec c t D
    simp only [Tk.row] at NX TH
    rw [List.map_cons,Tk.row] at *
    have hl1:=hL g (by omega)
    obtain ⟨tk,tt,tn,tl,tc⟩:=t
    simp only [Tk.row] at NX TH he ⊢
    have fin0:pI g d nm ln co (ws++[⟨tk,tt,tn,tl,tc⟩]) (nxt (⟨tk,tt,tn,tl,tc⟩::r)) n=R→ws.length≠6→ ∀σ',Weak σ' ⟨[(0,.ptr (.up b) 0),(2,i6 d),(6,.ptr (.n 6) 0),(7,.ptr (.n 7) 0)],[(.n 7,[.str nm,.sl (ws.map Tk.row++[[i6 tk,.str tt,u tn,i6 tl,i6 tc]]),.bool false,.sl [],i6 ln,i6 co]),(.n 6,[.str [],.nils,.bool false,.nils,i6 0,i6 0]),(.up b,[.sl ((nxt (⟨tk,tt,tn,tl,tc⟩::r)).map Tk.row),i6 n])],[(.b (.n 7) 1,5)]⟩→K σ':=fun hp h6 σ' hσ=>
     hK (g,ws++[⟨tk,tt,tn,tl,tc⟩],nxt (⟨tk,tt,tn,tl,tc⟩::r),n) σ' ⟨by omega,by simp only [List.length_append,List.length_singleton];omega,hn,hp⟩ (by simp only;omega) (by
      simp only [List.map_append,List.map_cons,List.map_nil,Tk.row]
      exact hσ)
    generalize nxt (⟨tk,tt,tn,tl,tc⟩::r)=l2 at *
    generalize List.map Tk.row r=LR at *
    clear hK
    simp -implicitDefEqProofs
    refine onH_mk _ _ (NX _ rfl) ⟨?_,?_,?_,?_,?_,?_,?_⟩ ?_
    iterate 7 (· simp)
    simp -implicitDefEqProofs
    by_cases c1:tk=9
    ·rw [if_pos c1] at he
     have c1':(tk==9)=true:=by simpa using c1
     have hq:=hQ _ _ _ he.symm
     simp only [It.row,itRows] at hq
     clear hQ hR hL hl1 fin0 NX TH
     generalize List.map Tk.row ws=WR at *
     generalize List.map Tk.row l2=L2 at *
     simp -implicitDefEqProofs [c1,c1']
     refine hq _ ?_
     refine postH_r ⟨?_,?_,?_,?_,?_,?_⟩<;>simp -implicitDefEqProofs [hib,hb]
    rw [if_neg c1] at he
    have c1':(tk==9)=false:=by simpa using c1
    by_cases c7:tk=7
    ·rw [if_pos c7] at he
     have c7':(tk==7)=true:=by simpa using c7
     have hlO:=fun D h=>(hl1 (d+1) 8 l2 n D (.up b) hb h (by omega) hn).1
     have hlT:=fun D h=>(hl1 (d+1) 8 l2 n D (.up b) hb h (by omega) hn).2
     unfold paB at hlO hlT
     clear hl1 hL fin0 NX TH
     split at he
     ·rename_i ks l3 n3 hx
      have LO:=fun D h=>hlO D h _ _ _ hx
      have hq:=hQ _ _ _ he.symm
      simp only [It.row] at hq
      clear hlO hlT hx hQ hR
      generalize itRows ks=KR at *
      generalize List.map Tk.row ws=WR at *
      generalize List.map Tk.row l3=L3 at *
      generalize List.map Tk.row l2=L2 at *
      simp -implicitDefEqProofs [c1,c1',c7,c7',w1]
      refine onP_h _ _ (LO _ rfl) ⟨?_,?_,?_,?_,?_,?_,?_⟩ ?_
      iterate 7 (· simp)
      simp -implicitDefEqProofs
      refine hq _ ?_
      refine postH_r ⟨?_,?_,?_,?_,?_,?_⟩<;>simp -implicitDefEqProofs [hib,hb]
     ·rename_i c' t' l3 n3 hx
      have LT:=fun D h=>hlT D h _ _ _ _ hx
      clear hlO hlT hQ hx
      generalize List.map Tk.row ws=WR at *
      simp -implicitDefEqProofs [c1,c1',c7,c7',w1]
      refine onP_t _ _ (LT _ rfl) ⟨?_,?_,?_,?_,?_,?_,?_⟩ rfl ?_
      iterate 7 (· simp)
      refine hR _ _ _ _ he.symm _ _ ⟨rfl,by simp,?_⟩
      refine ⟨?_,?_,?_,?_,?_,?_⟩<;>simp -implicitDefEqProofs [hib,hb]
     ·exact absurd he.symm hno
    rw [if_neg c7] at he
    have c7':(tk==7)=false:=by simpa using c7
    clear hl1 hL
    by_cases c2:tk<1∨6<tk
    ·rw [if_pos c2] at he
     by_cases c3:tk<1
     ·clear hQ fin0 NX
      generalize List.map Tk.row ws=WR at *
      simp -implicitDefEqProofs [c1,c1',c7,c7',c3]
      refine onP_t _ _ (TH 6 _) ⟨?_,?_,?_,?_,?_,?_,?_⟩ rfl ?_
      iterate 7 (· simp)
      refine hR _ _ _ _ he.symm _ _ ⟨rfl,by simp,?_⟩
      refine ⟨?_,?_,?_,?_,?_,?_⟩<;>simp -implicitDefEqProofs [hib,hb]
     ·have c4:6<tk:=by omega
      clear hQ fin0 NX
      generalize List.map Tk.row ws=WR at *
      simp -implicitDefEqProofs [c1,c1',c7,c7',c3,c4]
      refine onP_t _ _ (TH 6 _) ⟨?_,?_,?_,?_,?_,?_,?_⟩ rfl ?_
      iterate 7 (· simp)
      refine hR _ _ _ _ he.symm _ _ ⟨rfl,by simp,?_⟩
      refine ⟨?_,?_,?_,?_,?_,?_⟩<;>simp -implicitDefEqProofs [hib,hb]
    rw [if_neg c2] at he
    have c3: ¬tk<1:=by omega
    have c4: ¬6<tk:=by omega
    by_cases c5:ws.length=6
    ·rw [if_pos c5] at he
     have c5':((ws.length:Int)==6)=true:=by rw [c5];rfl
     clear hQ fin0 NX
     rw [c5] at hwl
     generalize List.map Tk.row ws=WR at *
     simp -implicitDefEqProofs [c1,c1',c7,c7',c3,c4,hwl,c5,c5']
     refine onP_t _ _ (TH 9 _) ⟨?_,?_,?_,?_,?_,?_,?_⟩ rfl ?_
     iterate 7 (· simp)
     refine hR _ _ _ _ he.symm _ _ ⟨rfl,by simp,?_⟩
     refine ⟨?_,?_,?_,?_,?_,?_⟩<;>simp -implicitDefEqProofs [hib,hb]
    rw [if_neg c5] at he
    have c5':((ws.length:Int)==6)=false:=beq_eq_false_iff_ne.2 (by omega)
    have fin:=fin0 he c5
    clear fin0 hQ hR NX TH
    generalize List.map Tk.row ws=WR at *
    have hll:(WR.length+1)*48≤140737488355328:=by omega
    simp -implicitDefEqProofs [c1,c1',c7,c7',c3,c4,hwl,c5,c5',hlim]
    refine ⟨by omega,hwr,?_⟩
    refine fin _ ?_
    refine weak_mk ?_ ?_ ?_ ?_ ?_ ?_<;>simp -implicitDefEqProofs
 ·exact ⟨Nat.le_refl _,Nat.zero_le _,hn,hRR.symm⟩
 ·refine weak_mk ?_ ?_ ?_ ?_ ?_ ?_<;>simp -implicitDefEqProofs
open Go.Proofs
def encN (r:Nat):List UInt8:=
 if r<128 then [UInt8.ofNat r]
 else if r<2048 then [UInt8.ofNat (192+r / 64),UInt8.ofNat (128+r%64)]
 else if r<65536 then [UInt8.ofNat (224+r / 4096),UInt8.ofNat (128+r / 64%64),UInt8.ofNat (128+r%64)]
 else [UInt8.ofNat (240+r / 262144),UInt8.ofNat (128+r / 4096%64),UInt8.ofNat (128+r / 64%64),UInt8.ofNat (128+r%64)]
theorem u8_of (z:Int) (n:Nat) (h:z=n) (hn:n<256):UInt8.ofNat (IntKind.u8.wrap z).toNat=UInt8.ofNat n:=by
 subst h
 rw [wrap_u8 (by omega) (by omega),Int.toNat_natCast]
theorem tmod64 (z:Int) (h:0≤z):z.tmod 64=z%64:=Int.tmod_eq_emod_of_nonneg h
theorem rbytes_spec (r:Nat) (h:r≤1114111):Sp Tryz.prog gl 102 [i3 r] (.str (encN r)):=by
 refine s102 rfl rfl ?_
 unfold encN
 have w8: ∀z:Nat,z<256→IntKind.u8.wrap (z:Int)=z:=fun z hz=>by rw [wrap_u8]<;>omega
 have q1:IntKind.i32.wrap ((r:Int) / 64)=(r:Int) / 64:=by rw [wrap_i32']<;>omega
 have q2:IntKind.i32.wrap ((r:Int) / 4096)=(r:Int) / 4096:=by rw [wrap_i32']<;>omega
 have q3:IntKind.i32.wrap ((r:Int) / 262144)=(r:Int) / 262144:=by rw [wrap_i32']<;>omega
 have m0:(r:Int).tmod 64=(r:Int)%64:=tmod64 _ (by omega)
 have m1:((r:Int) / 64).tmod 64=(r:Int) / 64%64:=tmod64 _ (by omega)
 have m2:((r:Int) / 4096).tmod 64=(r:Int) / 4096%64:=tmod64 _ (by omega)
 have e0:UInt8.ofNat (IntKind.u8.wrap (IntKind.i32.wrap (128+(r:Int)%64))).toNat=UInt8.ofNat (128+r%64):=u8_of _ _ (by rw [wrap_i32']<;>omega) (by omega)
 have e1:UInt8.ofNat (IntKind.u8.wrap (IntKind.i32.wrap (128+(r:Int) / 64%64))).toNat=UInt8.ofNat (128+r / 64%64):=u8_of _ _ (by rw [wrap_i32']<;>omega) (by omega)
 have e2:UInt8.ofNat (IntKind.u8.wrap (IntKind.i32.wrap (128+(r:Int) / 4096%64))).toNat=UInt8.ofNat (128+r / 4096%64):=u8_of _ _ (by rw [wrap_i32']<;>omega) (by omega)
 have l1:r<2048→UInt8.ofNat (IntKind.u8.wrap (IntKind.i32.wrap (192+(r:Int) / 64))).toNat=UInt8.ofNat (192+r / 64):=fun hr=>u8_of _ _ (by rw [wrap_i32']<;>omega) (by omega)
 have l2:r<65536→UInt8.ofNat (IntKind.u8.wrap (IntKind.i32.wrap (224+(r:Int) / 4096))).toNat=UInt8.ofNat (224+r / 4096):=fun hr=>u8_of _ _ (by rw [wrap_i32']<;>omega) (by omega)
 have l3:UInt8.ofNat (IntKind.u8.wrap (IntKind.i32.wrap (240+(r:Int) / 262144))).toNat=UInt8.ofNat (240+r / 262144):=u8_of _ _ (by rw [wrap_i32']<;>omega) (by omega)
 generalize UInt8.ofNat (128+r%64)=B0 at *
 generalize UInt8.ofNat (128+r / 64%64)=B1 at *
 generalize UInt8.ofNat (128+r / 4096%64)=B2 at *
 generalize UInt8.ofNat (192+r / 64)=C1 at *
 generalize UInt8.ofNat (224+r / 4096)=C2 at *
 generalize UInt8.ofNat (240+r / 262144)=C3 at *
 by_cases c1:r<128
 ·have c1':(r:Int)<128:=by omega
  simp -implicitDefEqProofs [c102,c1,c1',w8 r (by omega)]
 ·have c1': ¬(r:Int)<128:=by omega
  by_cases c2:r<2048
  ·have c2':(r:Int)<2048:=by omega
   simp -implicitDefEqProofs [c102,c1,c1',c2,c2',q1,m0,e0,l1 c2]
  ·have c2': ¬(r:Int)<2048:=by omega
   by_cases c3:r<65536
   ·have c3':(r:Int)<65536:=by omega
    simp -implicitDefEqProofs [c102,c1,c1',c2,c2',c3,c3',q1,q2,m0,m1,e0,e1,l2 c3]
   ·have c3': ¬(r:Int)<65536:=by omega
    simp -implicitDefEqProofs [c102,c1,c1',c2,c2',c3,c3',q1,q2,q3,m0,m1,m2,e0,e1,e2,l3]
def encR (r:Int):List UInt8:=if r<0 then [255] else encN r.toNat
def textR:List Int→List UInt8
 |[]=>[]
 |r::l=>encR r++textR l
theorem textR_append: ∀a b:List Int,textR (a++b)=textR a++textR b
 |[],b=>rfl
 |r::l,b=>by rw [List.cons_append,textR,textR,textR_append l b,List.append_assoc]
theorem encN_len (r:Nat):(encN r).length≤4∧1≤(encN r).length:=by
 unfold encN
 split
 ·simp
 ·split
  ·simp
  ·split<;>simp
theorem encR_len (r:Int):(encR r).length≤4:=by
 unfold encR
 split
 ·simp
 ·exact (encN_len _).1
theorem textR_len: ∀l:List Int,(textR l).length≤4*l.length
 |[]=>by simp [textR]
 |r::l=>by
  have h1:=textR_len l
  have h2:=encR_len r
  rw [textR,List.length_append,List.length_cons]
  omega
theorem runeRows_at (l:List Int) (i:Nat) (h:i<l.length): ∀h2,(runeRows l)[i]'h2=[i3 l[i]]:=fun _=>by simp [runeRows]
theorem rtext_spec (l:List Int) (hl:l.length≤1000000) (hr: ∀r∈l,r≤1114111):Sp Tryz.prog gl 114 [.sl (runeRows l)] (.str (textR l)):=by
 refine s114 rfl rfl ?_
 have rl:=runeRows_len l
 have rat:=runeRows_at l
 generalize runeRows l=RR at *
 simp -implicitDefEqProofs [c114,rl]
 refine wp_lpk (α:=Nat) (fun i=>⟨[(0,.sl RR),(3,.str (textR (l.take i))),(4,i6 i)],[],[]⟩) (fun i=>i≤l.length) (fun i=>l.length - i) ?_ 0 ?_ ?_
 ·rintro K i hK h1
  by_cases g:i<l.length
  ·have t1:IntKind.i64.wrap ((i:Int)+1)=(i+1:Nat):=by rw [wrap_i64]<;>omega
   have gR:i<RR.length:=by omega
   have ra:=rat i g gR
   have hm:=hr l[i] (List.getElem_mem g)
   have tk:textR (l.take (i+1))=textR (l.take i)++encR l[i]:=by
    rw [List.take_succ_eq_append_getElem g,textR_append]
    simp [textR]
   have fin: ∀σ',Weak σ' ⟨[(0,.sl RR),(3,.str (textR (l.take (i+1)))),(4,i6 (i+1:Nat))],[],[]⟩→K σ':=fun σ' hσ=>hK (i+1) σ' (by omega) (by omega) hσ
   rw [tk] at fin
   have hlen:(textR (l.take i)).length≤4000000:=by
    have:=textR_len (l.take i)
    rw [List.length_take] at this
    omega
   have hel:=encR_len l[i]
   clear hK rat tk
   generalize textR (l.take i)=T at *
   have hl1:T.length≤9223372036854775806:=by omega
   by_cases c:l[i]<0
   ·have e:encR l[i]=[255]:=by unfold encR;rw [if_pos c]
    rw [e] at fin
    simp -implicitDefEqProofs [g,gR,ra,rl,c,hl1]
    refine fin _ ?_
    refine weak_mk ?_ ?_ ?_ ?_ ?_ ?_<;>simp -implicitDefEqProofs [t1]
   ·have e:encR l[i]=encN l[i].toNat:=by unfold encR;rw [if_neg c]
    have BS:=rbytes_spec l[i].toNat (by omega)
    have hz:((l[i].toNat:Nat):Int)=l[i]:=by omega
    rw [hz] at BS
    rw [←e] at BS
    generalize encR l[i]=E at *
    have hl2:T.length+E.length≤9223372036854775807:=by omega
    simp -implicitDefEqProofs [g,gR,ra,rl,c]
    refine onC_mk _ (BS) ?_
    simp -implicitDefEqProofs [hl2]
    refine fin _ ?_
    refine weak_mk ?_ ?_ ?_ ?_ ?_ ?_<;>simp -implicitDefEqProofs [t1]
  ·obtain rfl:i=l.length:=by omega
   rw [List.take_length]
   clear hK
   simp -implicitDefEqProofs [rl]
 ·exact Nat.zero_le _
 ·refine weak_mk ?_ ?_ ?_ ?_ ?_ ?_<;>simp -implicitDefEqProofs [textR]
open Go.Proofs
theorem drop_byt {s:List UInt8} {i:Nat} (h:i<s.length):s.drop i=UInt8.ofNat (byt s i)::s.drop (i+1):=by
 rw [List.drop_eq_getElem_cons h,byt_at h,UInt8.ofNat_toNat]
theorem cont_in {s:List UInt8} {i:Nat} (h:cont s i=true):i<s.length:=(cont_iff.1 h).1
theorem cont_ge {s:List UInt8} {i:Nat} (h:cont s i=true):128≤byt s i∧byt s i≤191:=by
 unfold cont at h
 exact of_decide_eq_true h
theorem isRune_le {l r:Nat} (h:isRune l r=true):l≤r∧r≤1114111∧ ¬(55296≤r∧r<57344):=by
 unfold isRune at h
 exact of_decide_eq_true h
theorem enc_step (s:List UInt8) (i:Nat) (h:i<s.length) (hr:(stepR s i).1≠ -1):encN (stepR s i).1.toNat=(s.drop i).take (stepR s i).2:=by
 have b0:=byt_lt s i
 unfold stepR at hr ⊢
 simp only at hr ⊢
 by_cases c1:byt s i<128
 ·rw [if_pos c1]
  simp only [Int.toNat_natCast]
  rw [drop_byt h]
  unfold encN
  rw [if_pos c1]
  rfl
 ·rw [if_neg c1] at hr ⊢
  by_cases c2:192≤byt s i∧byt s i<224
  ·rw [if_pos c2] at hr ⊢
   rw [stepF1] at hr ⊢
   split at hr
   ·rename_i hc
    rw [if_pos hc]
    rw [Bool.and_eq_true] at hc
    have k1:=cont_ge hc.1
    have m1:=cont_in hc.1
    have q:=isRune_le hc.2
    simp only [Int.toNat_natCast]
    rw [drop_byt h,drop_byt m1]
    generalize byt s i=x at *
    generalize byt s (i+1)=y at *
    unfold encN
    rw [if_neg (by omega),if_pos (by omega),show 192+(64*(x - 192)+(y - 128)) / 64=x by omega,show 128+(64*(x - 192)+(y - 128))%64=y by omega]
    rfl
   ·exact absurd rfl hr
  ·rw [if_neg c2] at hr ⊢
   by_cases c3:224≤byt s i∧byt s i<240
   ·rw [if_pos c3] at hr ⊢
    rw [stepF2] at hr ⊢
    split at hr
    ·rename_i hc
     rw [if_pos hc]
     rw [Bool.and_eq_true,Bool.and_eq_true] at hc
     have k1:=cont_ge hc.1.1
     have m1:=cont_in hc.1.1
     have k2:=cont_ge hc.1.2
     have m2:=cont_in hc.1.2
     have q:=isRune_le hc.2
     simp only [Int.toNat_natCast]
     rw [drop_byt h,drop_byt m1,drop_byt m2]
     generalize byt s i=x at *
     generalize byt s (i+1)=y at *
     generalize byt s (i+2)=z at *
     unfold encN
     rw [if_neg (by omega),if_neg (by omega),if_pos (by omega),show 224+(64*(64*(x - 224)+(y - 128))+(z - 128)) / 4096=x by omega,show 128+(64*(64*(x - 224)+(y - 128))+(z - 128)) / 64%64=y by omega,show 128+(64*(64*(x - 224)+(y - 128))+(z - 128))%64=z by omega]
     rfl
    ·exact absurd rfl hr
   ·rw [if_neg c3] at hr ⊢
    by_cases c4:240≤byt s i∧byt s i<248
    ·rw [if_pos c4] at hr ⊢
     rw [stepF3] at hr ⊢
     split at hr
     ·rename_i hc
      rw [if_pos hc]
      rw [Bool.and_eq_true,Bool.and_eq_true,Bool.and_eq_true] at hc
      have k1:=cont_ge hc.1.1.1
      have m1:=cont_in hc.1.1.1
      have k2:=cont_ge hc.1.1.2
      have m2:=cont_in hc.1.1.2
      have k3:=cont_ge hc.1.2
      have m3:=cont_in hc.1.2
      have q:=isRune_le hc.2
      simp only [Int.toNat_natCast]
      rw [drop_byt h,drop_byt m1,drop_byt m2,drop_byt m3]
      generalize byt s i=x at *
      generalize byt s (i+1)=y at *
      generalize byt s (i+2)=z at *
      generalize byt s (i+3)=v at *
      unfold encN
      rw [if_neg (by omega),if_neg (by omega),if_neg (by omega),show 240+(64*(64*(64*(x - 240)+(y - 128))+(z - 128))+(v - 128)) / 262144=x by omega,show 128+(64*(64*(64*(x - 240)+(y - 128))+(z - 128))+(v - 128)) / 4096%64=y by omega,show 128+(64*(64*(64*(x - 240)+(y - 128))+(z - 128))+(v - 128)) / 64%64=z by omega,show 128+(64*(64*(64*(x - 240)+(y - 128))+(z - 128))+(v - 128))%64=v by omega]
      rfl
     ·exact absurd rfl hr
    ·rw [if_neg c4] at hr
     exact absurd rfl hr
def okR (r:Int):Prop:=r= -1∨(0≤r∧r≤1114111∧ ¬(55296≤r∧r<57344))
theorem stepF_okR (s:List UInt8) (i n r0 l:Nat):okR (stepF s i n r0 l).1:=by
 unfold stepF okR
 split
 ·rename_i h
  rw [Bool.and_eq_true] at h
  have:=isRune_le h.2
  right
  simp only
  omega
 ·left;rfl
theorem stepR_okR (s:List UInt8) (i:Nat):okR (stepR s i).1:=by
 unfold stepR
 simp only
 split
 ·right;simp only;omega
 ·split
  ·exact stepF_okR ..
  ·split
   ·exact stepF_okR ..
   ·split
    ·exact stepF_okR ..
    ·left;rfl
theorem runesL_okR (s:List UInt8): ∀(n i:Nat),s.length - i≤n→ ∀r∈runesL s i,okR r
 |0,i,h,r,hr=>by rw [runesL_out (by omega)] at hr;cases hr
 |n+1,i,h,r,hr=>by
  by_cases hi:i<s.length
  ·rw [runesL_in hi] at hr
   rcases List.mem_cons.1 hr with rfl|hr
   ·exact stepR_okR s i
   ·have:=stepR_pos s i
    exact runesL_okR s n _ (by omega) r hr
  ·rw [runesL_out hi] at hr;cases hr
theorem byt_zero (b:UInt8) (t:List UInt8):byt (b::t) 0=b.toNat:=rfl
theorem byt_of (n:Nat) (h:n<256) (t:List UInt8):byt (UInt8.ofNat n::t) 0=n:=by
 rw [byt_zero,UInt8.toNat_ofNat_of_lt' (by simpa using h)]
theorem dec_enc (r:Nat) (h1:r≤1114111) (h2: ¬(55296≤r∧r<57344)) (t:List UInt8):stepR (encN r++t) 0=((r:Int),(encN r).length):=by
 unfold encN
 by_cases c1:r<128
 ·rw [if_pos c1]
  simp only [List.cons_append,List.nil_append]
  unfold stepR
  simp only [byt_of r (by omega) t]
  rw [if_pos c1]
  rfl
 ·rw [if_neg c1]
  by_cases c2:r<2048
  ·rw [if_pos c2]
   simp only [List.cons_append,List.nil_append]
   unfold stepR
   simp only [byt_of (192+r / 64) (by omega) _]
   rw [if_neg (by omega),if_pos (by omega),stepF1]
   simp only [Nat.zero_add,cont,show ∀(b:UInt8) (t:List UInt8),byt (b::t) 1=byt t 0 from fun b t=>rfl,byt_of (128+r%64) (by omega) t]
   rw [if_pos (by simp [isRune];omega)]
   simp only [List.length_cons,List.length_nil,Prod.mk.injEq]
   exact ⟨by omega,trivial⟩
  ·rw [if_neg c2]
   by_cases c3:r<65536
   ·rw [if_pos c3]
    simp only [List.cons_append,List.nil_append]
    unfold stepR
    simp only [byt_of (224+r / 4096) (by omega) _]
    rw [if_neg (by omega),if_neg (by omega),if_pos (by omega),stepF2]
    simp only [Nat.zero_add,cont,show ∀(b:UInt8) (t:List UInt8),byt (b::t) 1=byt t 0 from fun b t=>rfl,show ∀(b c:UInt8) (t:List UInt8),byt (b::c::t) 2=byt t 0 from fun b c t=>rfl,byt_of (128+r / 64%64) (by omega) _,byt_of (128+r%64) (by omega) t]
    rw [if_pos (by simp [isRune];omega)]
    simp only [List.length_cons,List.length_nil,Prod.mk.injEq]
    exact ⟨by omega,trivial⟩
   ·rw [if_neg c3]
    simp only [List.cons_append,List.nil_append]
    unfold stepR
    simp only [byt_of (240+r / 262144) (by omega) _]
    rw [if_neg (by omega),if_neg (by omega),if_neg (by omega),if_pos (by omega),stepF3]
    simp only [Nat.zero_add,cont,show ∀(b:UInt8) (t:List UInt8),byt (b::t) 1=byt t 0 from fun b t=>rfl,show ∀(b c:UInt8) (t:List UInt8),byt (b::c::t) 2=byt t 0 from fun b c t=>rfl,show ∀(b c e:UInt8) (t:List UInt8),byt (b::c::e::t) 3=byt t 0 from fun b c e t=>rfl,byt_of (128+r / 4096%64) (by omega) _,byt_of (128+r / 64%64) (by omega) _,byt_of (128+r%64) (by omega) t]
    rw [if_pos (by simp [isRune];omega)]
    simp only [List.length_cons,List.length_nil,Prod.mk.injEq]
    exact ⟨by omega,trivial⟩
open Go.Proofs
theorem cont_ext {a b:List UInt8} {i j:Nat} (h:byt a i=byt b j):cont a i=cont b j:=by unfold cont;rw [h]
theorem rv_ext {a b:List UInt8} {i j:Nat} (r0:Nat): ∀n,(∀q,1≤q→q≤n→byt a (i+q)=byt b (j+q))→rv a i r0 n=rv b j r0 n
 |0,_=>rfl
 |n+1,h=>by
  have e:=rv_ext r0 n (fun q h1 h2=>h q h1 (by omega))
  have f:=h (n+1) (by omega) (Nat.le_refl _)
  show 64*rv a i r0 n+(byt a (i+(n+1)) - 128)=64*rv b j r0 n+(byt b (j+(n+1)) - 128)
  rw [e,f]
theorem conts_ext {a b:List UInt8} {i j:Nat}: ∀n,(∀q,1≤q→q≤n→byt a (i+q)=byt b (j+q))→conts a i n=conts b j n
 |0,_=>rfl
 |n+1,h=>by
  have e:=conts_ext n (fun q h1 h2=>h q h1 (by omega))
  have f:=cont_ext (h (n+1) (by omega) (Nat.le_refl _))
  show (conts a i n&&cont a (i+(n+1)))=(conts b j n&&cont b (j+(n+1)))
  rw [e,f]
theorem conts_false {a:List UInt8} {i:Nat} (q:Nat) (h1:1≤q) (h2:cont a (i+q)=false): ∀n,q≤n→conts a i n=false
 |0,h=>by omega
 |n+1,h=>by
  rw [conts]
  by_cases c:q=n+1
  ·rw [←c,h2,Bool.and_false]
  ·rw [conts_false q h1 h2 n (by omega),Bool.false_and]
theorem stepF_to {a b:List UInt8} {i j m:Nat} (h: ∀q,q≤m→byt a (i+q)=byt b (j+q)) (hm:1≤m) (h0:byt b (j+m)<128) (n r0 l:Nat):stepF a i n r0 l=stepF b j n r0 l:=by
 unfold stepF
 by_cases c:n<m
 ·rw [conts_ext (a:=a) (b:=b) (i:=i) (j:=j) n (fun q _ h2=>h q (by omega)),rv_ext (a:=a) (b:=b) (i:=i) (j:=j) r0 n (fun q _ h2=>h q (by omega))]
 ·have c1:cont b (j+m)=false:=by unfold cont;exact decide_eq_false (by omega)
  have c2:cont a (i+m)=false:=by rw [cont_ext (h m (Nat.le_refl _))];exact c1
  rw [conts_false m hm c2 n (by omega),conts_false m hm c1 n (by omega)]
  rfl
theorem stepR_to {a b:List UInt8} {i j m:Nat} (h: ∀q,q≤m→byt a (i+q)=byt b (j+q)) (h0:byt b (j+m)<128):stepR a i=stepR b j:=by
 have e:=h 0 (Nat.zero_le _)
 rw [Nat.add_zero,Nat.add_zero] at e
 unfold stepR
 simp only [e]
 by_cases c:m=0
 ·subst c
  rw [Nat.add_zero] at h0
  rw [if_pos h0,if_pos h0]
 ·simp only [stepF_to h (by omega) h0]
theorem stepR_ext {a b:List UInt8} {i j:Nat} (h: ∀q,byt a (i+q)=byt b (j+q)):stepR a i=stepR b j:=by
 have e:=h 0
 rw [Nat.add_zero,Nat.add_zero] at e
 have f: ∀n r0 l,stepF a i n r0 l=stepF b j n r0 l:=fun n r0 l=>by
  unfold stepF
  rw [conts_ext (a:=a) (b:=b) (i:=i) (j:=j) n (fun q _ _=>h q),rv_ext (a:=a) (b:=b) (i:=i) (j:=j) r0 n (fun q _ _=>h q)]
 unfold stepR
 simp only [e,f]
theorem byt_app (a b:List UInt8) (q:Nat):byt (a++b) (a.length+q)=byt b q:=by
 unfold byt
 rw [List.getElem?_append_right (by omega),show a.length+q - a.length=q by omega]
theorem runesL_app (a b:List UInt8): ∀(n q:Nat),b.length - q≤n→runesL (a++b) (a.length+q)=runesL b q
 |n,q,h=>by
  by_cases g:q<b.length
  ·have g2:a.length+q<(a++b).length:=by rw [List.length_append];omega
   have e:stepR (a++b) (a.length+q)=stepR b q:=stepR_ext (fun z=>by rw [Nat.add_assoc];exact byt_app a b (q+z))
   have p:=stepR_pos b q
   rw [runesL_in g,runesL_in g2,e,Nat.add_assoc]
   cases n with
   |zero=>omega
   |succ n=>rw [runesL_app a b n (q+(stepR b q).2) (by omega)]
  ·rw [runesL_out g,runesL_out (by rw [List.length_append];omega)]
theorem encR_step {r:Int} (h:okR r) (t:List UInt8):stepR (encR r++t) 0=(r,(encR r).length):=by
 rcases h with rfl|⟨h1,h2,h3⟩
 ·have e:encR (-1)=[255]:=rfl
  rw [e]
  simp only [List.cons_append,List.nil_append]
  unfold stepR
  simp only [show byt (255::t) 0=255 from rfl]
  rw [if_neg (by omega),if_neg (by omega),if_neg (by omega),if_neg (by omega)]
  rfl
 ·have e:encR r=encN r.toNat:=if_neg (by omega)
  have hz:((r.toNat:Nat):Int)=r:=by omega
  rw [e,dec_enc r.toNat (by omega) (by omega) t,hz]
theorem encR_pos (r:Int):1≤(encR r).length:=by
 unfold encR
 split
 ·simp
 ·exact (encN_len _).2
theorem runesL_textR: ∀l:List Int,(∀r∈l,okR r)→runesL (textR l) 0=l
 |[],_=>by rw [textR,runesL_out (by simp)]
 |r::l,h=>by
  have p:=encR_pos r
  rw [textR,runesL_in (by rw [List.length_append];omega),encR_step (h r (by simp))]
  simp only
  rw [Nat.zero_add,show (encR r).length=(encR r).length+0 from rfl,runesL_app (encR r) (textR l) (textR l).length 0 (by omega),runesL_textR l (fun x hx=>h x (by simp [hx]))]
def Wk (s:List UInt8):Nat→List Int→Nat→Prop
 |i,[],j=>i=j
 |i,r::m,j=>i<s.length∧(stepR s i).1=r∧Wk s (i+(stepR s i).2) m j
theorem Wk_snoc (s:List UInt8): ∀(m:List Int) (i j:Nat),Wk s i m j→j<s.length→Wk s i (m++[(stepR s j).1]) (j+(stepR s j).2)
 |[],i,j,h,hj=>by
  cases h
  exact ⟨hj,rfl,rfl⟩
 |r::m,i,j,h,hj=>⟨h.1,h.2.1,Wk_snoc s m _ j h.2.2 hj⟩
theorem Wk_le (s:List UInt8): ∀(m:List Int) (i j:Nat),Wk s i m j→i≤j
 |[],i,j,h=>Nat.le_of_eq h
 |r::m,i,j,h=>by
  have:=Wk_le s m _ j h.2.2
  omega
theorem byt_take {s:List UInt8} {j q:Nat} (h:q<j):byt (s.take j) q=byt s q:=by
 unfold byt
 rw [List.getElem?_take,if_pos h]
theorem byt_drop (s:List UInt8) (i q:Nat):byt (s.drop i) q=byt s (i+q):=by
 unfold byt
 rw [List.getElem?_drop]
theorem Wk_sub (s:List UInt8) (i0 e:Nat) (he:e<s.length) (h0:byt s e<128): ∀(m:List Int) (i:Nat),i0≤i→Wk s i m (e+1)→runesL ((s.take (e+1)).drop i0) (i - i0)=m
 |[],i,hi,h=>by
  rw [runesL_out]
  have:i=e+1:=h
  rw [List.length_drop,List.length_take]
  omega
 |r::m,i,hi,h=>by
  have hle:=Wk_le s m _ _ h.2.2
  have hp:=stepR_pos s i
  have g:i - i0<((s.take (e+1)).drop i0).length:=by rw [List.length_drop,List.length_take];omega
  have es:stepR ((s.take (e+1)).drop i0) (i - i0)=stepR s i:=by
   refine stepR_to (m:=e - i) (fun q hq=>?_) ?_
   ·rw [byt_drop,byt_take (by omega),show i0+(i - i0+q)=i+q by omega]
   ·rw [show i+(e - i)=e by omega];exact h0
  rw [runesL_in g,es,h.2.1,show i - i0+(stepR s i).2=(i+(stepR s i).2) - i0 by omega,Wk_sub s i0 e he h0 m _ (by omega) h.2.2]
theorem Wk_text (s:List UInt8): ∀(m:List Int) (i j:Nat),j≤s.length→Wk s i m j→(∀r∈m,r≠ -1)→(s.take j).drop i=textR m
 |[],i,j,hj,h,_=>by
  have:i=j:=h
  subst this
  rw [textR,List.drop_eq_nil_of_le (by rw [List.length_take];omega)]
 |r::m,i,j,hj,h,hr=>by
  have hle:=Wk_le s m _ _ h.2.2
  have ih:=Wk_text s m _ j hj h.2.2 (fun x hx=>hr x (by simp [hx]))
  have h1:=h.2.1
  have hne:(stepR s i).1≠ -1:=by rw [h1];exact hr r (by simp)
  have en:=enc_step s i h.1 hne
  have ok:=stepR_okR s i
  have er:encR r=encN (stepR s i).1.toNat:=by
   rw [←h1]
   unfold encR
   rw [if_neg]
   rcases ok with h|h
   ·exact absurd h hne
   ·omega
  rw [textR,er,en,←ih]
  have:(s.take j).drop i=((s.drop i).take (stepR s i).2)++(s.take j).drop (i+(stepR s i).2):=by
   rw [←List.drop_drop,List.drop_take,show List.take (stepR s i).2 (List.drop i s)=List.take (stepR s i).2 (List.take (j - i) (List.drop i s)) by rw [List.take_take,Nat.min_eq_left (by omega)],List.take_append_drop]
  exact this
open Go.Proofs
def qGo (l:List Int) (i:Nat):Nat:=
 if h:i<l.length then
  if l[i]=10 then 0 else if l[i]=34 then i+1
  else if l[i]=92 then (if l[i+1]?=some 10 then 0 else qGo l (i+2))
  else qGo l (i+1)
 else 0
termination_by l.length - i
theorem qGo_in {l:List Int} {i:Nat} (h:i<l.length):qGo l i=if l[i]=10 then 0 else if l[i]=34 then i+1 else if l[i]=92 then (if l[i+1]?=some 10 then 0 else qGo l (i+2)) else qGo l (i+1):=by
 rw [qGo,dif_pos h]
theorem qGo_out {l:List Int} {i:Nat} (h: ¬i<l.length):qGo l i=0:=by rw [qGo,dif_neg h]
def plc (a b:Int):List Int→List (Int×Int)
 |[]=>[(a,b)]
 |r::l=>(a,b)::(if r=10 then plc (a+1) 1 l else plc a (b+1) l)
def plR (l:List (Int×Int)):List (List AV):=l.map fun p=>[i6 p.1,i6 p.2]
theorem rquoted_spec (l:List Int) (hl:l.length≤1000000) (i:Nat) (hi:i≤1000000):Sp Tryz.prog gl 112 [.sl (runeRows l),i6 i] (i6 (qGo l (i+1))):=by
 refine s112 rfl rfl ?_
 have rl:=runeRows_len l
 have rat:=runeRows_at l
 obtain ⟨R,hR⟩: ∃R,R=qGo l (i+1):=⟨_,rfl⟩
 rw [←hR]
 have t0:IntKind.i64.wrap ((i:Int)+1)=(i+1:Nat):=by rw [wrap_i64]<;>omega
 generalize runeRows l=RR at *
 simp -implicitDefEqProofs [c112,rl,t0]
 refine wp_lpk (α:=Nat) (fun i=>⟨[(0,.sl RR),(1,i6 i)],[],[]⟩) (fun j=>j≤2000005∧j≤i+l.length+3∧qGo l j=R) (fun j=>2000010 - j) ?_ (i+1) ?_ ?_
 ·rintro K j hK ⟨h1,h2,h3⟩
  have t1:IntKind.i64.wrap ((j:Int)+1)=(j+1:Nat):=by rw [wrap_i64]<;>omega
  by_cases g:j<l.length
  ·have t2:IntKind.i64.wrap (((j+1:Nat):Int)+1)=(j+2:Nat):=by rw [wrap_i64]<;>omega
   have t2':IntKind.i64.wrap ((j:Int)+1+1)=(j:Int)+2:=by rw [wrap_i64]<;>omega
   have g':(j:Int)<l.length:=by omega
   have gR:j<RR.length:=by omega
   have ra:=rat j g gR
   rw [qGo_in g] at h3
   have fin: ∀w,qGo l w=R→j<w→w≤j+2→ ∀σ',Weak σ' ⟨[(0,.sl RR),(1,i6 w)],[],[]⟩→K σ':=fun w hh h1 h2 σ' hσ=>hK w σ' ⟨by omega,by omega,hh⟩ (by omega) hσ
   have ne: ∀z:Int,¬l[j]=z→(l[j]==z)=false:=fun z h=>beq_eq_false_iff_ne.2 h
   have ne2: ∀z:Int,¬l[j]=z→(l[j]!=z)=true:=fun z h=>bne_iff_ne.2 h
   clear hK
   by_cases c1:l[j]=10
   ·rw [if_pos c1] at h3
    subst h3
    have c1':(l[j]!=10)=false:=by rw [c1];rfl
    simp -implicitDefEqProofs [g,g',gR,ra,rl,c1,c1']
   rw [if_neg c1] at h3
   by_cases c2:l[j]=34
   ·rw [if_pos c2] at h3
    subst h3
    simp -implicitDefEqProofs [g,g',gR,ra,rl,c2,t1]
   rw [if_neg c2] at h3
   by_cases c3:l[j]=92
   ·rw [if_pos c3] at h3
    obtain ⟨m,hm⟩: ∃m,m=j+1:=⟨_,rfl⟩
    rw [←hm] at h3 t1
    have t2:IntKind.i64.wrap ((m:Int)+1)=(j+2:Nat):=by rw [wrap_i64]<;>omega
    by_cases g2:m<l.length
    ·have gR2:m<RR.length:=by omega
     have g2':(m:Int)<l.length:=by omega
     have ra2:=rat m g2 gR2
     rw [List.getElem?_eq_getElem g2] at h3
     by_cases c4:l[m]=10
     ·rw [if_pos (by rw [c4])] at h3
      subst h3
      simp -implicitDefEqProofs [g,g',gR,ra,rl,c3,t1,g2,g2',gR2,ra2,c4]
     ·rw [if_neg (by simpa using c4)] at h3
      have c4':(l[m]==10)=false:=beq_eq_false_iff_ne.2 c4
      simp -implicitDefEqProofs [g,g',gR,ra,rl,c3,t1,g2,g2',gR2,ra2,c4,c4']
      refine fin (j+2) h3 (by omega) (by omega) _ ?_
      refine weak_mk ?_ ?_ ?_ ?_ ?_ ?_<;>simp -implicitDefEqProofs [t2]
    ·have g2': ¬(m:Int)<l.length:=by omega
     rw [List.getElem?_eq_none (by omega),if_neg (by simp)] at h3
     simp -implicitDefEqProofs [g,g',gR,ra,rl,c3,t1,g2,g2']
     refine fin (j+2) h3 (by omega) (by omega) _ ?_
     refine weak_mk ?_ ?_ ?_ ?_ ?_ ?_<;>simp -implicitDefEqProofs [t2]
   rw [if_neg c3] at h3
   simp -implicitDefEqProofs [g,g',gR,ra,rl,ne 10 c1,ne2 10 c1,ne 34 c2,ne 92 c3]
   refine fin (j+1) h3 (by omega) (by omega) _ ?_
   refine weak_mk ?_ ?_ ?_ ?_ ?_ ?_<;>simp -implicitDefEqProofs [t1]
  ·rw [qGo_out g] at h3
   subst h3
   clear hK
   have g': ¬(j:Int)<l.length:=by omega
   simp -implicitDefEqProofs [g,g',rl]
 ·exact ⟨by omega,by omega,hR.symm⟩
 ·refine weak_mk ?_ ?_ ?_ ?_ ?_ ?_<;>simp -implicitDefEqProofs [t0]
open Go.Proofs
theorem plR_two (l:List (Int×Int)): ∀r∈plR l,r.length=2:=by
 intro r hr
 obtain ⟨_,_,rfl⟩:=List.mem_map.1 hr
 rfl
theorem plR_app (l:List (Int×Int)) (a b:Int):plR (l++[(a,b)])=plR l++[[i6 a,i6 b]]:=by simp [plR]
theorem plR_len (l:List (Int×Int)):(plR l).length=l.length:=by simp [plR]
theorem plR_at (l:List (Int×Int)) (i:Nat) (h:i<l.length): ∀h2,(plR l)[i]'h2=[i6 l[i].1,i6 l[i].2]:=fun _=>by simp [plR]
theorem plc_len: ∀(l:List Int) (a b:Int),(plc a b l).length=l.length+1
 |[],a,b=>rfl
 |r::l,a,b=>by
  rw [plc,List.length_cons,List.length_cons]
  split
  ·rw [plc_len l]
  ·rw [plc_len l]
theorem rplaces_spec (l:List Int) (hl:l.length≤1000000):Sp Tryz.prog gl 82 [.sl (runeRows l)] (.sl (plR (plc 1 1 l))):=by
 refine s82 rfl rfl ?_
 have hlim:lim=140737488355328:=rfl
 have rl:=runeRows_len l
 have rat:=runeRows_at l
 obtain ⟨R,hR⟩: ∃R,R=plc 1 1 l:=⟨_,rfl⟩
 rw [←hR]
 generalize runeRows l=RR at *
 simp -implicitDefEqProofs [c82,rl]
 refine wp_lpk (α:=Nat×Int×Int×List (Int×Int)) (fun y=>⟨[(0,.sl RR),(3,.sl (plR y.2.2.2)),(4,.ptr (.n 4) 0),(5,i6 y.1)],[(.n 4,[i6 y.2.1,i6 y.2.2.1])],[(.s 3,2)]⟩)
  (fun y=>y.1≤l.length∧(0≤y.2.1∧y.2.1≤y.1+1∧0≤y.2.2.1∧y.2.2.1≤y.1+1)∧y.2.2.2.length=y.1∧y.2.2.2++plc y.2.1 y.2.2.1 (l.drop y.1)=R) (fun y=>l.length - y.1) ?_ (0,1,1,[]) ?_ ?_
 ·rintro K ⟨i,a,b,o⟩ hK ⟨h1,h2,h3,h4⟩
  simp only at h1 h2 h3 h4
  obtain ⟨k1,k2,k3,k4⟩:=h2
  have h5:=plR_two o
  have hll:((plR o).length+1)*16≤140737488355328:=by rw [plR_len];omega
  have ap:=plR_app o a b
  by_cases g:i<l.length
  ·have t1:IntKind.i64.wrap ((i:Int)+1)=(i+1:Nat):=by rw [wrap_i64]<;>omega
   have w1:IntKind.i64.wrap (a+1)=a+1:=by rw [wrap_i64]<;>omega
   have w2:IntKind.i64.wrap (b+1)=b+1:=by rw [wrap_i64]<;>omega
   have gR:i<RR.length:=by omega
   have ra:=rat i g gR
   rw [List.drop_eq_getElem_cons g,plc] at h4
   have fin: ∀a' b',(a'=if l[i]=10 then a+1 else a)→(b'=if l[i]=10 then 1 else b+1)→ ∀σ',Weak σ' ⟨[(0,.sl RR),(3,.sl (plR (o++[(a,b)]))),(4,.ptr (.n 4) 0),(5,i6 (i+1:Nat))],[(.n 4,[i6 a',i6 b'])],[(.s 3,2)]⟩→K σ':=
    fun a' b' ha hb σ' hσ=>hK (i+1,a',b',o++[(a,b)]) σ' ⟨by simp only;omega,by
     simp only
     rw [ha,hb]
     split<;>omega,by simp only [List.length_append,List.length_cons,List.length_nil];omega,by
     simp only
     rw [List.append_assoc,List.singleton_append,ha,hb,←h4]
     split<;>rfl⟩ (by simp only;omega) hσ
   rw [ap] at fin
   clear hK hR h4 ap
   generalize plR o=L at *
   by_cases c:l[i]=10
   ·have fin:=fin (a+1) 1 (by rw [if_pos c]) (by rw [if_pos c])
    simp -implicitDefEqProofs [g,gR,ra,rl,hlim]
    refine ⟨hll,h5,?_⟩
    simp -implicitDefEqProofs [c,w1,w2,gR,ra]
    refine fin _ ?_
    refine weak_mk ?_ ?_ ?_ ?_ ?_ ?_<;>simp -implicitDefEqProofs [t1]
   ·have c':(l[i]==10)=false:=beq_eq_false_iff_ne.2 c
    have fin:=fin a (b+1) (by rw [if_neg c]) (by rw [if_neg c])
    simp -implicitDefEqProofs [g,gR,ra,rl,hlim]
    refine ⟨hll,h5,?_⟩
    simp -implicitDefEqProofs [c,c',w1,w2,gR,ra]
    refine fin _ ?_
    refine weak_mk ?_ ?_ ?_ ?_ ?_ ?_<;>simp -implicitDefEqProofs [t1]
  ·obtain rfl:i=l.length:=by omega
   rw [List.drop_length,plc] at h4
   subst h4
   rw [ap]
   clear hK hR ap
   generalize plR o=L at *
   simp -implicitDefEqProofs [rl,hlim]
   exact ⟨hll,h5⟩
 ·exact ⟨Nat.zero_le _,by decide,rfl,hR.symm⟩
 ·refine weak_mk ?_ ?_ ?_ ?_ ?_ ?_<;>simp -implicitDefEqProofs [plR]
open Go.Proofs
def wthn (r:Int):Bool:=letter r||(digR r||(decide (r=95)||(decide (r=45)||(decide (r=46)||decide (r=37)))))
theorem sdigit_spec (r:Int):Sp Tryz.prog gl 141 [i3 r] (.bool (digR r)):=by
 refine s141 rfl rfl ?_
 unfold digR
 by_cases h:48≤r
 ·simp [c141,h]
 ·simp [c141,h]
theorem rdigit13_spec (r:Int):Sp Tryz.prog gl 152 [i3 r] (.bool (digR r)):=by
 refine s152 rfl rfl ?_
 unfold digR
 by_cases h:48≤r
 ·simp [c152,h]
 ·simp [c152,h]
theorem int_beq_decI (a b:Int):(a==b)=decide (a=b):=by
 by_cases h:a=b<;>simp [h]
theorem swithin_spec (r:Int):Sp Tryz.prog gl 107 [i3 r] (.bool (wthn r)):=by
 refine s107 rfl rfl ?_
 have L:=tletter_spec r
 have D:=sdigit_spec r
 unfold wthn
 generalize letter r=a at *
 generalize digR r=b at *
 cases a
 ·cases b
  ·have ne: ∀z:Int,¬r=z→(r==z)=false:=fun z h=>beq_eq_false_iff_ne.2 h
   by_cases h1:r=95
   ·simp [c107]
    refine onC_mk _ (L) ?_
    simp -implicitDefEqProofs
    refine onC_mk _ (D) ?_
    simp -implicitDefEqProofs [h1]
   ·by_cases h2:r=45
    ·simp [c107]
     refine onC_mk _ (L) ?_
     simp -implicitDefEqProofs
     refine onC_mk _ (D) ?_
     simp -implicitDefEqProofs [h1,h2,ne 95 h1]
    ·by_cases h3:r=46
     ·simp [c107]
      refine onC_mk _ (L) ?_
      simp -implicitDefEqProofs
      refine onC_mk _ (D) ?_
      simp -implicitDefEqProofs [h1,h2,h3,ne 95 h1,ne 45 h2]
     ·simp [c107]
      refine onC_mk _ (L) ?_
      simp -implicitDefEqProofs
      refine onC_mk _ (D) ?_
      simp -implicitDefEqProofs [h1,h2,h3,ne 95 h1,ne 45 h2,ne 46 h3]
      exact int_beq_decI r 37
  ·simp [c107]
   refine onC_mk _ (L) ?_
   simp -implicitDefEqProofs
   refine onC_mk _ (D) ?_
   simp -implicitDefEqProofs
 ·simp [c107]
  refine onC_mk _ (L) ?_
  simp -implicitDefEqProofs
theorem rwithin_spec (r:Int):Sp Tryz.prog gl 115 [i3 r] (.bool (wthn r)):=by
 refine s115 rfl rfl ?_
 have L:=rletter_spec r
 have D:=rdigit13_spec r
 unfold wthn
 generalize letter r=a at *
 generalize digR r=b at *
 cases a
 ·cases b
  ·have ne: ∀z:Int,¬r=z→(r==z)=false:=fun z h=>beq_eq_false_iff_ne.2 h
   by_cases h1:r=95
   ·simp [c115]
    refine onC_mk _ (L) ?_
    simp -implicitDefEqProofs
    refine onC_mk _ (D) ?_
    simp -implicitDefEqProofs [h1]
   ·by_cases h2:r=45
    ·simp [c115]
     refine onC_mk _ (L) ?_
     simp -implicitDefEqProofs
     refine onC_mk _ (D) ?_
     simp -implicitDefEqProofs [h1,h2,ne 95 h1]
    ·by_cases h3:r=46
     ·simp [c115]
      refine onC_mk _ (L) ?_
      simp -implicitDefEqProofs
      refine onC_mk _ (D) ?_
      simp -implicitDefEqProofs [h1,h2,h3,ne 95 h1,ne 45 h2]
     ·simp [c115]
      refine onC_mk _ (L) ?_
      simp -implicitDefEqProofs
      refine onC_mk _ (D) ?_
      simp -implicitDefEqProofs [h1,h2,h3,ne 95 h1,ne 45 h2,ne 46 h3]
      exact int_beq_decI r 37
  ·simp [c115]
   refine onC_mk _ (L) ?_
   simp -implicitDefEqProofs
   refine onC_mk _ (D) ?_
   simp -implicitDefEqProofs
 ·simp [c115]
  refine onC_mk _ (L) ?_
  simp -implicitDefEqProofs
open Go.Proofs
theorem runeRows_sub (l:List Int) (a b:Nat):List.drop a (List.take b (runeRows l))=runeRows ((l.take b).drop a):=by simp [runeRows]
def subR (l:List Int) (a b:Nat):List Int:=(l.take b).drop a
theorem subR_len (l:List Int) (a b:Nat):(subR l a b).length≤l.length:=by
 unfold subR
 rw [List.length_drop,List.length_take]
 omega
theorem subR_mem {l:List Int} {a b:Nat} {r:Int} (h:r∈subR l a b):r∈l:=List.mem_of_mem_take (List.mem_of_mem_drop h)
def wEnd (l:List Int) (i:Nat):Nat:=if h:i<l.length then (if wthn l[i]=true then wEnd l (i+1) else i) else i
termination_by l.length - i
theorem wEnd_in {l:List Int} {i:Nat} (h:i<l.length):wEnd l i=if wthn l[i]=true then wEnd l (i+1) else i:=by rw [wEnd,dif_pos h]
theorem wEnd_out {l:List Int} {i:Nat} (h: ¬i<l.length):wEnd l i=i:=by rw [wEnd,dif_neg h]
theorem wEnd_le (l:List Int): ∀(n i:Nat),l.length - i≤n→i≤l.length→i≤wEnd l i∧wEnd l i≤l.length
 |0,i,h,hi=>by rw [wEnd_out (by omega)];omega
 |n+1,i,h,hi=>by
  by_cases g:i<l.length
  ·rw [wEnd_in g]
   split
   ·have:=wEnd_le l n (i+1) (by omega) (by omega)
    omega
   ·omega
  ·rw [wEnd_out g];omega
theorem qGo_le (l:List Int): ∀(n i:Nat),l.length - i≤n→qGo l i=0∨(i<qGo l i∧qGo l i≤l.length)
 |n,i,h=>by
  by_cases g:i<l.length
  ·rw [qGo_in g]
   split
   ·exact .inl rfl
   ·split
    ·right;omega
    ·split
     ·split
      ·exact .inl rfl
      ·cases n with
       |zero=>omega
       |succ n=>
        rcases qGo_le l n (i+2) (by omega) with h|h
        ·exact .inl h
        ·right;omega
     ·cases n with
      |zero=>omega
      |succ n=>
       rcases qGo_le l n (i+1) (by omega) with h|h
       ·exact .inl h
       ·right;omega
  ·rw [qGo_out g];exact .inl rfl
structure On where
 k:Int
 w:List UInt8
 n:Nat
 en:Nat
 c:Int
def TV.on (en:Nat):TV→On
 | .e c=>⟨0,[],0,en,c⟩
 | .t k w n=>⟨k,w,n,en,0⟩
def TV.rs:TV→AV
 | .e c=> .tup [.agg [i6 0,.str [],u 0,i6 0,i6 0],i6 c]
 | .t k w n=> .tup [.agg [i6 k,.str w,u n,i6 0,i6 0],i6 0]
def On.av (x:On):AV:= .tup [.agg [i6 x.k,.str x.w,u x.n,i6 0,i6 0],i6 x.en,i6 x.c]
def oneF (VR:List Int→TV) (U:List UInt8→List UInt8×Int) (l:List Int) (i:Nat) (r:Int):On:=
 if r=123 then ⟨7,[],0,i+1,0⟩ else if r=125 then ⟨8,[],0,i+1,0⟩ else if r=59 then ⟨9,[],0,i+1,0⟩
 else if r=34 then (if qGo l (i+1)=0 then ⟨0,[],0,0,5⟩ else ⟨2,(U (textR (subR l i (qGo l (i+1))))).1,0,qGo l (i+1),(U (textR (subR l i (qGo l (i+1))))).2⟩)
 else if wthn r=true then (VR (subR l i (wEnd l i))).on (wEnd l i)
 else ⟨0,[],0,0,5⟩
set_option maxHeartbeats 1000000 in
theorem rone_spec (VR:List Int→TV) (U:List UInt8→List UInt8×Int) (l:List Int) (hl:l.length≤100000) (hr: ∀r∈l,r≤1114111)
  (hU: ∀w,w.length≤4*l.length→Sp Tryz.prog gl 113 [.str w] (.tup [.str (U w).1,i6 (U w).2]))
  (hV: ∀m:List Int,m.length≤l.length→(∀r∈m,r≤1114111)→Sp Tryz.prog gl 116 [.sl (runeRows m)] (VR m).rs) (i:Nat) (hi:i<l.length):
  Sp Tryz.prog gl 83 [.sl (runeRows l),i6 i] (oneF VR U l i l[i]).av:=by
 refine s83 rfl rfl ?_
 have rl:=runeRows_len l
 have rat:=runeRows_at l
 have r1:=runeRows_one l
 have rsub:=runeRows_sub l
 have gR:i<(runeRows l).length:=by omega
 have ra:=rat i hi gR
 have t1:IntKind.i64.wrap ((i:Int)+1)=(i+1:Nat):=by rw [wrap_i64]<;>omega
 have ne: ∀z:Int,¬l[i]=z→(l[i]==z)=false:=fun z h=>beq_eq_false_iff_ne.2 h
 have QS:=rquoted_spec l (by omega) i (by omega)
 have WI:=rwithin_spec l[i]
 have hwI:=wEnd_in hi
 unfold oneF
 by_cases c1:l[i]=123
 ·rw [if_pos c1]
  unfold On.av
  generalize runeRows l=RR at *
  simp -implicitDefEqProofs [c83,hi,ra,gR,rl,c1,t1]
 rw [if_neg c1]
 have n1:=ne 123 c1
 by_cases c2:l[i]=125
 ·rw [if_pos c2]
  unfold On.av
  generalize runeRows l=RR at *
  simp -implicitDefEqProofs [c83,hi,ra,gR,rl,c2,t1]
 rw [if_neg c2]
 have n2:=ne 125 c2
 by_cases c3:l[i]=59
 ·rw [if_pos c3]
  unfold On.av
  generalize runeRows l=RR at *
  simp -implicitDefEqProofs [c83,hi,ra,gR,rl,c3,t1]
 rw [if_neg c3]
 have n3:=ne 59 c3
 by_cases c4:l[i]=34
 ·rw [if_pos c4]
  have qle:=qGo_le l l.length (i+1) (by omega)
  generalize qGo l (i+1)=q at *
  by_cases c5:q=0
  ·rw [if_pos c5]
   subst c5
   unfold On.av
   generalize runeRows l=RR at *
   simp -implicitDefEqProofs [c83,hi,ra,gR,rl,n1,n2,n3,c4]
   refine onC_mk _ (QS) ?_
   simp -implicitDefEqProofs
  ·rw [if_neg c5]
   have hq:i+1<q∧q≤l.length:=by omega
   have h5:((q:Int)==0)=false:=beq_eq_false_iff_ne.2 (by omega)
   have q1:i≤q:=by omega
   have q1':(i:Int)≤q:=by omega
   have q2':(q:Int)≤l.length:=by omega
   have TX:=rtext_spec (subR l i q) (by have:=subR_len l i q;omega) (fun r h=>hr r (subR_mem h))
   have hlen:(textR (subR l i q)).length≤4*l.length:=by
    have a:=textR_len (subR l i q)
    have b:=subR_len l i q
    omega
   have UQ:=hU (textR (subR l i q)) hlen
   have rsub:=rsub i q
   rw [show (l.take q).drop i=subR l i q from rfl] at rsub
   generalize textR (subR l i q)=T at *
   generalize runeRows (subR l i q)=RS at *
   generalize U T=uq at *
   unfold On.av
   dsimp only
   generalize runeRows l=RR at *
   simp -implicitDefEqProofs [c83,hi,ra,gR,rl,n1,n2,n3,c4]
   refine onC_mk _ (QS) ?_
   simp -implicitDefEqProofs [h5,q1,hq.2,q1',q2',rl,rsub]
   refine ⟨r1,?_⟩
   refine onC_mk _ (TX) ?_
   simp -implicitDefEqProofs
   refine onC_mk _ (UQ) ?_
   simp -implicitDefEqProofs
 rw [if_neg c4]
 have n4:=ne 34 c4
 cases hw:wthn l[i]
 ·rw [if_neg (by decide)]
  rw [hw] at WI
  unfold On.av
  generalize runeRows l=RR at *
  simp -implicitDefEqProofs [c83,hi,ra,gR,rl,n1,n2,n3,n4]
  refine onC_mk _ (WI) ?_
  simp -implicitDefEqProofs
 ·rw [if_pos rfl]
  rw [hw] at WI
  have wle:=wEnd_le l l.length i (by omega) (by omega)
  obtain ⟨R,hR⟩: ∃R,R=wEnd l i:=⟨_,rfl⟩
  rw [←hR] at wle ⊢
  have VS:=hV (subR l i R) (subR_len l i R) (fun r h=>hr r (subR_mem h))
  have rsub:=rsub i R
  rw [show (l.take R).drop i=subR l i R from rfl] at rsub
  generalize runeRows (subR l i R)=RS at *
  generalize VR (subR l i R)=v at *
  have q1':(i:Int)≤R:=by omega
  have q2':(R:Int)≤l.length:=by omega
  generalize runeRows l=RR at *
  simp -implicitDefEqProofs [c83,hi,ra,gR,rl,n1,n2,n3,n4]
  refine onC_mk _ (WI) ?_
  simp -implicitDefEqProofs
  refine wp_lpk (α:=Nat) (fun j=>⟨[(0,.sl RR),(1,i6 i),(4,.ptr (.n 4) 0),(12,i6 j)],[(.n 4,[i6 0,.str [],u 0,i6 0,i6 0])],[]⟩)
   (fun j=>j≤l.length∧wEnd l j=R) (fun j=>l.length - j) ?_ i ?_ ?_
  ·rintro K j hK ⟨h1,h2⟩
   by_cases g:j<l.length
   ·have g':(j:Int)<l.length:=by omega
    have gR2:j<RR.length:=by omega
    have rb:=rat j g gR2
    have t2:IntKind.i64.wrap ((j:Int)+1)=(j+1:Nat):=by rw [wrap_i64]<;>omega
    rw [wEnd_in g] at h2
    have WJ:=rwithin_spec l[j]
    cases hwj:wthn l[j]
    ·rw [hwj] at WJ h2
     rw [if_neg (by decide)] at h2
     subst h2
     clear hK
     cases v with
     |e c=>
      unfold TV.rs at VS
      unfold TV.on On.av
      dsimp only at VS ⊢
      simp -implicitDefEqProofs [g,g',gR2,rb,rl]
      refine onC_mk _ (WJ) ?_
      simp -implicitDefEqProofs [wle.1,wle.2,q1',q2',rl,rsub]
      refine ⟨r1,?_⟩
      refine onC_mk _ (VS) ?_
      simp -implicitDefEqProofs
     |t k w n=>
      unfold TV.rs at VS
      unfold TV.on On.av
      dsimp only at VS ⊢
      simp -implicitDefEqProofs [g,g',gR2,rb,rl]
      refine onC_mk _ (WJ) ?_
      simp -implicitDefEqProofs [wle.1,wle.2,q1',q2',rl,rsub]
      refine ⟨r1,?_⟩
      refine onC_mk _ (VS) ?_
      simp -implicitDefEqProofs
    ·rw [hwj] at WJ h2
     rw [if_pos rfl] at h2
     simp -implicitDefEqProofs [g,g',gR2,rb,rl]
     refine onC_mk _ (WJ) ?_
     simp -implicitDefEqProofs
     refine hK (j+1) _ ⟨by omega,h2⟩ (by omega) ?_
     refine weak_mk ?_ ?_ ?_ ?_ ?_ ?_<;>simp -implicitDefEqProofs [t2]
   ·rw [wEnd_out g] at h2
    subst h2
    clear hK
    have g': ¬(j:Int)<l.length:=by omega
    cases v with
    |e c=>
     unfold TV.rs at VS
     unfold TV.on On.av
     dsimp only at VS ⊢
     simp -implicitDefEqProofs [g,g',rl,wle.1,wle.2,q1',q2',rsub]
     refine ⟨r1,?_⟩
     refine onC_mk _ (VS) ?_
     simp -implicitDefEqProofs
    |t k w n=>
     unfold TV.rs at VS
     unfold TV.on On.av
     dsimp only at VS ⊢
     simp -implicitDefEqProofs [g,g',rl,wle.1,wle.2,q1',q2',rsub]
     refine ⟨r1,?_⟩
     refine onC_mk _ (VS) ?_
     simp -implicitDefEqProofs
  ·exact ⟨by omega,hR.symm⟩
  ·refine weak_mk ?_ ?_ ?_ ?_ ?_ ?_<;>simp -implicitDefEqProofs
end Go.Ai
