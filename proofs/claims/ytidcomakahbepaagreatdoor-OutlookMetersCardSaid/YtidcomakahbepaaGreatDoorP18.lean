/- P18: a part of the proof: the rules, or what functions compute. Conditions: as each theorem says. -/
import Derived.Test.YtidcomakahbepaaGreatDoorP17
import Derived.Test.YtidcomakahbepaaGreatDoorCode
import Derived.Lib.LaidU8
import GoSem.PinnedTables
set_option linter.unusedSimpArgs false
set_option linter.unusedVariables false
set_option maxRecDepth 20000
namespace Go.Ai
open Go.Proofs
theorem ofR_form (z q:Int) (ru:List Ru) (g c:Nat) (e:Int): ∃(k:Int) (m l:Nat) (e':Int),ofR z q ru g c e= .tup [.agg [i6 k,u m,u l],i6 e']:=by
 unfold ofR
 by_cases h:q≠0
 ·rw [if_pos h];exact ⟨0,0,0,_,rfl⟩
 rw [if_neg h]
 by_cases h:ru=[]
 ·rw [if_pos h];exact ⟨0,0,0,_,rfl⟩
 rw [if_neg h]
 by_cases h:e≠0
 ·rw [if_pos h];exact ⟨0,0,0,_,rfl⟩
 rw [if_neg h];exact ⟨_,_,_,_,rfl⟩
theorem lleft_nil (y:Gl):Sp Tryz.prog gl 98 [.nilp,.agg y.row] (.tup [.agg [.bool false,.int .u64 0,.int .u64 0],i6 1]):=by
 refine s98 rfl rfl ?_
 have C:=fun d=>Sp.h (d:=d) (lcal_nil y)
 have R:=fun d=>Sp.h (d:=d) (lroll_nil y)
 simp only [Gl.row] at C R ⊢
 by_cases o0:y.o=0
 ·have o0':(y.o !=0)=false:=by rw [o0];rfl
  simp -implicitDefEqProofs [c98,o0']
  refine onH_mk _ _ (C _) ⟨?_,?_,?_,?_,?_,?_,?_⟩ ?_
  iterate 7 (· simp)
  simp -implicitDefEqProofs
 ·have o0':(y.o !=0)=true:=by rw [bne_iff_ne];exact o0
  simp -implicitDefEqProofs [c98,o0']
  refine onH_mk _ _ (R _) ⟨?_,?_,?_,?_,?_,?_,?_⟩ ?_
  iterate 7 (· simp)
  simp -implicitDefEqProofs
theorem lof_nil (y:Gl):Sp Tryz.prog gl 50 [.nilp,.agg y.row] (.tup [.agg [.int .i64 0,.int .u64 0,.int .u64 0],i6 1]):=by
 refine s50 rfl rfl ?_
 have C:=fun d=>Sp.h (d:=d) (lleft_nil y)
 simp only [Gl.row] at C ⊢
 simp -implicitDefEqProofs [c50]
 refine onH_mk _ _ (C _) ⟨?_,?_,?_,?_,?_,?_,?_⟩ ?_
 iterate 7 (· simp)
 simp -implicitDefEqProofs
theorem goal_t2 {x:Gl} (h:goalP x=true):x.t<4294967296:=by
 unfold goalP btw at h
 simp only [Bool.and_eq_true,decide_eq_true_eq] at h
 obtain ⟨-,h1,-⟩:=h
 omega
theorem outlookMeters_spec (x:Gl) (l:List Ac) (hal: ∀a∈l,a.t<18446744073709551616) (y:Gl) (hyt:y.t<4294967296) (hys: ∀r∈y.ru,-9223372036854775808≤r.s∧r.s<9223372036854775808):Sp Tryz.prog gl 11 [.agg x.row,.sl (acRows l),.agg y.row] (.bool true):=by
 refine s11 rfl rfl ?_
 have AW:=awake24_spec
 have H:=heavyG_spec x
 have H2:=heavyG_spec y
 have P1:x.row.length=8:=rfl
 have P2:idsL x.row=[]:=rfl
 have P3:shutL x.row=some x.row:=rfl
 have O1:y.row.length=8:=rfl
 have O2:idsL y.row=[]:=rfl
 have O3:shutL y.row=some y.row:=rfl
 cases hh:heavyG x with
 |true=>
  rw [hh] at H
  generalize x.row=P at *
  generalize y.row=P' at *
  have e8:List.take 8 P=P:=List.take_of_length_le (by omega)
  simp -implicitDefEqProofs [c11]
  refine onC_mk _ (AW) ?_
  simp -implicitDefEqProofs [P1,e8,P3]
  refine onC_mk _ (H) ?_
  simp -implicitDefEqProofs
 |false=>
  rw [hh] at H
  have hf:=heavyG_fit hh
  have hl:=hf.ru
  have Q:=qgoal_spec x hf
  cases hx:goalP x with
  |false=>
   rw [hx] at Q
   generalize x.row=P at *
   generalize y.row=P' at *
   have e8:List.take 8 P=P:=List.take_of_length_le (by omega)
   simp -implicitDefEqProofs [c11]
   refine onC_mk _ (AW) ?_
   simp -implicitDefEqProofs [P1,e8,P3]
   refine onC_mk _ (H) ?_
   simp -implicitDefEqProofs [P1,e8,P3]
   refine onC_mk _ (Q) ?_
   simp -implicitDefEqProofs [P1,e8,P3]
  |true=>
   rw [hx] at Q
   cases hy:heavyG y with
   |true=>
    rw [hy] at H2
    generalize x.row=P at *
    generalize y.row=P' at *
    have e8:List.take 8 P=P:=List.take_of_length_le (by omega)
    have f8:List.take 8 P'=P':=List.take_of_length_le (by omega)
    simp -implicitDefEqProofs [c11]
    refine onC_mk _ (AW) ?_
    simp -implicitDefEqProofs [P1,e8,P3,f8,O1,O3]
    refine onC_mk _ (H) ?_
    simp -implicitDefEqProofs [P1,e8,P3,f8,O1,O3]
    refine onC_mk _ (Q) ?_
    simp -implicitDefEqProofs [P1,e8,P3,f8,O1,O3]
    refine onC_mk _ (H2) ?_
    simp -implicitDefEqProofs
   |false=>
    rw [hy] at H2
    have hyl:=(heavyG_fit hy).ru
    have NM:=nmL 35 40
    have hk:=goal_k hx hl
    have hn:=goal_n hl
    obtain ⟨G,hG⟩: ∃G:Mt→List (Id×List AV),G=fun s=>mxB (lM 35) (lA 35) (lR 35) (lB 35) (.n 40) x (winP x).length (winP x) (kN x) (wN x) s:=⟨_,rfl⟩
    obtain ⟨mt,hmt⟩: ∃r:Mt→List (Id×List AV),r=fun s=>mtB (lM 35) (lA 35) (lR 35) (lB 35) x (winP x).length (intRows (winP x)) (kN x) (wN x) s.t s.L s.sd:=⟨_,rfl⟩
    have hGm: ∀s,G s=(.n 40,xC x s.t s.sd s.L)::mt s:=fun s=>by rw [hG,hmt];rfl
    have gu: ∀s,∀p∈G s,lkB (G s) p.1=some p.2:=fun s=>by rw [hG];exact mx_uniq NM x _ _ _ _ s
    have gk: ∀s s' j,(lkB (G s') j).isSome=(lkB (G s) j).isSome:=fun s s' j=>by rw [hG];exact mx_keys x x _ _ _ _ s s' j
    have gX: ∀s,(lkB (G s) (.n 40)).isSome=true:=fun s=>by rw [hG];exact mx_x ..
    have gM: ∀s,(lkB (G s) (lM 35)).isSome=true:=fun s=>by rw [hG];exact lkB_isSome (p:=(lM 35,_)) (List.mem_cons_of_mem _ (List.mem_cons_self ..))
    have gi: ∀s,∀p∈G s,∀i∈idsL p.2,(lkB (G s) i).isSome=true:=fun s=>by rw [hG];exact mx_ids NM x _ _ _ _ s
    have gw: ∀s (a:Id) (b:List AV),(a,b)∈G s→a.isIt=false∧ ∀t,t≠35→a.isNw t=false:=fun s=>by rw [hG];exact lx_nw 35 40 x _ _ _ _ s
    have gn: ∀s j,j≠40→lkB (G s) (.n j)=none:=fun s j hj=>by rw [hG];exact lx_n 35 40 x _ _ _ _ s j hj
    have mn: ∀s j,lkB (mt s) (.n j)=none:=fun s j=>by rw [hmt];exact lm_n 35 x _ _ _ _ s j
    have mu: ∀s,∀p∈mt s,lkB (mt s) p.1=some p.2:=fun s=>by rw [hmt];exact mt_uq NM.h x _ _ _ _ _ _ _
    have mw: ∀s (a:Id) (b:List AV),(a,b)∈mt s→a.isIt=false∧ ∀t,a.isNw t=(35==t):=fun s=>by rw [hmt];exact lm_nw 35 x _ _ _ _ s
    have mM: ∀t,(lM 35).isNw t=(35==t):=fun t=>by simp [lM,Id.isNw,Id.isUp]
    have iM:(lM 35).isIt=false:=rfl
    have nM: ∀j,¬lM 35= .n j:=fun j=>by simp [lM]
    have nM': ∀j,¬Id.n j=lM 35:=fun j=>by simp [lM]
    have nmpa:=NM.h.pa
    have hw:=goal_wd hx hl
    have hxt:=goal_t2 hx
    have hxs: ∀r∈x.ru,-9223372036854775808≤r.s∧r.s<9223372036854775808:=fun r hr=>by
     obtain ⟨-,-,-,-,-,-,h⟩:=goal_parts hx
     have:=h r hr
     omega
    have N1:SpH Tryz.prog gl 35 35 ⟨[.agg x.row],[],[]⟩ ⟨.tup [.ptr (lM 35) 0,i6 0],mt mt0,[]⟩:=by
     rw [hmt];exact mnew_spec x hf hl hx (winP x).length hn (goal_n1 hx) rfl (gN x) hw.gg (wdN x) hw.wd 35
    have DO: ∀s k,k≤1000000→MtOk x (winP x).length (kN x) (wN x) s k→ ∀a:Ac,a.t<18446744073709551616→ ∀e,(lM 35).isNw e=false→SpH Tryz.prog gl 17 e ⟨[.ptr (lM 35) 0,.ptr (.n 40) 0,.agg a.row],G s,[(.b (.n 40) 10,3)]⟩ ⟨.bool true,G (stS x (winP x).length (kN x) (wN x) s a),[(.b (.n 40) 10,3)]⟩:=fun s k h1 h2 a ha e he=>by
     rw [hG];exact does_spec _ _ _ _ _ NM x hx hl s k h1 h2 a ha e he
    have R4: ∀s k,k≤1000000→MtOk x (winP x).length (kN x) (wN x) s k→ ∀z:Gl,z.t<4294967296→z.ru.length≤10→(∀r∈z.ru,-9223372036854775808≤r.s∧r.s<9223372036854775808)→ ∃(o:Int) (m l:Nat) (e:Int),∀q,(lM 35).isNw q=false→
      SpH Tryz.prog gl 50 q ⟨[.ptr (lM 35) 0,.agg z.row],G s,[(.b (.n 40) 10,3)]⟩ ⟨.tup [.agg [i6 o,u m,u l],i6 e],G s,[(.b (.n 40) 10,3)]⟩∧
      SpH Tryz.prog gl 51 q ⟨[.ptr (.n 40) 0,.agg z.row],G s,[(.b (.n 40) 10,3)]⟩ ⟨.tup [.agg [i6 o,u m,u l],i6 e],G s,[(.b (.n 40) 10,3)]⟩:=by
     intro s k hk1 hs z hz hzl hzs
     obtain ⟨g,c,e,hV,hc⟩:=wndV_form2 hs z.o
     obtain ⟨g',c',e',hC,hc'⟩:=calV_form2 hs
     obtain ⟨g2,c2,e2,hV2,hg2,hc2,-⟩:=wndV_form3 hs (wO z.ru)
     obtain ⟨v,j,hL,hv⟩:=leftR_form2 z.o z.t g c e g' c' e' hc hc'
     obtain ⟨o,m,l,e1,h1⟩:=ofR_form v j z.ru g2 c2 e2
     refine ⟨o,m,l,e1,fun q hq=>?_⟩
     have r1:=mof_spec _ _ _ _ _ NM x hx hl s k hk1 hs z hz hzl hzs g c e hV hc g' c' e' hC hc' v j hL hv g2 c2 e2 hV2 hg2 hc2 q hq
     have r2:=xof_spec _ _ _ _ _ NM x hx hl s k hk1 hs z hz hzl hzs g c e hV hc g' c' e' hC hc' v j hL hv g2 c2 e2 hV2 hg2 hc2 q hq
     rw [h1] at r1 r2
     rw [hG]
     exact ⟨r1,r2⟩
    have LN:=fun d=>Sp.h (d:=d) (lof_nil y)
    have RX:=fun s k h1 h2=>R4 s k h1 h2 x hxt hl hxs
    have RY:=fun s k h1 h2=>R4 s k h1 h2 y hyt hyl hys
    have hok:=fun s k (h:MtOk x (winP x).length (kN x) (wN x) s k) a=>stS_ok h a
    have ok0:=mt0_ok x (winP x).length (kN x) (wN x)
    have al:=acRows_len l
    have a4:=acRows_4 l
    have aat:=acRows_at l
    generalize acRows l=RW at *
    generalize hstS:stS x (winP x).length (kN x) (wN x)=ST at *
    clear hG hstS NM hmt R4
    generalize lM 35=FM at *
    simp only [xC] at hGm
    have hxr:x.row=[.str x.n,.int .u32 x.t,i6 x.g,i6 x.a,i6 x.o,i6 x.c,.sl (x.lb.map Lb.row),.sl (x.ru.map Ru.row)]:=rfl
    generalize hP:x.row=P at *
    generalize hP':y.row=P' at *
    have e8:List.take 8 P=P:=List.take_of_length_le (by omega)
    have f8:List.take 8 P'=P':=List.take_of_length_le (by omega)
    have g3:=fun s=>gn s 3 (by omega)
    have g5:=fun s=>gn s 5 (by omega)
    have g11:=fun s=>gn s 11 (by omega)
    have g12:=fun s=>gn s 12 (by omega)
    have g14:=fun s=>gn s 14 (by omega)
    have g16:=fun s=>gn s 16 (by omega)
    have g18:=fun s=>gn s 18 (by omega)
    have GW0: ∀s q,q≠35→ ∀N:List (Id×List AV),(∀p∈N,p.1.isNw q=false)→ ∀p∈G s++N,p.1.isNw q=false:=fun s q hq N hN p hp=>by
     rcases List.mem_append.1 hp with hp|hp
     ·obtain ⟨a,b⟩:=p
      exact (gw s a b hp).2 q hq
     ·exact hN p hp
    have GW1: ∀s q,q≠35→ ∀(i:Nat) c,∀N:List (Id×List AV),(∀p∈N,p.1.isNw q=false)→ ∀p∈(Id.n i,c)::(G s++N),p.1.isNw q=false:=fun s q hq i c N hN p hp=>by
     rcases List.mem_cons.1 hp with rfl|hp
     ·rfl
     ·exact GW0 s q hq N hN p hp
    have ec:c11=AC.cutAt 7 (AC.tl 7 c11) c11:=rfl
    have TAIL: ∀s k,k≤1000000→MtOk x (winP x).length (kN x) (wN x) s k→ ∀e,lk e 3= .ptr (.n 3) 0→lk e 5= .ptr (.n 5) 0→lk e 7= .ptr FM 0→lk e 9= .ptr (.n 40) 0→wpA (SpH Tryz.prog gl) (AC.tl 7 c11) (postA [.t 6] (.bool true)) ⟨e,G s++[(Id.n 5,P'),(Id.n 3,P)],[(.b (.n 40) 10,3)]⟩:=fun s k h1 h2 e l3 l5 l7 l9=>by
     obtain ⟨o,m,v,e1,SX⟩:=RX s k h1 h2
     obtain ⟨o',m',v',e1',SY⟩:=RY s k h1 h2
     clear RX RY DO hok ok0 aat N1
     simp only [c11,AC.tl]
     simp -implicitDefEqProofs [l3,l5,l7,l9,lkB_app,g3,g5,f8,e8,O1,O3,P1,P3]
     refine onH_xs (pre:=[]) (suf:=[(.n 5,P'),(.n 3,P)]) (q:=[]) ((SX _ (by rw [mM];rfl)).1) rfl rfl (gX _) ?_ ?_ (gu _) (fun _=>rfl) ?_ ?_ ?_ ?_
     ·simp
     ·simp [g5,g3]
     ·exact GW0 _ _ (by omega) _ (by simp [Id.isNw])
     ·simp
     ·simp
     simp -implicitDefEqProofs [g11,g12,g14,g16,g18,g3,g5,l3,l5,l7,l9,lkB_app,f8,e8,O1,O3,P1,P3]

     refine onH_xs (pre:=[(.n 11,_)]) (suf:=[(.n 5,P'),(.n 3,P)]) (q:=[]) ((SX _ (by rw [mM];rfl)).2) rfl rfl (gX _) ?_ ?_ (gu _) (fun _=>rfl) ?_ ?_ ?_ ?_
     ·simp [g11]
     ·simp [g5,g3]
     ·exact GW1 _ _ (by omega) _ _ _ (by simp [Id.isNw])
     ·simp
     ·simp
     simp -implicitDefEqProofs [g11,g12,g14,g16,g18,g3,g5,l3,l5,l7,l9,lkB_app,f8,e8,O1,O3,P1,P3]

     refine onH_xs (pre:=[(.n 12,_)]) (suf:=[(.n 11,_),(.n 5,P'),(.n 3,P)]) (q:=[]) ((SY _ (by rw [mM];rfl)).1) rfl rfl (gX _) ?_ ?_ (gu _) (fun _=>rfl) ?_ ?_ ?_ ?_
     ·simp [g12]
     ·simp [g5,g3,g11]
     ·exact GW1 _ _ (by omega) _ _ _ (by simp [Id.isNw])
     ·simp
     ·simp
     simp -implicitDefEqProofs [g11,g12,g14,g16,g18,g3,g5,l3,l5,l7,l9,lkB_app,f8,e8,O1,O3,P1,P3]

     refine onH_xs (pre:=[(.n 14,_)]) (suf:=[(.n 12,_),(.n 11,_),(.n 5,P'),(.n 3,P)]) (q:=[]) ((SY _ (by rw [mM];rfl)).2) rfl rfl (gX _) ?_ ?_ (gu _) (fun _=>rfl) ?_ ?_ ?_ ?_
     ·simp [g14]
     ·simp [g5,g3,g12,g11]
     ·exact GW1 _ _ (by omega) _ _ _ (by simp [Id.isNw])
     ·simp
     ·simp
     simp -implicitDefEqProofs [g11,g12,g14,g16,g18,g3,g5,l3,l5,l7,l9,lkB_app,f8,e8,O1,O3,P1,P3]

     refine onH_mk _ _ (LN _) ⟨?_,?_,?_,?_,?_,?_,?_⟩ ?_
     iterate 6 (· simp [lkB_app])
     ·simp;exact fun a b hm=>GW0 s _ (by omega) [(.n 14,[i6 o',u m',u v']),(.n 12,[i6 o,u m,u v]),(.n 11,[i6 o,u m,u v]),(.n 5,P'),(.n 3,P)] (by simp [Id.isNw]) (a,b) (by simpa using hm)
     simp -implicitDefEqProofs [lkB_app,g11,g12,g14,g16,g18]
    rw [ec]
    generalize AC.tl 7 c11=TT at TAIL ⊢
    simp only [c11,AC.cutAt]
    simp -implicitDefEqProofs
    refine onC_mk _ (AW) ?_
    simp -implicitDefEqProofs [P1,e8,P3,f8,O1,O3]
    refine onC_mk _ (H) ?_
    simp -implicitDefEqProofs [P1,e8,P3,f8,O1,O3]
    refine onC_mk _ (Q) ?_
    simp -implicitDefEqProofs [P1,e8,P3,f8,O1,O3]
    refine onC_mk _ (H2) ?_
    simp -implicitDefEqProofs [P1,e8,P3,f8,O1,O3]
    refine onH_mk _ _ N1 ⟨?_,?_,?_,?_,?_,?_,?_⟩ ?_
    iterate 5 (· simp [mn,P1,e8,P3])
    ·simp
     intro a b hm
     obtain ⟨h1,h2⟩:=mw _ a b hm
     exact ⟨by rw [h2];rfl,h1⟩
    ·simp
    simp -implicitDefEqProofs [mn,lkB_app,P1,e8,P3]
    have GP: ∀s,∀p∈G s++[(Id.n 5,P'),(Id.n 3,P)],lkB (G s++[(Id.n 5,P'),(Id.n 3,P)]) p.1=some p.2:=fun s p hp=>by
     rcases List.mem_append.1 hp with hp|hp
     ·rw [lkB_app,gu s p hp]
     ·rcases List.mem_cons.1 hp with rfl|hp
      ·rw [lkB_app,g5];simp [lkB]
      ·rw [List.mem_singleton] at hp
       subst hp
       rw [lkB_app,g3];simp [lkB]
    have GK: ∀s d,(lkB (G s) d).isSome=true→(lkB (G s++[(Id.n 5,P'),(Id.n 3,P)]) d).isSome=true:=fun s d h=>by
     rw [lkB_app]
     obtain ⟨c,hc⟩:=Option.isSome_iff_exists.1 h
     rw [hc];rfl
    have GN5: ∀s,(lkB (G s++[(Id.n 5,P'),(Id.n 3,P)]) (.n 5)).isSome=true:=fun s=>by rw [lkB_app,g5];simp [lkB]
    have GN3: ∀s,(lkB (G s++[(Id.n 5,P'),(Id.n 3,P)]) (.n 3)).isSome=true:=fun s=>by rw [lkB_app,g3];simp [lkB]
    have GB: ∀s,∀p∈G s++[(Id.n 5,P'),(Id.n 3,P)],∀d∈idsL p.2,(lkB (G s++[(Id.n 5,P'),(Id.n 3,P)]) d).isSome=true∨d.isUp=true:=fun s p hp=>by
     rcases List.mem_append.1 hp with hp|hp
     ·exact fun d hd=> .inl (GK s d (gi s p hp d hd))
     ·rcases List.mem_cons.1 hp with rfl|hp
      ·intro d hd
       rw [O2] at hd;simp at hd
      ·rw [List.mem_singleton] at hp
       subst hp
       intro d hd
       rw [P2] at hd;simp at hd
    refine wp_lpk (α:=Nat×Mt) (fun p=>⟨[(1,.sl RW),(3,.ptr (.n 3) 0),(5,.ptr (.n 5) 0),(7,.ptr FM 0),(9,.ptr (.n 40) 0),(10,i6 p.1)],G p.2++[(Id.n 5,P'),(Id.n 3,P)],[(.b (.n 40) 10,3)]⟩)
     (fun p=>p.1≤l.length∧p.1≤100∧MtOk x (winP x).length (kN x) (wN x) p.2 p.1) (fun p=>l.length - p.1) ?_ (0,mt0) ?_ ?_
    ·rintro K ⟨k,s⟩ hK ⟨k1,k2,k3⟩
     by_cases c:k<l.length∧k<100
     ·obtain ⟨c1,c2⟩:=c
      have c1':(k:Int)<l.length:=by omega
      have c2':(k:Int)<100:=by omega
      have w1:IntKind.i64.wrap ((k:Int)+1)=(k+1:Nat):=by rw [wr]<;>omega
      have kl:k<RW.length:=by omega
      have ew0:=aat k c1
      have ew:RW[k]'kl=l[k].row:=by rw [List.getElem?_eq_getElem kl] at ew0;exact Option.some.inj ew0
      have r4:=a4 _ (List.getElem_mem kl)
      have D1:=DO s k (by omega) k3 l[k] (hal _ (List.getElem_mem c1))
      have fin:=fun σ' (hσ:Weak σ' _)=>hK (k+1,ST s l[k]) σ' ⟨by simp only;omega,by simp only;omega,hok s k k3 l[k]⟩ (by simp only;omega) hσ
      rw [ew] at r4
      clear hK DO hok aat N1 TAIL RX RY
      generalize ST s l[k]=s' at *
      generalize l[k].row=r at *
      have e4:List.take 4 r=r:=List.take_of_length_le (by omega)
      simp -implicitDefEqProofs [al,c1,c1',c2',c2,kl,ew,ew0,a4,r4,e4]
      refine onH_xs (pre:=[]) (suf:=[(.n 5,P'),(.n 3,P)]) (q:=[]) (D1 _ (by rw [mM];rfl)) rfl rfl (gX _) ?_ ?_ (gu _) (gk _ _) (GW0 s _ (by omega) _ (by simp [Id.isNw])) ?_ ?_ ?_
      ·simp
      ·simp [g5,g3]
      ·simp
      ·simp
      simp -implicitDefEqProofs [w1]
      refine fin _ (weak_mk ?_ (wkB_self (GP s')) ?_ ?_ (GB s') ?_)
      ·simp [w1]
      ·simp
      ·simp [GK s' _ (gX s'),GK s' FM (gM s'),GN3,GN5]
      ·simp [GK s' _ (gX s')]
     ·have T:=TAIL s k (by omega) k3
      clear hK DO hok aat N1 RX RY TAIL
      by_cases c2:k<l.length
      ·have c3: ¬(k:Int)<100:=by omega
       have c2':(k:Int)<l.length:=by omega
       have c3': ¬k<100:=by omega
       simp -implicitDefEqProofs [al,c2,c2',c3,c3']
       refine T _ ?_ ?_ ?_ ?_<;>simp -implicitDefEqProofs
      ·have c2': ¬(k:Int)<l.length:=by omega
       simp -implicitDefEqProofs [al,c2,c2']
       refine T _ ?_ ?_ ?_ ?_<;>simp -implicitDefEqProofs
    ·exact ⟨Nat.zero_le _,Nat.zero_le _,ok0⟩
    ·refine weak_mk ?_ ?_ ?_ ?_ (GB mt0) ?_
     ·simp
     ·intro p hp
      rcases List.mem_append.1 hp with hp|hp
      ·rw [hGm] at hp
       rcases List.mem_cons.1 hp with rfl|hp
       ·simp [←hP,hxr]
        exact ⟨.inl rfl,.inl rfl,.inl rfl,.inl rfl,.inl rfl,.inl rfl,.inl rfl,.inl rfl,.inl rfl,.inl rfl,.inr ⟨rfl,rfl⟩,trivial⟩
       ·have e1:=ne_none hp (mn mt0 40)
        have q:=lkB_app (mt mt0) [(Id.n 5,P'),(Id.n 3,P)] p.1
        rw [mu mt0 p hp] at q
        simp only [wkB,lkB,if_neg e1,q]
        exact wkL_rfl' _
      ·rcases List.mem_cons.1 hp with rfl|hp
       ·simp [mn,lkB_app]
       ·rw [List.mem_singleton] at hp
        subst hp
        simp -implicitDefEqProofs [mn,lkB_app]
     ·simp
      rw [←hP];rfl
     ·simp [GK mt0 _ (gX mt0),GK mt0 FM (gM mt0),GN3,GN5]
     ·simp [GK mt0 _ (gX mt0)]
end Go.Ai
namespace Go.Ai
open Go.Proofs Go.Lib
set_option maxRecDepth 100000
def accCells:List Value:=(List.range 32).map fun o=>Value.int .u8 (if o%2=0 then (accLo (o / 2):Int) else (accHi (o / 2):Int))
def firstCells:List Value:=firstTab.map fun z=>Value.int .u8 z
theorem first_cell {W:World} (h:VarReads Tryz.prog W "unicode/utf8.first" firstData) (o:Nat) (u:Value) (hu:firstCells[o]?=some u):W.cell? ⟨2,o,none⟩=some u∧u.oneCell'=true:=by
 have hg0:Tryz.prog.globalNamed "unicode/utf8.first"=some 2:=by kernel_rfl
 have ht0:(Tryz.prog.globals[2]?).map (·.type)=some 263:=by kernel_rfl
 obtain ⟨g,t,cs,fuel,p,hg,hty,hvar,hd⟩:=h
 obtain rfl:=Option.some.inj (hg0.symm.trans hg)
 obtain rfl:=Option.some.inj (ht0.symm.trans hty)
 have hcs:=cells_of_tab (t:=263) (e:=5) (n:=256) (by kernel_rfl) (by kernel_rfl) (by kernel_rfl) (by kernel_rfl) hd
 refine ⟨?_,?_⟩
 ·rw [World.var?_cell hg hvar o,←Array.getElem?_toList,hcs]
  exact hu
 ·obtain ⟨z,_,rfl⟩:=List.mem_map.1 (List.mem_of_getElem? hu)
  rfl
theorem acc_cell {W:World} (h:VarReads Tryz.prog W "unicode/utf8.acceptRanges" acceptData) (o:Nat) (u:Value) (hu:accCells[o]?=some u):W.cell? ⟨3,o,none⟩=some u∧u.oneCell'=true:=by
 have hg0:Tryz.prog.globalNamed "unicode/utf8.acceptRanges"=some 3:=by kernel_rfl
 have ht0:(Tryz.prog.globals[3]?).map (·.type)=some 266:=by kernel_rfl
 have hc0:Tryz.prog.cellsOf 265=2:=by kernel_rfl
 obtain ⟨g,t,cs,fuel,p,hg,hty,hvar,hd⟩:=h
 obtain rfl:=Option.some.inj (hg0.symm.trans hg)
 obtain rfl:=Option.some.inj (ht0.symm.trans hty)
 have ho:o<32:=by have:=(List.getElem?_eq_some_iff.1 hu).1;simpa [accCells] using this
 simp only [accCells,List.getElem?_map,List.getElem?_range ho,Option.map_some,Option.some.injEq] at hu
 subst hu
 refine ⟨?_,by split<;>rfl⟩
 have hi:o / 2<16:=by omega
 obtain ⟨fuel',d,q,hdi,he⟩:=array_elem (t:=266) (e:=265) (n:=16) (by kernel_rfl) hd (o / 2) hi
 simp only [List.getElem?_map,List.getElem?_range hi,Option.map_some,Option.some.injEq] at hdi
 subst hdi
 rw [hc0] at he
 obtain ⟨fs,hfs,hsz,hf⟩: ∃fs:Array Field,Tryz.prog.underlying 265=some (.struct fs)∧fs.size=2∧ ∀(i:Nat) (f:Field),fs[i]?=some f→Tryz.prog.underlying f.type=some (.int .u8)∧f.offset=i∧Tryz.prog.cellsOf f.type=1:=by
  refine ⟨_,(by kernel_rfl:Tryz.prog.underlying 265=some (.struct #[Field.mk "lo" 5 0 false "" "unicode/utf8" 0,Field.mk "hi" 5 1 false "" "unicode/utf8" 1])),rfl,fun j f hj=>?_⟩
  match j,hj with
  |0,hj=>simp at hj;subst hj;exact ⟨by kernel_rfl,rfl,by kernel_rfl⟩
  |1,hj=>simp at hj;subst hj;exact ⟨by kernel_rfl,rfl,by kernel_rfl⟩
  |j+2,hj=>simp at hj
 have hcs:=ints_of_struct hfs hf (by rw [hc0,hsz]) he
 have e0:=congrArg (·[0]?) hcs
 have e1:=congrArg (·[1]?) hcs
 simp only [List.getElem?_take,List.getElem?_drop] at e0 e1
 rw [World.var?_cell hg hvar o,←Array.getElem?_toList]
 by_cases hp:o%2=0
 ·rw [if_pos hp]
  have eo:o / 2*2+0=o:=by omega
  rw [eo] at e0
  simpa using e0
 ·rw [if_neg hp]
  have eo:o / 2*2+1=o:=by omega
  rw [eo] at e1
  simpa using e1
end Go.Ai
namespace Go.Ai
open Go.Proofs Go.Lib
set_option maxRecDepth 100000
theorem gl_is:gl=[(2,firstCells),(3,accCells)]:=by kernel_rfl
theorem u8_glo (W:World) (h:laidMet Tryz.prog [("unicode/utf8.acceptRanges",acceptData),("unicode/utf8.first",firstData)] W): ∀i us,List.lookup i gl=some us→ ∀(o:Nat) (u:Value),us[o]?=some u→W.cell? ⟨i,o,none⟩=some u∧u.oneCell'=true:=by
 intro i us hi o u hu
 rw [gl_is] at hi
 simp only [List.lookup] at hi
 split at hi
 ·rename_i e
  have e:=eq_of_beq e
  subst e
  obtain rfl:=Option.some.inj hi
  exact first_cell (laidMet.reads h (by simp)) o u hu
 ·split at hi
  ·rename_i e
   have e:=eq_of_beq e
   subst e
   obtain rfl:=Option.some.inj hi
   exact acc_cell (laidMet.reads h (by simp)) o u hu
  ·cases hi
end Go.Ai
