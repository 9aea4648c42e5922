/- P8: a part of the proof: the rules, or what functions compute. Conditions: as each theorem says. -/
import Derived.Test.YtidcomakahbepaaGreatDoorP4
import Derived.Test.YtidcomakahbepaaGreatDoorP7
import Derived.Test.YtidcomakahbepaaGreatDoorP2
import Derived.Test.YtidcomakahbepaaGreatDoorP3
import Derived.Test.YtidcomakahbepaaGreatDoorAiUse
import Derived.Test.YtidcomakahbepaaGreatDoorP1
set_option linter.unusedSimpArgs false
set_option linter.unusedVariables false
set_option maxRecDepth 20000
namespace Go.Ai
open Go.Proofs
theorem rspoil_spec (st:RS) (hl:rsLe st 1000000) (d:Nat) (c:Id) (hc:c.isIt=false) (hd:c.isNw d=false):
  SpH Tryz.prog gl 125 d ⟨[.ptr c 0],[(c,rdv st)],[]⟩ ⟨.nilp,[(c,rdv none)],[]⟩:=by
 refine h125 rfl ?_
 have hi:=inn_notNw hd
 have C:=wCountM_spec st hl 4 (.up c) hc rfl
 have i2:=rdv_ids none
 have m1:=rdv_mp st
 have m2:=rdv_mp none
 generalize rdv none=B2 at *
 generalize rdv st=B1 at *
 simp only [inSt,mpL,mpB,mpP,AV.mp,m1]
 simp -implicitDefEqProofs [c125]
 refine onH_mk _ _ (C) ⟨?_,?_,?_,?_,?_,?_,?_⟩ ?_
 iterate 7 (· simp)
 simp -implicitDefEqProofs
 refine postH_r ⟨?_,?_,?_,?_,?_,?_⟩<;>simp -implicitDefEqProofs [hi,hc,i2,m2]
def rgO (d:Nat) (c:Id) (K w N t:Nat) (st:RS):Out:=
 ⟨.ptr (.nw d (.nw 17 (.n 23))) 0,[(c,rdv (rdS st K)),(.nw d (.nw 17 (.n 23)),rgL (.nw d (.nw 17 (.n 21))) K w N t (suT (rdG st) K) (suT (rdT st) K)),(.nw d (.nw 17 (.n 21)),cellsF K (bkG K N (rdG st) K) (bkG K N (rdT st) K))],[]⟩
def rgX (c:Id):Out:=⟨.nilp,[(c,rdv none)],[]⟩
theorem rget_any (st:RS) (hl:rsLe st 1000000) (wd g:Nat) (h:Wd wd g) (t:Nat) (ht:t≤253402300799) (d:Nat) (c:Id) (hc:c.isIt=false) (hd:c.isNw d=false) (O:Out)
  (h1:(∀i,i<wK wd g→ROk (wK wd g) (t / wW wd g) st i)→O=rgO d c (wK wd g) (wW wd g) (t / wW wd g) t st) (h2: ∀i,i<wK wd g→ ¬ROk (wK wd g) (t / wW wd g) st i→O=rgX c):
  SpH Tryz.prog gl 78 d ⟨[.ptr c 0,i6 wd,i6 g,i6 t],[(c,rdv st)],[]⟩ O:=by
 refine h78 rfl ?_
 have hi:=inn_notNw hd
 obtain ⟨k1,k2,_,w1,_⟩:=wK_ok h
 have pr:Pr2 (.nw 17 (.n 23)) (.nw 17 (.n 21)):=⟨rfl,rfl,by simp,fun _=>rfl⟩
 have NW:=rnew_spec wd g h 17
 have MV:=rmove_spec (.nw 17 (.n 23)) (.nw 17 (.n 21)) pr (wK wd g) (wW wd g) 0 t [] k1 k2 w1 (Nat.zero_le _) ht (fun e he=>by cases he) (fun e he=>by cases he) (by simp [sumT,sm]) 25 rfl
 rw [Nat.zero_div] at MV
 have rn: ∀B K w t,ringC B K w t []=rgL B K w (t / w) t 0 0:=fun B K w t=>rfl
 have bn: ∀K w N,bkC K w N []=cellsF K (fun _=>0) (fun _=>0):=fun K w N=>cellsF_congr (fun j _=>⟨rfl,rfl⟩)
 simp only [rn,bn] at NW MV
 have hNt:t / wW wd g≤t:=Nat.div_le_self _ _
 generalize wK wd g=K at *
 generalize wW wd g=w at *
 rw [Nat.zero_div] at NW MV
 generalize t / w=N at *
 have hN:N≤253402300799:=by omega
 have RO: ∀k,k≤K→(∀i,i<k→ROk K N st i)→suT (rdT st) k≤9223372036854775807∧suT (rdG st) k≤9223372036854775807:=fun k hk ho=>by
  have b1:suT (rdG st) k≤suT (rdT st) k:=suT_le fun i hi=>(ho i hi).gt
  have b2:suT (rdT st) k≤9223372036854775807:=by
   cases k with
   |zero=>exact Nat.zero_le _
   |succ k=>have:=(ho k (by omega)).m2;simp only [suT];omega
  omega
 have m0:=rdv_mp st
 have NUa:=fun k e he=>wNum_spec (rdS st k) (rdS_le hl k) e (.up c) hc he
 have NUb:=fun k e he=>wNum_spec (getN (rdS st k)).1 (getN_le (rdS_le hl k)) e (.up c) hc he
 have NU1: ∀k e,(Id.up c).isNw e=false→SpH Tryz.prog gl 77 e ⟨[.ptr (.up c) 0],[(.up c,rdv (rdS st k))],[]⟩ ⟨u (rdG st k),[(.up c,rdv (getN (rdS st k)).1)],[]⟩:=NUa
 have NU2: ∀k e,(Id.up c).isNw e=false→SpH Tryz.prog gl 77 e ⟨[.ptr (.up c) 0],[(.up c,rdv (getN (rdS st k)).1)],[]⟩ ⟨u (rdT st k),[(.up c,rdv (rdS st (k+1)))],[]⟩:=NUb
 clear NUa NUb
 have BA:=fun k e he=>wbad_spec (rdS st (k+1)) e (.up c) hc he
 have SP:=fun k e he=>rspoil_spec (rdS st (k+1)) (rdS_le hl _) e (.up c) hc he
 have lG: ∀k,rdG st k<18446744073709551616:=fun k=>getN_lt _
 have lT: ∀k,rdT st k<18446744073709551616:=fun k=>getN_lt _
 have RI:=fun k=>rright_spec (rdG st k) (rdT st k)
 have RM:=fun k g' s' (hs:s'<18446744073709551616) e he=>rroom_spec (.nw 17 (.n 23)) (.nw 17 (.n 21)) pr K w N t g' s' (rdG st k) (rdT st k) hs (lT k) e he
 have AT:=fun n (hn:n<9223372036854775808) g' s' e he=>rat_spec (.nw 17 (.n 23)) (.nw 17 (.n 21)) pr K w N t g' s' n k1 hn e he
 have GR:=fun k j (hj:j<K) g' s' f q b1 b2 b3 b4 e he=>rgrow_spec (.nw 17 (.n 23)) (.nw 17 (.n 21)) pr K w N t g' s' j (rdG st k) (rdT st k) f q hj b1 b2 b3 b4 e he
 have r0:rdv (rdS st 0)=rdv st:=rfl
 have ids:=rdv_ids
 have idm:=rdv_mp
 have cl:=fun f q=>cellsF_len K f q
 have cx:=fun f q=>cellsF_ids K f q
 have cm:=fun f q g'=>mpL_noids (f:=g') (cellsF_ids K f q)
 simp only [rgL] at NW MV RM AT GR
 simp only [inSt,mpL,mpB,mpP,AV.mp,m0]
 simp -implicitDefEqProofs [c78]
 refine onH_mk _ _ (NW) ⟨?_,?_,?_,?_,?_,?_,?_⟩ ?_
 iterate 7 (· simp)
 simp -implicitDefEqProofs
 refine onH_mk _ _ (MV) ⟨?_,?_,?_,?_,?_,?_,?_⟩ ?_
 iterate 7 (· simp)
 simp -implicitDefEqProofs
 refine wp_lpk (α:=Nat) (fun k=>⟨[(0,.ptr (.up c) 0),(9,.ptr (.nw 17 (.n 23)) 0),(34,i6 K),(35,i6 k)],[(.nw 17 (.n 23),[i6 w,.ms (.nw 17 (.n 21)) 0 K 2,i6 N,i6 t,u (suT (rdG st) k),u (suT (rdT st) k)]),(.nw 17 (.n 21),cellsF K (bkG K N (rdG st) k) (bkG K N (rdT st) k)),(.up c,rdv (rdS st k))],[]⟩) (fun k=>k≤K∧ ∀i,i<k→ROk K N st i) (fun k=>K - k) ?_ 0 ?_ ?_
 ·rintro K' k hK' ⟨k3,k4⟩
  by_cases c0:k<K
  ·have c':(k:Int)<K:=by omega
   have w1':IntKind.i64.wrap ((k:Int)+1)=(k+1:Nat):=by rw [wrap_i64]<;>omega
   have t1:IntKind.i64.wrap ((K:Int) - 1)=(K:Int) - 1:=by rw [wrap_i64]<;>omega
   have t2:IntKind.i64.wrap ((K:Int) - 1 - k)=(K:Int) - 1 - k:=by rw [wrap_i64]<;>omega
   have t3:IntKind.i64.wrap ((N:Int) - ((K:Int) - 1 - k))=(N:Int) - ((K:Int) - 1 - k):=by rw [wrap_i64]<;>omega
   obtain ⟨sT,sG⟩:=RO k k3 k4
   have NU1:=NU1 k 39 rfl
   have NU2:=NU2 k 41 rfl
   have BA:=BA k 57 rfl
   have SP:=SP k 79 rfl
   have RI:=RI k
   have RM:=RM k (suT (rdG st) k) (suT (rdT st) k) (by omega) 66 rfl
   have i1:=ids (rdS st k)
   have i2:=ids (getN (rdS st k)).1
   have i3:=ids (rdS st (k+1))
   have nx:rdv none=[.sl [],.bool true]:=rfl
   have cxk:=cx (bkG K N (rdG st) k) (bkG K N (rdT st) k)
   have lGk:=lG k
   have lTk:=lT k
   by_cases ok:ROk K N st k
   ·obtain ⟨o1,o2,o3,o4,o5⟩:=ok
    have k4': ∀i,i<k+1→ROk K N st i:=fun i hi=>by
     by_cases e:i=k
     ·rw [e];exact ⟨o1,o2,o3,o4,o5⟩
     ·exact k4 i (by omega)
    have fin:=fun σ' hσ=>hK' (k+1) σ' ⟨by omega,k4'⟩ (by omega) hσ
    have d2:decide (rdG st k≤rdT st k)=true:=by simpa using o2
    have d3:decide (rdT st k≤9223372036854775807∧suT (rdT st) k+rdT st k≤9223372036854775807)=true:=by simpa using ⟨o3,o4⟩
    rw [o1] at BA
    rw [d2] at RI
    rw [d3] at RM
    have aT:suT (rdT st) (k+1)=suT (rdT st) k+rdT st k:=rfl
    have aG:suT (rdG st) (k+1)=suT (rdG st) k+rdG st k:=rfl
    by_cases g1:K≤N+1+k
    ·have e5:bkG K N (rdG st) (k+1)=upd (bkG K N (rdG st) k) ((N+1+k - K)%K) (bkG K N (rdG st) k ((N+1+k - K)%K)+rdG st k):=by rw [bkG,if_pos g1]
     have e6:bkG K N (rdT st) (k+1)=upd (bkG K N (rdT st) k) ((N+1+k - K)%K) (bkG K N (rdT st) k ((N+1+k - K)%K)+rdT st k):=by rw [bkG,if_pos g1]
     have hj:=Nat.mod_lt (N+1+k - K) (show 0<K by omega)
     have b5:=bkG_le K N (rdG st) k ((N+1+k - K)%K)
     have b6:=bkG_le K N (rdT st) k ((N+1+k - K)%K)
     have GR:=GR k _ hj (suT (rdG st) k) (suT (rdT st) k) (bkG K N (rdG st) k) (bkG K N (rdT st) k) (by omega) (by omega) (by omega) (by omega) 87 rfl
     have AT:=AT (N+1+k - K) (by omega) (suT (rdG st) k) (suT (rdT st) k)
     rw [←e5,←e6,←aT,←aG] at GR
     have g2:0≤(N:Int) - ((K:Int) - 1 - k):=by omega
     have g3:(N:Int) - ((K:Int) - 1 - k)=(N+1+k - K:Nat):=by omega
     have g4:(K:Int) - 1 - k≤N:=by omega
     have g5: ¬(N:Int)<(K:Int) - 1 - k:=by omega
     have g6: ¬(N:Int) - ((K:Int) - 1 - k)<0:=by omega
     have cx1:=cx (bkG K N (rdG st) (k+1)) (bkG K N (rdT st) (k+1))
     rw [←g3] at AT
     clear hK' h1 h2 RO k4 k4' e5 e6 b5 b6 hj cx cm cl aT aG ids idm
     generalize (N+1+k - K)%K*2=off at *
     generalize cellsF K (bkG K N (rdG st) k) (bkG K N (rdT st) k)=X at *
     generalize cellsF K (bkG K N (rdG st) (k+1)) (bkG K N (rdT st) (k+1))=Y at *
     generalize suT (rdG st) k=s1 at *
     generalize suT (rdG st) (k+1)=s2 at *
     generalize suT (rdT st) k=s3 at *
     generalize suT (rdT st) (k+1)=s4 at *
     generalize rdv (rdS st k)=Q1 at *
     generalize rdv (getN (rdS st k)).1=Q2 at *
     generalize rdv (rdS st (k+1))=Q3 at *
     generalize rdG st k=v1 at *
     generalize rdT st k=v2 at *
     simp -implicitDefEqProofs [c0,c',t1,t2,t3]
     refine onH_mk _ _ (NU1) ⟨?_,?_,?_,?_,?_,?_,?_⟩ ?_
     iterate 7 (· simp)
     simp -implicitDefEqProofs
     refine onH_mk _ _ (NU2) ⟨?_,?_,?_,?_,?_,?_,?_⟩ ?_
     iterate 7 (· simp)
     simp -implicitDefEqProofs [t1,t2,t3]
     refine onH_mk _ _ (BA) ⟨?_,?_,?_,?_,?_,?_,?_⟩ ?_
     iterate 7 (· simp)
     simp -implicitDefEqProofs
     refine onC_mk _ RI ?_
     simp -implicitDefEqProofs
     refine onH_mk _ _ (RM) ⟨?_,?_,?_,?_,?_,?_,?_⟩ ?_
     iterate 7 (· simp)
     simp -implicitDefEqProofs [g2,g4,g5,g6]
     refine onR_mk _ (by simp -implicitDefEqProofs) (fun e he=>AT e he) ?_
     simp -implicitDefEqProofs
     refine onH_mk _ _ (GR) ⟨?_,?_,?_,?_,?_,?_,?_⟩ ?_
     iterate 7 (· simp)
     simp -implicitDefEqProofs
     refine fin _ ?_
     refine weak_mk ?_ ?_ ?_ ?_ ?_ ?_<;>simp -implicitDefEqProofs [w1',cx1,i3]
    ·have o5:rdG st k=0∧rdT st k=0:=by rcases o5 with q|q;exact absurd q g1;exact q
     have e5:bkG K N (rdG st) (k+1)=bkG K N (rdG st) k:=by rw [bkG,if_neg g1]
     have e6:bkG K N (rdT st) (k+1)=bkG K N (rdT st) k:=by rw [bkG,if_neg g1]
     rw [o5.2,Nat.add_zero] at aT
     rw [o5.1,Nat.add_zero] at aG
     rw [e5,e6,aT,aG] at fin
     rw [o5.1] at NU1 RI
     rw [o5.2] at NU2 RM RI
     rw [o5.1] at RM
     have g2: ¬0≤(N:Int) - ((K:Int) - 1 - k):=by omega
     have g4: ¬(K:Int) - 1 - k≤N:=by omega
     have g5:(N:Int)<(K:Int) - 1 - k:=by omega
     have g6:(N:Int) - ((K:Int) - 1 - k)<0:=by omega
     clear hK' h1 h2 RO k4 k4' e5 e6 cx cm cl aT aG ids idm AT GR
     generalize cellsF K (bkG K N (rdG st) k) (bkG K N (rdT st) k)=X at *
     generalize suT (rdG st) k=s1 at *
     generalize suT (rdT st) k=s3 at *
     generalize rdv (rdS st k)=Q1 at *
     generalize rdv (getN (rdS st k)).1=Q2 at *
     generalize rdv (rdS st (k+1))=Q3 at *
     simp -implicitDefEqProofs [c0,c',t1,t2,t3]
     refine onH_mk _ _ (NU1) ⟨?_,?_,?_,?_,?_,?_,?_⟩ ?_
     iterate 7 (· simp)
     simp -implicitDefEqProofs
     refine onH_mk _ _ (NU2) ⟨?_,?_,?_,?_,?_,?_,?_⟩ ?_
     iterate 7 (· simp)
     simp -implicitDefEqProofs [t1,t2,t3]
     refine onH_mk _ _ (BA) ⟨?_,?_,?_,?_,?_,?_,?_⟩ ?_
     iterate 7 (· simp)
     simp -implicitDefEqProofs
     refine onC_mk _ RI ?_
     simp -implicitDefEqProofs
     refine onH_mk _ _ (RM) ⟨?_,?_,?_,?_,?_,?_,?_⟩ ?_
     iterate 7 (· simp)
     simp -implicitDefEqProofs [g2,g4,g5,g6]
     refine fin _ ?_
     refine weak_mk ?_ ?_ ?_ ?_ ?_ ?_<;>simp -implicitDefEqProofs [w1',cxk,i3]
   ·rw [h2 k c0 ok]
    have bad:(rdS st (k+1)).isNone=true∨(¬rdG st k≤rdT st k)∨(¬(rdT st k≤9223372036854775807∧suT (rdT st) k+rdT st k≤9223372036854775807))∨(¬K≤N+1+k∧ ¬(rdG st k=0∧rdT st k=0)):=by
     by_cases q1:(rdS st (k+1)).isNone=true
     ·exact .inl q1
     ·by_cases q2:rdG st k≤rdT st k
      ·by_cases q3:rdT st k≤9223372036854775807∧suT (rdT st) k+rdT st k≤9223372036854775807
       ·refine .inr (.inr (.inr (not_or.1 fun q4=>ok ⟨Bool.eq_false_iff.2 q1,q2,q3.1,q3.2,q4⟩)))
       ·exact .inr (.inr (.inl q3))
      ·exact .inr (.inl q2)
    unfold rgX
    have hn:=idm none
    have hn2:=ids none
    clear hK' h1 h2 RO k4 cx cm cl ids idm AT GR ok
    generalize rdv none=Q4 at *
    generalize cellsF K (bkG K N (rdG st) k) (bkG K N (rdT st) k)=X at *
    generalize suT (rdG st) k=s1 at *
    generalize suT (rdT st) k=s3 at *
    generalize rdv (rdS st k)=Q1 at *
    generalize rdv (getN (rdS st k)).1=Q2 at *
    generalize rdv (rdS st (k+1))=Q3 at *
    generalize (rdS st (k+1)).isNone=bq at *
    generalize rdG st k=v1 at *
    generalize rdT st k=v2 at *
    by_cases q1:bq=true
    ·rw [q1] at BA
     simp -implicitDefEqProofs [c0,c',t1,t2,t3]
     refine onH_mk _ _ (NU1) ⟨?_,?_,?_,?_,?_,?_,?_⟩ ?_
     iterate 7 (· simp)
     simp -implicitDefEqProofs
     refine onH_mk _ _ (NU2) ⟨?_,?_,?_,?_,?_,?_,?_⟩ ?_
     iterate 7 (· simp)
     simp -implicitDefEqProofs [t1,t2,t3]
     refine onH_mk _ _ (BA) ⟨?_,?_,?_,?_,?_,?_,?_⟩ ?_
     iterate 7 (· simp)
     simp -implicitDefEqProofs
     refine onH_mk _ _ (SP) ⟨?_,?_,?_,?_,?_,?_,?_⟩ ?_
     iterate 7 (· simp)
     simp -implicitDefEqProofs
     refine postH_r ⟨?_,?_,?_,?_,?_,?_⟩<;>simp -implicitDefEqProofs [hi,hc,hn,hn2]
    ·have q1:bq=false:=by simpa using q1
     rw [q1] at BA bad
     by_cases q2:v1≤v2
     ·rw [decide_eq_true q2] at RI
      by_cases q3:v2≤9223372036854775807∧s3+v2≤9223372036854775807
      ·rw [decide_eq_true q3] at RM
       obtain ⟨q4,q5⟩: ¬K≤N+1+k∧ ¬(v1=0∧v2=0):=by
        rcases bad with q|q|q|q
        ·cases q
        ·exact absurd q2 q
        ·exact absurd q3 q
        ·exact q
       have g2: ¬0≤(N:Int) - ((K:Int) - 1 - k):=by omega
       have g4: ¬(K:Int) - 1 - k≤N:=by omega
       have g5:(N:Int)<(K:Int) - 1 - k:=by omega
       have g6:(N:Int) - ((K:Int) - 1 - k)<0:=by omega
       have e1:(((v1:Int)==0)&&((v2:Int)==0))=false:=by
        rw [Bool.and_eq_false_iff,beq_eq_false_iff_ne,beq_eq_false_iff_ne];omega
       simp -implicitDefEqProofs [c0,c',t1,t2,t3]
       refine onH_mk _ _ (NU1) ⟨?_,?_,?_,?_,?_,?_,?_⟩ ?_
       iterate 7 (· simp)
       simp -implicitDefEqProofs
       refine onH_mk _ _ (NU2) ⟨?_,?_,?_,?_,?_,?_,?_⟩ ?_
       iterate 7 (· simp)
       simp -implicitDefEqProofs [t1,t2,t3]
       refine onH_mk _ _ (BA) ⟨?_,?_,?_,?_,?_,?_,?_⟩ ?_
       iterate 7 (· simp)
       simp -implicitDefEqProofs
       refine onC_mk _ RI ?_
       simp -implicitDefEqProofs
       refine onH_mk _ _ (RM) ⟨?_,?_,?_,?_,?_,?_,?_⟩ ?_
       iterate 7 (· simp)
       simp -implicitDefEqProofs [g2,g4,g5,g6,e1]
       refine onH_mk _ _ (SP) ⟨?_,?_,?_,?_,?_,?_,?_⟩ ?_
       iterate 7 (· simp)
       simp -implicitDefEqProofs
       refine postH_r ⟨?_,?_,?_,?_,?_,?_⟩<;>simp -implicitDefEqProofs [hi,hc,hn,hn2]
      ·rw [decide_eq_false q3] at RM
       simp -implicitDefEqProofs [c0,c',t1,t2,t3]
       refine onH_mk _ _ (NU1) ⟨?_,?_,?_,?_,?_,?_,?_⟩ ?_
       iterate 7 (· simp)
       simp -implicitDefEqProofs
       refine onH_mk _ _ (NU2) ⟨?_,?_,?_,?_,?_,?_,?_⟩ ?_
       iterate 7 (· simp)
       simp -implicitDefEqProofs [t1,t2,t3]
       refine onH_mk _ _ (BA) ⟨?_,?_,?_,?_,?_,?_,?_⟩ ?_
       iterate 7 (· simp)
       simp -implicitDefEqProofs
       refine onC_mk _ RI ?_
       simp -implicitDefEqProofs
       refine onH_mk _ _ (RM) ⟨?_,?_,?_,?_,?_,?_,?_⟩ ?_
       iterate 7 (· simp)
       simp -implicitDefEqProofs
       refine onH_mk _ _ (SP) ⟨?_,?_,?_,?_,?_,?_,?_⟩ ?_
       iterate 7 (· simp)
       simp -implicitDefEqProofs
       refine postH_r ⟨?_,?_,?_,?_,?_,?_⟩<;>simp -implicitDefEqProofs [hi,hc,hn,hn2]
     ·rw [decide_eq_false q2] at RI
      simp -implicitDefEqProofs [c0,c',t1,t2,t3]
      refine onH_mk _ _ (NU1) ⟨?_,?_,?_,?_,?_,?_,?_⟩ ?_
      iterate 7 (· simp)
      simp -implicitDefEqProofs
      refine onH_mk _ _ (NU2) ⟨?_,?_,?_,?_,?_,?_,?_⟩ ?_
      iterate 7 (· simp)
      simp -implicitDefEqProofs [t1,t2,t3]
      refine onH_mk _ _ (BA) ⟨?_,?_,?_,?_,?_,?_,?_⟩ ?_
      iterate 7 (· simp)
      simp -implicitDefEqProofs
      refine onC_mk _ RI ?_
      simp -implicitDefEqProofs
      refine onH_mk _ _ (SP) ⟨?_,?_,?_,?_,?_,?_,?_⟩ ?_
      iterate 7 (· simp)
      simp -implicitDefEqProofs
      refine postH_r ⟨?_,?_,?_,?_,?_,?_⟩<;>simp -implicitDefEqProofs [hi,hc,hn,hn2]
  ·obtain rfl:k=K:=by omega
   rw [h1 k4]
   unfold rgO
   have i1:=ids (rdS st k)
   have m1:=idm (rdS st k)
   have cx1:=cx (bkG k N (rdG st) k) (bkG k N (rdT st) k)
   have cm1:=cm (bkG k N (rdG st) k) (bkG k N (rdT st) k)
   clear hK' h1 h2 RO k4 cx cm cl ids idm AT GR NU1 NU2 BA SP RM RI
   simp only [rgL]
   generalize cellsF k (bkG k N (rdG st) k) (bkG k N (rdT st) k)=X at *
   generalize suT (rdG st) k=s1 at *
   generalize suT (rdT st) k=s3 at *
   generalize rdv (rdS st k)=Q1 at *
   have nc1: ¬c= .nw d (.nw 17 (.n 23)):=fun e=>by rw [e] at hd;simp [Id.isNw,Id.isUp] at hd
   have nc2: ¬c= .nw d (.nw 17 (.n 21)):=fun e=>by rw [e] at hd;simp [Id.isNw,Id.isUp] at hd
   simp -implicitDefEqProofs
   refine postH_r ⟨?_,?_,?_,?_,?_,?_⟩<;>simp -implicitDefEqProofs [hi,hc,i1,m1,cx1,cm1,nc1,nc2]
 ·exact ⟨Nat.zero_le _,fun i hi=>by omega⟩
 ·have z1:cellsF K (bkG K N (rdG st) 0) (bkG K N (rdT st) 0)=cellsF K (fun _=>0) (fun _=>0):=rfl
  have z2:suT (rdG st) 0=0:=rfl
  have z3:suT (rdT st) 0=0:=rfl
  rw [z1]
  refine weak_mk ?_ ?_ ?_ ?_ ?_ ?_<;>simp -implicitDefEqProofs [r0,z2,z3,cx,ids]
open Go.Proofs
structure Lb where
 n:List UInt8
 t:List UInt8
 deriving DecidableEq
structure Ru where
 n:List UInt8
 p:Bool
 l:Int
 s:Int
 f:Nat
 w:Int
 k:Int
 deriving DecidableEq
structure Gl where
 n:List UInt8
 t:Nat
 g:Int
 a:Int
 o:Int
 c:Int
 lb:List Lb
 ru:List Ru
 deriving DecidableEq
structure Cf where
 gs:List Gl
 r:Int
 v:Int
 i:Int
 x:Int
 y:Int
def Lb.row (x:Lb):List AV:=[.str x.n,.str x.t]
def Ru.row (x:Ru):List AV:=[.str x.n,.bool x.p,i6 x.l,i6 x.s,u x.f,i6 x.w,i6 x.k]
def Gl.row (x:Gl):List AV:=[.str x.n,.int .u32 x.t,i6 x.g,i6 x.a,i6 x.o,i6 x.c,.sl (x.lb.map Lb.row),.sl (x.ru.map Ru.row)]
def Cf.row (x:Cf):List AV:=[.sl (x.gs.map Gl.row),i6 x.r,i6 x.v,i6 x.i,i6 x.x,i6 x.y]
def distR {α:Type} [DecidableEq α]:List α→Nat
 |[]=>0
 |x::r=>distR r+if x∈r then 0 else 1
theorem distR_le {α:Type} [DecidableEq α]: ∀l:List α,distR l≤l.length
 |[]=>Nat.le_refl _
 |x::r=>by have:=distR_le r;simp only [distR,List.length_cons];split<;>omega
theorem distR_iff {α:Type} [DecidableEq α]: ∀l:List α,distR l=l.length↔l.Nodup
 |[]=>by simp [distR]
 |x::r=>by
  have h1:=distR_le r
  have h2:=distR_iff r
  simp only [distR,List.length_cons,List.nodup_cons]
  by_cases h:x∈r
  ·rw [if_pos h]
   constructor
   ·intro e;omega
   ·intro e;exact absurd h e.1
  ·rw [if_neg h,←h2]
   constructor
   ·intro e;exact ⟨h,by omega⟩
   ·intro e;omega
def uniq (l:List (List UInt8)):Bool:=decide l.Nodup
theorem uniq_dist (l:List (List UInt8)):(((distR l.reverse:Nat):Int)==((l.length:Nat):Int))=uniq l:=by
 unfold uniq
 rw [Bool.eq_iff_iff]
 simp only [beq_iff_eq,decide_eq_true_eq]
 rw [show ((distR l.reverse:Nat):Int)=((l.length:Nat):Int)↔distR l.reverse=l.reverse.length by rw [List.length_reverse];omega,distR_iff]
 unfold List.Nodup
 rw [List.pairwise_reverse]
 constructor
 ·intro h;exact h.imp (fun h=>Ne.symm h)
 ·intro h;exact h.imp (fun h=>Ne.symm h)
def cntV (l:List (List UInt8×Nat)):List (MK×MK):=l.map fun p=>(.s p.1,.i .i64 p.2)
def bump (l:List (List UInt8×Nat)) (n:List UInt8):List (List UInt8×Nat):=match l with
 |[]=>[(n,1)]
 |(m,c)::r=>if n=m then (m,c+1)::r else (m,c)::bump r n
theorem bump_len (n:List UInt8): ∀l,(bump l n).length=l.length+if n∈l.map Prod.fst then 0 else 1
 |[]=>by simp [bump]
 |(m,c)::r=>by
  simp only [bump]
  split
  ·rename_i h;subst h;simp
  ·rename_i h
   simp only [List.length_cons,List.map_cons,List.mem_cons,bump_len n r]
   by_cases h2:n∈r.map Prod.fst
   ·rw [if_pos h2,if_pos (.inr h2)]
   ·rw [if_neg h2,if_neg (fun e=>e.elim h h2)]
theorem bump_mem (n x:List UInt8): ∀l,x∈(bump l n).map Prod.fst↔x=n∨x∈l.map Prod.fst
 |[]=>by simp [bump]
 |(m,c)::r=>by
  simp only [bump]
  split
  ·rename_i h;subst h;simp
  ·rename_i h
   simp only [List.map_cons,List.mem_cons,bump_mem n x r]
   constructor
   ·rintro (h|h|h)
    ·exact .inr (.inl h)
    ·exact .inl h
    ·exact .inr (.inr h)
   ·rintro (h|h|h)
    ·exact .inr (.inl h)
    ·exact .inl h
    ·exact .inr (.inr h)
theorem bump_le (n:List UInt8) (N:Nat): ∀l,(∀p∈l,p.2≤N)→ ∀p∈bump l n,p.2≤N+1
 |[],_,p,hp=>by simp only [bump,List.mem_singleton] at hp;subst hp;simp
 |(m,c)::r,h,p,hp=>by
  simp only [bump] at hp
  have h1:=h (m,c) (by simp)
  simp only at h1
  split at hp
  ·rcases List.mem_cons.1 hp with rfl|hp
   ·simp only;omega
   ·have:=h p (by simp [hp]);omega
  ·rcases List.mem_cons.1 hp with rfl|hp
   ·simp only;omega
   ·exact bump_le n N r (fun q hq=>h q (by simp [hq])) p hp
theorem cnt_find (n:List UInt8): ∀(l:List (List UInt8×Nat)) (i:Nat),
  (mfind (.s n) (cntV l) i=some none∧cntV (bump l n)=cntV l++[(.s n,.i .i64 1)])∨ ∃j c,(n,c)∈l∧mfind (.s n) (cntV l) i=some (some (i+j,.i .i64 (c:Nat)))∧mset (cntV l) j (.i .i64 ((c+1:Nat):Int))=cntV (bump l n)
 |[],i=> .inl ⟨rfl,rfl⟩
 |(m,c)::r,i=>by
  have e:cntV ((m,c)::r)=(.s m,.i .i64 c)::cntV r:=rfl
  rw [e]
  simp only [mfind,MK.same,bump]
  by_cases h:n=m
  ·subst h
   refine .inr ⟨0,c,by simp,?_,?_⟩
   ·simp
   ·rw [if_pos rfl];rfl
  ·have hb:(n==m)=false:=by simpa using h
   rw [hb,if_neg h]
   rcases cnt_find n r (i+1) with ⟨h1,h2⟩|⟨j,c',h0,h1,h2⟩
   ·refine .inl ⟨by simp [h1],?_⟩
    show (MK.s m,MK.i .i64 (c:Int))::cntV (bump r n)=_
    rw [h2];rfl
   ·refine .inr ⟨j+1,c',by simp [h0],?_,?_⟩
    ·simp only [h1];rw [show i+1+j=i+(j+1) by omega]
    ·show mset _ (j+1) _=(MK.s m,MK.i .i64 (c:Int))::cntV (bump r n)
     rw [←h2];rfl
open Go.Proofs
structure Nms (M A:Id) (R B:Nat→Id):Prop where
 mi:M.isIt=false
 ai:A.isIt=false
 ri: ∀i,(R i).isIt=false
 bi: ∀i,(B i).isIt=false
 rr: ∀i j,R i=R j→i=j
 bb: ∀i j,B i=B j→i=j
 rb: ∀i j,R i≠B j
 mr: ∀i,M≠R i
 mb: ∀i,M≠B i
 ar: ∀i,A≠R i
 ab: ∀i,A≠B i
 ma:M≠A
 na: ∀e,M.isNw e=A.isNw e
 nr: ∀i e,M.isNw e=(R i).isNw e
 nb: ∀i e,M.isNw e=(B i).isNw e
theorem Nms.up {M A:Id} {R B:Nat→Id} (h:Nms M A R B):Nms (.up M) (.up A) (fun i=> .up (R i)) (fun i=> .up (B i)):=
 ⟨h.mi,h.ai,h.ri,h.bi,fun i j e=>h.rr i j (Id.up.inj e),fun i j e=>h.bb i j (Id.up.inj e),fun i j e=>h.rb i j (Id.up.inj e),fun i e=>h.mr i (Id.up.inj e),fun i e=>h.mb i (Id.up.inj e),
  fun i e=>h.ar i (Id.up.inj e),fun i e=>h.ab i (Id.up.inj e),fun e=>h.ma (Id.up.inj e),fun _=>rfl,fun _ _=>rfl,fun _ _=>rfl⟩
theorem Nms.pr {M A:Id} {R B:Nat→Id} (h:Nms M A R B) (i:Nat):Pr2 (R i) (B i):=⟨h.ri i,h.bi i,h.rb i i,fun e=>by rw [←h.nr,←h.nb]⟩
theorem Nms.pa {M A:Id} {R B:Nat→Id} (h:Nms M A R B):Pr2 M A:=⟨h.mi,h.ai,h.ma,h.na⟩
def rgsB (R B:Nat→Id) (C:Nat→Id→List AV) (D:Nat→List AV) (n:Nat):List (Id×List AV):=(List.range n).flatMap fun i=>[(R i,C i (B i)),(B i,D i)]
theorem rgsB_succ (R B:Nat→Id) (C:Nat→Id→List AV) (D:Nat→List AV) (n:Nat):rgsB R B C D (n+1)=rgsB R B C D n++[(R n,C n (B n)),(B n,D n)]:=by
 unfold rgsB;rw [List.range_succ];simp
theorem mem_rgsB {R B:Nat→Id} {C:Nat→Id→List AV} {D:Nat→List AV} {n:Nat} {p:Id×List AV}:p∈rgsB R B C D n↔ ∃i,i<n∧(p=(R i,C i (B i))∨p=(B i,D i)):=by
 unfold rgsB;simp [List.mem_flatMap]
theorem rgsB_none {R B:Nat→Id} {C:Nat→Id→List AV} {D:Nat→List AV} {x:Id} (h1: ∀i,x≠R i) (h2: ∀i,x≠B i): ∀n,lkB (rgsB R B C D n) x=none
 |0=>rfl
 |n+1=>by
  rw [rgsB_succ,lkB_app,rgsB_none h1 h2 n]
  simp only [lkB]
  rw [if_neg (fun e=>h1 n e.symm),if_neg (fun e=>h2 n e.symm)]
theorem rgsB_R {M A:Id} {R B:Nat→Id} (h:Nms M A R B) {C:Nat→Id→List AV} {D:Nat→List AV} {i:Nat}: ∀n,i<n→lkB (rgsB R B C D n) (R i)=some (C i (B i))
 |n+1,hi=>by
  rw [rgsB_succ,lkB_app]
  by_cases e:i=n
  ·subst e
   have: ∀m,m≤i→lkB (rgsB R B C D m) (R i)=none:=by
    intro m
    induction m with
    |zero=>intro _;rfl
    |succ m ih=>
     intro hm
     rw [rgsB_succ,lkB_app,ih (by omega)]
     simp only [lkB]
     rw [if_neg (fun e=>by have:=h.rr _ _ e;omega),if_neg (fun e=>h.rb _ _ e.symm)]
   rw [this i (Nat.le_refl _)]
   simp [lkB]
  ·rw [rgsB_R h n (by omega)]
theorem rgsB_B {M A:Id} {R B:Nat→Id} (h:Nms M A R B) {C:Nat→Id→List AV} {D:Nat→List AV} {i:Nat}: ∀n,i<n→lkB (rgsB R B C D n) (B i)=some (D i)
 |n+1,hi=>by
  rw [rgsB_succ,lkB_app]
  by_cases e:i=n
  ·subst e
   have: ∀m,m≤i→lkB (rgsB R B C D m) (B i)=none:=by
    intro m
    induction m with
    |zero=>intro _;rfl
    |succ m ih=>
     intro hm
     rw [rgsB_succ,lkB_app,ih (by omega)]
     simp only [lkB]
     rw [if_neg (fun e=>h.rb _ _ e),if_neg (fun e=>by have:=h.bb _ _ e;omega)]
   rw [this i (Nat.le_refl _)]
   simp only [lkB]
   rw [if_neg (h.rb _ _)]
   simp
  ·rw [rgsB_B h n (by omega)]
theorem mem_rmB {x:Id} {p:Id×List AV}: ∀ {l:List (Id×List AV)},p∈rmB l x→p∈l
 |(d,c)::r,h=>by
  simp only [rmB] at h
  split at h
  ·exact List.mem_cons_of_mem _ (mem_rmB h)
  ·rcases List.mem_cons.1 h with h|h
   ·rw [h];exact List.mem_cons_self ..
   ·exact List.mem_cons_of_mem _ (mem_rmB h)
theorem rmB_app (x:Id): ∀(a b:List (Id×List AV)),rmB (a++b) x=rmB a x++rmB b x
 |[],b=>rfl
 |(d,c)::r,b=>by
  simp only [List.cons_append,rmB]
  split
  ·exact rmB_app x r b
  ·rw [rmB_app x r b];rfl
theorem rgsB_rm {R B:Nat→Id} {C:Nat→Id→List AV} {D:Nat→List AV} {x:Id} (h1: ∀i,x≠R i) (h2: ∀i,x≠B i): ∀n,rmB (rgsB R B C D n) x=rgsB R B C D n
 |0=>rfl
 |n+1=>by
  rw [rgsB_succ,rmB_app,rgsB_rm h1 h2 n]
  simp only [rmB]
  rw [if_neg (fun e=>h1 n e.symm),if_neg (fun e=>h2 n e.symm)]
theorem mpB_app (f:Id→Id): ∀(a b:List (Id×List AV)),mpB f (a++b)=mpB f a++mpB f b
 |[],b=>rfl
 |(d,c)::r,b=>by simp only [List.cons_append,mpB,mpB_app f r b]
theorem mpB_rgs {f:Id→Id} {R B:Nat→Id} {C:Nat→Id→List AV} {D:Nat→List AV} (hC: ∀i x,mpL f (C i x)=C i (f x)) (hD: ∀i,mpL f (D i)=D i): ∀n,mpB f (rgsB R B C D n)=rgsB (fun i=>f (R i)) (fun i=>f (B i)) C D n
 |0=>rfl
 |n+1=>by rw [rgsB_succ,mpB_app,mpB_rgs hC hD n,rgsB_succ];simp only [mpB,hC,hD]
def upto {α:Type} (k:Nat) (a b:Nat→α) (i:Nat):α:=if i<k then a i else b i
theorem upto_lt {α:Type} {k i:Nat} {a b:Nat→α} (h:i<k):upto k a b i=a i:=if_pos h
theorem upto_ge {α:Type} {k i:Nat} {a b:Nat→α} (h:k≤i):upto k a b i=b i:=if_neg (by omega)
theorem upto_zero {α:Type} {a b:Nat→α}:upto 0 a b=b:=by funext i;exact upto_ge (Nat.zero_le _)
theorem rgsB_congr {R B:Nat→Id} {C C':Nat→Id→List AV} {D D':Nat→List AV} {n:Nat} (h: ∀i,i<n→C i=C' i∧D i=D' i):rgsB R B C D n=rgsB R B C' D' n:=by
 induction n with
 |zero=>rfl
 |succ n ih=>rw [rgsB_succ,rgsB_succ,ih (fun i hi=>h i (by omega)),(h n (by omega)).1,(h n (by omega)).2]
theorem rgsB_upto {R B:Nat→Id} {C C':Nat→Id→List AV} {D D':Nat→List AV} {n:Nat}:rgsB R B (upto n C' C) (upto n D' D) n=rgsB R B C' D' n:=rgsB_congr fun i hi=>⟨upto_lt hi,upto_lt hi⟩
theorem rgs_step {M A:Id} {R B:Nat→Id} (h:Nms M A R B) {C C':Nat→Id→List AV} {D D':Nat→List AV} {k n:Nat} (hk:k<n) {bx:List (Id×List AV)}
  (hR:lkB bx (R k)=some (C' k (B k))) (hB:lkB bx (B k)=some (D' k)) (ho: ∀i,i<n→i≠k→lkB bx (R i)=some (upto k C' C i (B i))∧lkB bx (B i)=some (upto k D' D i)):
  ∀p∈rgsB R B (upto (k+1) C' C) (upto (k+1) D' D) n,wkB bx p.1 p.2:=by
 intro p hp
 obtain ⟨i,hi,e⟩:=mem_rgsB.1 hp
 by_cases hik:i=k
 ·subst hik
  rcases e with rfl|rfl
  ·simp only [wkB,hR,upto_lt (Nat.lt_succ_self i)];exact wkL_rfl' _
  ·simp only [wkB,hB,upto_lt (Nat.lt_succ_self i)];exact wkL_rfl' _
 ·have e1: ∀ {α:Type} (a b:Nat→α),upto (k+1) a b i=upto k a b i:=fun a b=>by unfold upto;by_cases g:i<k<;>simp [g]<;>omega
  obtain ⟨q1,q2⟩:=ho i hi hik
  rcases e with rfl|rfl
  ·simp only [wkB,q1,e1];exact wkL_rfl' _
  ·simp only [wkB,q2,e1];exact wkL_rfl' _
theorem rgs_call {M A:Id} {R B:Nat→Id} (h:Nms M A R B) {C:Nat→Id→List AV} {D:Nat→List AV} {k n:Nat} (hk:k<n) {c d mc ac:List AV}:
  let bx:=(R k,c)::(B k,d)::(M,mc)::(A,ac)::rmB (rmB (rgsB R B C D n) (R k)) (B k)
  lkB bx (R k)=some c∧lkB bx (B k)=some d∧ ∀i,i<n→i≠k→lkB bx (R i)=some (C i (B i))∧lkB bx (B i)=some (D i):=by
 intro bx
 refine ⟨by simp [bx,lkB],?_,fun i hi hne=>?_⟩
 ·simp only [bx,lkB]
  rw [if_neg (h.rb _ _)];simp
 ·constructor
  ·simp only [bx,lkB]
   rw [if_neg (fun e=>hne (h.rr _ _ e).symm),if_neg (fun e=>h.rb _ _ e.symm),if_neg (h.mr _),if_neg (h.ar _),lkB_rmB,if_neg (fun e=>h.rb _ _ e.symm),lkB_rmB,if_neg (fun e=>hne (h.rr _ _ e).symm)]
   exact rgsB_R h n hi
  ·simp only [bx,lkB]
   rw [if_neg (h.rb _ _),if_neg (fun e=>hne (h.bb _ _ e).symm),if_neg (h.mb _),if_neg (h.ab _),lkB_rmB,if_neg (fun e=>hne (h.bb _ _ e).symm),lkB_rmB,if_neg (h.rb _ _)]
   exact rgsB_B h n hi
def ptrC (R:Nat→Id) (n:Nat):List AV:=(List.range n).map fun i=> .ptr (R i) 0
theorem ptrC_len (R:Nat→Id) (n:Nat):(ptrC R n).length=n:=by simp [ptrC]
theorem ptrC_at {R:Nat→Id} {n i:Nat} (h:i<n):(ptrC R n)[i]?=some (.ptr (R i) 0):=by simp [ptrC,h]
theorem ptrC_mp (f:Id→Id) (R:Nat→Id): ∀n,mpL f (ptrC R n)=ptrC (fun i=>f (R i)) n:=by
 intro n
 have app: ∀a b:List AV,mpL f (a++b)=mpL f a++mpL f b:=by
  intro a b
  induction a with
  |nil=>rfl
  |cons x r ih=>simp only [List.cons_append,mpL,ih]
 have succ: ∀(R:Nat→Id) n,ptrC R (n+1)=ptrC R n++[.ptr (R n) 0]:=fun R n=>by unfold ptrC;rw [List.range_succ];simp
 induction n with
 |zero=>rfl
 |succ n ih=>rw [succ,app,ih,succ];rfl
theorem ptrC_ids {R:Nat→Id} {n:Nat} {x:Id} (h:x∈idsL (ptrC R n)): ∃i,i<n∧x=R i:=by
 have app: ∀a b:List AV,idsL (a++b)=idsL a++idsL b:=by
  intro a b
  induction a with
  |nil=>rfl
  |cons y r ih=>simp only [List.cons_append,idsL,ih,List.append_assoc]
 have succ: ∀n,ptrC R (n+1)=ptrC R n++[.ptr (R n) 0]:=fun n=>by unfold ptrC;rw [List.range_succ];simp
 induction n with
 |zero=>simp [ptrC,idsL] at h
 |succ n ih=>
  rw [succ,app] at h
  rcases List.mem_append.1 h with h|h
  ·obtain ⟨i,h1,h2⟩:=ih h;exact ⟨i,by omega,h2⟩
  ·simp [idsL,AV.ids] at h;exact ⟨n,by omega,h⟩
def mtC (x:Gl) (A:Id) (n:Nat) (W:List (List AV)) (fr to cg ct t:Nat) (sd:Bool):List AV:=
 [.str x.n,.int .u32 x.t,i6 x.g,i6 x.a,i6 x.o,i6 x.c,.sl (x.lb.map Lb.row),.sl (x.ru.map Ru.row),.sl W,.ms A 0 n 1,i6 fr,i6 to,u cg,u ct,i6 t,.bool sd]
theorem mtC_mp (f:Id→Id) (x:Gl) (A:Id) (n:Nat) (W:List (List AV)) (fr to cg ct t:Nat) (sd:Bool):mpL f (mtC x A n W fr to cg ct t sd)=mtC x (f A) n W fr to cg ct t sd:=rfl
end Go.Ai
namespace Go.Ai
def leapN (y:Nat):Bool:=decide (y%4=0)&&!decide (y%100=0)||decide (y%400=0)
def dimN (y m:Nat):Nat:=if m<1∨12<m then 0 else if m=2 then (if leapN y=true then 29 else 28) else 30+(m+m / 8)%2
def diyN (y:Nat):Nat:=if leapN y=true then 366 else 365
def aheadN (y m:Nat):Nat:=if m<3 then 365*(y - 1)+(y - 1) / 4 - (y - 1) / 100+(y - 1) / 400+(153*(m+9)+2) / 5 else 365*y+y / 4 - y / 100+y / 400+(153*(m - 3)+2) / 5
theorem leapN_iff (y:Nat):leapN y=true↔(y%4=0∧y%100≠0)∨y%400=0:=by simp [leapN]
theorem year4 (y:Nat): ∃u v t s,y=400*u+100*v+4*t+s∧v<4∧t<25∧s<4∧y / 4=100*u+25*v+t∧y / 100=4*u+v∧y / 400=u:=
 ⟨y / 400,y%400 / 100,y%100 / 4,y%4,by omega,by omega,by omega,by omega,by omega,by omega,rfl⟩
theorem leap4 {y u v t s:Nat} (h:y=400*u+100*v+4*t+s) (hv:v<4) (ht:t<25) (hs:s<4):leapN y=true↔s=0∧(t≠0∨v=0):=by
 rw [leapN_iff]
 have e1:y%4=s:=by omega
 have e2:y%100=4*t+s:=by omega
 have e3:y%400=100*v+4*t+s:=by omega
 rw [e1,e2,e3]
 omega
theorem sub1_4 {y u v t s:Nat} (hy:1≤y) (h:y=400*u+100*v+4*t+s) (hv:v<4) (ht:t<25) (hs:s<4):
  (y - 1) / 4=(if s=0 then 100*u+25*v+t - 1 else 100*u+25*v+t)∧(y - 1) / 100=(if s=0∧t=0 then 4*u+v - 1 else 4*u+v)∧(y - 1) / 400=(if s=0∧t=0∧v=0 then u - 1 else u):=by
 refine ⟨?_,?_,?_⟩<;>split<;>omega
theorem ahead_feb (y:Nat) (hy:1≤y):365*y+y / 4 - y / 100+y / 400=365*(y - 1)+(y - 1) / 4 - (y - 1) / 100+(y - 1) / 400+diyN y:=by
 obtain ⟨u,v,t,s,h,hv,ht,hs,d1,d2,d3⟩:=year4 y
 obtain ⟨e1,e2,e3⟩:=sub1_4 hy h hv ht hs
 have hl:=leap4 h hv ht hs
 rw [d1,d2,d3,e1,e2,e3]
 unfold diyN
 by_cases c1:s=0
 ·subst c1
  by_cases c2:t=0
  ·subst c2
   by_cases c3:v=0
   ·subst c3
    have:leapN y=true:=hl.2 ⟨rfl,.inr rfl⟩
    simp [this];omega
   ·have:leapN y=false:=by
     cases hb:leapN y
     ·rfl
     ·have:=hl.1 hb;omega
    simp [this,c3];omega
  ·have:leapN y=true:=hl.2 ⟨rfl,.inl c2⟩
   simp [this,c2];omega
 ·have:leapN y=false:=by
   cases hb:leapN y
   ·rfl
   ·have:=hl.1 hb;omega
  simp [this,c1];omega
theorem ahead_month (y m:Nat) (hy:1≤y) (h1:1≤m) (h2:m≤11):aheadN y (m+1)=aheadN y m+dimN y m:=by
 have hm:m=1∨m=2∨m=3∨m=4∨m=5∨m=6∨m=7∨m=8∨m=9∨m=10∨m=11:=by omega
 by_cases h3:m=2
 ·subst h3
  have hf:=ahead_feb y hy
  unfold aheadN dimN
  unfold diyN at hf
  simp only [show ¬2+1<3 by omega,show (2:Nat)<3 by omega,if_true,if_false,show ¬((2:Nat)<1∨12<2) by omega,hf]
  cases h:leapN y<;>simp<;>omega
 ·unfold aheadN dimN
  generalize 365*y+y / 4 - y / 100+y / 400=A
  generalize 365*(y - 1)+(y - 1) / 4 - (y - 1) / 100+(y - 1) / 400=B
  rcases hm with rfl|rfl|rfl|rfl|rfl|rfl|rfl|rfl|rfl|rfl|rfl<;>first
   |(exact absurd rfl h3)
   |(simp;done)
   |(simp;omega)
theorem ahead_dec (y:Nat):aheadN (y+1) 1=aheadN y 12+31:=by
 unfold aheadN
 simp
theorem ahead_year (y:Nat) (hy:1≤y):aheadN (y+1) 1=aheadN y 1+diyN y:=by
 have hf:=ahead_feb y hy
 unfold aheadN
 simp only [show (1:Nat)<3 by omega,if_true,Nat.add_sub_cancel]
 rw [hf]
 omega
theorem epochN:aheadN 1970 1=719468:=by decide
def cenN (n:Nat):Nat:=(4*n+3) / 146097
def restN (n:Nat):Nat:=n - 146097*cenN n / 4
def yrN (n:Nat):Nat:=(4*restN n+3) / 1461
def rest2N (n:Nat):Nat:=restN n - 1461*yrN n / 4
def moN (n:Nat):Nat:=(5*rest2N n+2) / 153
def yearN (n:Nat):Nat:=if 9<moN n then 100*cenN n+yrN n+1 else 100*cenN n+yrN n
def monthN (n:Nat):Nat:=if 9<moN n then moN n - 9 else moN n+3
theorem rest_le (n:Nat):146097*cenN n / 4≤n∧restN n≤36524∧(restN n=36524→cenN n%4=3):=by
 unfold restN
 have h:cenN n=(4*n+3) / 146097:=rfl
 generalize cenN n=c at *
 refine ⟨?_,?_,?_⟩<;>omega
theorem yr_le (n:Nat):yrN n≤99∧1461*yrN n / 4≤restN n∧rest2N n≤365∧(rest2N n=365→yrN n%4=3∧(yrN n=99→cenN n%4=3)):=by
 obtain ⟨h1,h2,h3⟩:=rest_le n
 unfold rest2N
 have h:yrN n=(4*restN n+3) / 1461:=rfl
 generalize restN n=r at *
 generalize yrN n=y at *
 generalize cenN n=c at *
 refine ⟨by omega,by omega,by omega,fun h5=>⟨by omega,fun h6=>h3 ?_⟩⟩
 omega
theorem mo_le (n:Nat):moN n≤11:=by
 have:=(yr_le n).2.2.1
 unfold moN;omega
theorem cy4 (c y:Nat) (hy:y≤99): ∃q v p s,c=4*q+v∧v<4∧y=4*p+s∧s<4∧p<25∧146097*c / 4=36524*c+q∧1461*y / 4=365*y+p∧(100*c+y) / 4=25*c+p∧(100*c+y) / 100=c∧(100*c+y) / 400=q:=by
 refine ⟨c / 4,c%4,y / 4,y%4,by omega,by omega,by omega,by omega,by omega,by omega,by omega,by omega,by omega,by omega⟩
theorem ahead_in (n:Nat) (h0:1≤100*cenN n+yrN n):1≤monthN n∧monthN n≤12∧aheadN (yearN n) (monthN n)≤n∧n<aheadN (yearN n) (monthN n)+dimN (yearN n) (monthN n):=by
 obtain ⟨a1,a2,a3⟩:=rest_le n
 obtain ⟨b1,b2,b3,b4⟩:=yr_le n
 have m1:=mo_le n
 have hr:restN n=n - 146097*cenN n / 4:=rfl
 have hr2:rest2N n=restN n - 1461*yrN n / 4:=rfl
 have hm:moN n=(5*rest2N n+2) / 153:=rfl
 obtain ⟨q,v,p,s,k1,k2,k3,k4,k5,e1,e2,e3,e4,e5⟩:=cy4 (cenN n) (yrN n) b1
 rw [e1] at a1 hr
 rw [e2] at b2 hr2
 have hn:n=365*(100*cenN n+yrN n)+(25*cenN n+p) - cenN n+q+rest2N n:=by omega
 have hlp:rest2N n=365→leapN (100*cenN n+yrN n+1)=true:=by
  intro h5
  obtain ⟨q1,q2⟩:=b4 h5
  rw [leapN_iff]
  by_cases h9:yrN n=99
  ·have:=q2 h9
   right;omega
  ·left;omega
 unfold yearN monthN aheadN dimN
 clear hr hr2 e1 e2 a1 a2 a3 b2 b4
 generalize moN n=m at *
 generalize rest2N n=r2 at *
 generalize restN n=r at *
 generalize yrN n=y at *
 generalize cenN n=c at *
 by_cases g:9<m
 ·rw [if_pos g,if_pos g]
  have hmm:m=10∨m=11:=by omega
  rcases hmm with rfl|rfl
  ·simp only [show (10:Nat) - 9=1 by omega,show (1:Nat)<3 by omega,if_true,Nat.add_sub_cancel,e3,e4,e5]
   simp
   omega
  ·simp only [show 11 - 9=2 by omega,show (2:Nat)<3 by omega,if_true,show ¬((2:Nat)<1∨12<2) by omega,if_false,Nat.add_sub_cancel,e3,e4,e5]
   cases hl:leapN (100*c+y+1)
   ·have:r2≠365:=by
     intro h5
     rw [hlp h5] at hl;cases hl
    simp
    omega
   ·simp
    omega
 ·rw [if_neg g,if_neg g]
  have hmm:m=0∨m=1∨m=2∨m=3∨m=4∨m=5∨m=6∨m=7∨m=8∨m=9:=by omega
  rw [e3,e4,e5]
  rcases hmm with rfl|rfl|rfl|rfl|rfl|rfl|rfl|rfl|rfl|rfl<;>simp<;>omega
end Go.Ai
namespace Go.Ai
def startK (k:Nat):Nat:=aheadN (k / 12) (k%12+1)
def dimK (k:Nat):Nat:=dimN (k / 12) (k%12+1)
theorem dimN_ge (y m:Nat) (h1:1≤m) (h2:m≤12):28≤dimN y m∧dimN y m≤31:=by
 unfold dimN
 rw [if_neg (by omega)]
 split
 ·split<;>omega
 ·omega
theorem dim_dec (y:Nat):dimN y 12=31:=by simp [dimN]
theorem startK_next (k:Nat) (h:12≤k):startK (k+1)=startK k+dimK k:=by
 unfold startK dimK
 by_cases h1:k%12=11
 ·rw [show (k+1) / 12=k / 12+1 by omega,show (k+1)%12=0 by omega,h1]
  have:=ahead_dec (k / 12)
  rw [show (11:Nat)+1=12 from rfl,dim_dec]
  exact this
 ·rw [show (k+1) / 12=k / 12 by omega,show (k+1)%12=k%12+1 by omega]
  exact ahead_month _ _ (by omega) (by omega) (by omega)
theorem startK_le (k:Nat) (h:12≤k): ∀d,startK k+28*d≤startK (k+d)
 |0=>by simp
 |d+1=>by
  have i1:=startK_le k h d
  have i2:=startK_next (k+d) (by omega)
  have i3:=dimN_ge ((k+d) / 12) ((k+d)%12+1) (by omega) (by omega)
  have i4:dimK (k+d)=dimN ((k+d) / 12) ((k+d)%12+1):=rfl
  rw [show k+(d+1)=k+d+1 by omega]
  omega
theorem startK_uniq {j k n:Nat} (hj:12≤j) (hk:12≤k) (j1:startK j≤n) (j2:n<startK j+dimK j) (k1:startK k≤n) (k2:n<startK k+dimK k):j=k:=by
 rw [←startK_next j hj] at j2
 rw [←startK_next k hk] at k2
 rcases Nat.lt_trichotomy j k with h|h|h
 ·have:=startK_le (j+1) (by omega) (k - (j+1))
  rw [show j+1+(k - (j+1))=k by omega] at this
  omega
 ·exact h
 ·have:=startK_le (k+1) (by omega) (j - (k+1))
  rw [show k+1+(j - (k+1))=j by omega] at this
  omega
theorem startK_at {y m:Nat} (h1:1≤m) (h2:m≤12):startK (12*y+(m - 1))=aheadN y m∧dimK (12*y+(m - 1))=dimN y m:=by
 unfold startK dimK
 rw [show (12*y+(m - 1)) / 12=y by omega,show (12*y+(m - 1))%12+1=m by omega]
 exact ⟨rfl,rfl⟩
theorem month_uniq {y m y' m' n:Nat} (hy:1≤y) (h1:1≤m) (h2:m≤12) (hy':1≤y') (h1':1≤m') (h2':m'≤12)
  (a1:aheadN y m≤n) (a2:n<aheadN y m+dimN y m) (b1:aheadN y' m'≤n) (b2:n<aheadN y' m'+dimN y' m'):y=y'∧m=m':=by
 have e:=startK_at (y:=y) h1 h2
 have e':=startK_at (y:=y') h1' h2'
 have:=startK_uniq (j:=12*y+(m - 1)) (k:=12*y'+(m' - 1)) (n:=n) (by omega) (by omega) (by rw [e.1];exact a1) (by rw [e.1,e.2];exact a2) (by rw [e'.1];exact b1) (by rw [e'.1,e'.2];exact b2)
 constructor<;>omega
theorem ahead_le_year (y:Nat) (hy:1≤y) (m:Nat) (h1:1≤m) (h2:m≤12):aheadN y 1≤aheadN y m∧aheadN y m+28≤aheadN (y+1) 1:=by
 have e:=startK_at (y:=y) h1 h2
 have e1:=startK_at (y:=y) (m:=1) (by omega) (by omega)
 have e2:=startK_at (y:=y+1) (m:=1) (by omega) (by omega)
 have i1:=startK_le (12*y) (by omega) (m - 1)
 have i2:=startK_le (12*y+(m - 1)) (by omega) (12 - (m - 1))
 rw [show 12*y+(m - 1)+(12 - (m - 1))=12*(y+1)+(1 - 1) by omega] at i2
 simp only [Nat.sub_self,Nat.add_zero] at e1 e2 i2
 rw [e.1] at i1 i2
 rw [e1.1] at i1
 rw [e2.1] at i2
 omega
theorem ahead_years1 (y:Nat) (hy:1≤y):aheadN y 1+336≤aheadN (y+1) 1:=by
 have i3:=ahead_year y hy
 have i4:336≤diyN y:=by unfold diyN;split<;>omega
 rw [i3]
 exact Nat.add_le_add_left i4 _
theorem ahead_years (y:Nat) (hy:1≤y) (d:Nat):aheadN y 1+336*d≤aheadN (y+d) 1:=by
 induction d with
 |zero=>exact Nat.le_refl _
 |succ d ih=>
  have i3:=ahead_years1 (y+d) (Nat.le_trans hy (Nat.le_add_right _ _))
  have e:336*(d+1)=336*d+336:=Nat.mul_succ 336 d
  have e2:y+(d+1)=y+d+1:=(Nat.add_assoc y d 1).symm
  rw [e,e2,←Nat.add_assoc (aheadN y 1)]
  exact Nat.le_trans (Nat.add_le_add_right ih 336) i3
open Go.Proofs
theorem tdivL {x y:Int} {a b:Nat} (hx:x=a) (hy:y=b):x.tdiv y=((a / b:Nat):Int):=by subst hx hy;exact (Int.ofNat_tdiv a b).symm
theorem tmodL {x y:Int} {a b:Nat} (hx:x=a) (hy:y=b):x.tmod y=((a%b:Nat):Int):=by subst hx hy;exact (Int.ofNat_tmod a b).symm
theorem wr {x:Int} (h1: -4000000000000000000≤x) (h2:x≤4000000000000000000):IntKind.i64.wrap x=x:=by rw [wrap_i64]<;>omega
theorem ahead_lt {y m:Nat} (hy:y≤20000) (h1:1≤m) (h2:m≤12):aheadN y m≤10000000:=by
 unfold aheadN;split<;>omega
theorem cahead_spec (y m:Nat) (hy1:1≤y) (hy:y≤20000) (h1:1≤m) (h2:m≤12):Sp Tryz.prog gl 220 [.agg [i6 y,i6 m,i6 1]] (i6 (aheadN y m)):=by
 refine s220 rfl rfl ?_
 have run: ∀(Y p:Nat),Y≤20000→p≤20→
   IntKind.i64.wrap (IntKind.i64.wrap (IntKind.i64.wrap (IntKind.i64.wrap (IntKind.i64.wrap (IntKind.i64.wrap (IntKind.i64.wrap (365*(Y:Int))+IntKind.i64.wrap ((Y:Int).tdiv 4)) - IntKind.i64.wrap ((Y:Int).tdiv 100))+IntKind.i64.wrap ((Y:Int).tdiv 400))+
    IntKind.i64.wrap ((IntKind.i64.wrap (IntKind.i64.wrap (153*(p:Int))+2)).tdiv 5))+1) - 1)=((365*Y+Y / 4 - Y / 100+Y / 400+(153*p+2) / 5:Nat):Int):=by
  intro Y p hY hp
  rw [tdivL (x:=(Y:Int)) (y:=4) (a:=Y) (b:=4) rfl rfl,tdivL (x:=(Y:Int)) (y:=100) (a:=Y) (b:=100) rfl rfl,tdivL (x:=(Y:Int)) (y:=400) (a:=Y) (b:=400) rfl rfl]
  rw [wr (x:=153*(p:Int)) (by omega) (by omega),wr (x:=153*(p:Int)+2) (by omega) (by omega),tdivL (x:=153*(p:Int)+2) (y:=5) (a:=153*p+2) (b:=5) (by omega) rfl]
  have h4:Y / 100≤365*Y:=by omega
  generalize h5:Y / 4=Y4 at *
  generalize h6:Y / 100=Y1 at *
  generalize h7:Y / 400=Y0 at *
  generalize h8:(153*p+2) / 5=pp at *
  have l4:Y4≤20000:=by omega
  have l1:Y1≤20000:=by omega
  have l0:Y0≤20000:=by omega
  have lp:pp≤1000:=by omega
  rw [wr (x:=365*(Y:Int)) (by omega) (by omega),wr (x:=(Y4:Int)) (by omega) (by omega),wr (x:=(Y1:Int)) (by omega) (by omega),wr (x:=(Y0:Int)) (by omega) (by omega),wr (x:=(pp:Int)) (by omega) (by omega)]
  rw [wr (x:=365*(Y:Int)+Y4) (by omega) (by omega),wr (x:=365*(Y:Int)+Y4 - Y1) (by omega) (by omega),wr (x:=365*(Y:Int)+Y4 - Y1+Y0) (by omega) (by omega),wr (x:=365*(Y:Int)+Y4 - Y1+Y0+pp) (by omega) (by omega)]
  rw [wr (x:=365*(Y:Int)+Y4 - Y1+Y0+pp+1) (by omega) (by omega),wr (by omega) (by omega)]
  omega
 have t1:IntKind.i64.wrap ((m:Int) - 3)=(m:Int) - 3:=wr (by omega) (by omega)
 by_cases g:m<3
 ·have R:=run (y - 1) (m+9) (by omega) (by omega)
  have e:aheadN y m=365*(y - 1)+(y - 1) / 4 - (y - 1) / 100+(y - 1) / 400+(153*(m+9)+2) / 5:=by unfold aheadN;rw [if_pos g]
  rw [e,←R]
  have g':(m:Int) - 3<0:=by omega
  have t2:IntKind.i64.wrap ((y:Int) - 1)=(y - 1:Nat):=by rw [wr]<;>omega
  have t3:IntKind.i64.wrap ((m:Int) - 3+12)=(m+9:Nat):=by rw [wr]<;>omega
  clear R run e
  generalize ((y - 1:Nat):Int)=Y at *
  generalize ((m+9:Nat):Int)=p at *
  simp -implicitDefEqProofs [c220]
  simp only [t1]
  simp -implicitDefEqProofs [g']
  simp only [t1,t2,t3]
 ·have R:=run y (m - 3) (by omega) (by omega)
  have e:aheadN y m=365*y+y / 4 - y / 100+y / 400+(153*(m - 3)+2) / 5:=by unfold aheadN;rw [if_neg g]
  rw [e,←R]
  have g': ¬((m:Int) - 3<0):=by omega
  have t3:(m:Int) - 3=(m - 3:Nat):=by omega
  clear R run e
  rw [t3] at t1 g'
  simp -implicitDefEqProofs [c220]
  rw [t3]
  simp only [t1]
  simp -implicitDefEqProofs [g']
end Go.Ai
