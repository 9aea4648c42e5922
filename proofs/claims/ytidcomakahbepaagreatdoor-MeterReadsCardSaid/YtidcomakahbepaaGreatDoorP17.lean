/- P17: a part of the proof: the rules, or what functions compute. Conditions: as each theorem says. -/
import Derived.Test.YtidcomakahbepaaGreatDoorP16
import Derived.Test.YtidcomakahbepaaGreatDoorP7
import Derived.Test.YtidcomakahbepaaGreatDoorP6
import Derived.Test.YtidcomakahbepaaGreatDoorP8
import Derived.Test.YtidcomakahbepaaGreatDoorP14
set_option linter.unusedSimpArgs false
set_option linter.unusedVariables false
set_option maxRecDepth 20000
namespace Go.Ai
def mhS (c:Int) (st:RS):RS:=if c=0 then (flagN st).1 else (getN (getN (flagN st).1).1).1
def mhG (c:Int) (st:RS):Nat:=if c=0 then 0 else (getN (flagN st).1).2
def mhT (c:Int) (st:RS):Nat:=if c=0 then 0 else (getN (getN (flagN st).1).1).2
def mrS (K:Nat→Nat) (st:RS):Nat→RS
 |0=>st
 |i+1=>rdS (mrS K st i) (K i)
def RingOk (K N:Nat) (st:RS):Prop:= ∀i,i<K→ROk K N st i
theorem mrS_le {K:Nat→Nat} {st:RS} {n:Nat} (h:rsLe st n): ∀i,rsLe (mrS K st i) n
 |0=>h
 |i+1=>rdS_le (mrS_le h i) (K i)
theorem mhS_le {c:Int} {st:RS} {n:Nat} (h:rsLe st n):rsLe (mhS c st) n:=by
 unfold mhS;split
 ·exact flagN_le h
 ·exact getN_le (getN_le (flagN_le h))
open Go.Proofs
end Go.Ai
namespace Go.Ai
open Go.Proofs
open Go.Proofs
def posN (B:List UInt8):RS→Nat
 |some r=>B.length - r.length
 |none=>0
def numAt (B:List UInt8) (a:Nat):AV:=match gotN B a with
 |some (n,nx)=> .tup [u n,i6 nx,.bool true]
 |none=> .tup [u 0,i6 0,.bool false]
theorem number_spec (B:List UInt8) (a:Nat) (hB:B.length≤1000000) (ha:a≤1000000):Sp Tryz.prog gl 80 [.sl (byteRows B),i6 a] (numAt B a):=by
 refine s80 rfl rfl ?_
 have G:=rget_num true B a hB ha
 simp only [knd,mst,if_true] at G
 unfold gotR at G
 unfold numAt
 generalize byteRows B=R at *
 cases h:gotN B a with
 |none=>
  rw [h] at G
  simp only [zeroR,gz] at G
  simp -implicitDefEqProofs [c80]
  refine onC_mk _ (G) ?_
  simp -implicitDefEqProofs
 |some p=>
  obtain ⟨n,nx⟩:=p
  rw [h] at G
  simp only [kindR,if_true,numR] at G
  simp -implicitDefEqProofs [c80]
  refine onC_mk _ (G) ?_
  simp -implicitDefEqProofs
theorem num_pos {B:List UInt8} {a:Nat} (ha:a≤B.length):(∃n nx,gotN B a=some (n,nx)∧nx≤B.length∧a≤nx∧getN (some (B.drop a))=(some (B.drop nx),n))∨(gotN B a=none∧getN (some (B.drop a))=(none,0)):=by
 have e:=getN_got B a
 cases h:gotN B a with
 |none=>rw [h] at e;exact .inr ⟨rfl,e⟩
 |some p=>
  obtain ⟨n,nx⟩:=p
  rw [h] at e
  refine .inl ⟨n,nx,rfl,gotN_le h,?_,e⟩
  unfold gotN at h
  split at h
  ·cases h
  ·split at h
   ·simp only [Option.some.injEq,Prod.mk.injEq] at h;omega
   ·cases h
theorem rgo_spec (wd g:Nat) (h:Wd wd g):Sp Tryz.prog gl 127 [i6 wd,i6 g] (.bool true):=by
 refine s127 rfl rfl ?_
 obtain ⟨g1,g2,w1,w2,md⟩:=h
 have h1:(1:Int)≤g:=by omega
 have h2:(g:Int)≤86400:=by omega
 have h3:(1:Int)≤wd:=by omega
 have h4:(wd:Int)≤34560000:=by omega
 have h5: ¬g=0:=by omega
 have h5': ¬(g:Int)=0:=by omega
 have h6:(wd:Int).tmod g=0:=by rw [Int.tmod_eq_emod_of_nonneg (by omega)];omega
 simp -implicitDefEqProofs [c127,h1,h2,h3,h4,h5,h5',h6,g1,g2,w1,w2]
open Go.Proofs
theorem rspoil_spec (st:RS) (hl:rsLe st 1000000) (d:Nat) (c:Id) (hc:c.isIt=false) (hd:c.isNw d=false):
  SpH Tryz.prog gl 125 d ⟨[.ptr c 0],[(c,rdv st)],[]⟩ ⟨.nilp,[(c,rdv none)],[]⟩:=by
 refine h125 rfl ?_
 have hi:=inn_notNw hd
 have C:=wCountM_spec st hl 4 (.up c) hc rfl
 have i2:=rdv_ids none
 have m1:=rdv_mp st
 have m2:=rdv_mp none
 generalize rdv none=B2 at *
 generalize rdv st=B1 at *
 simp only [inSt,mpL,mpB,mpP,AV.mp,m1]
 simp -implicitDefEqProofs [c125]
 refine onH_mk _ _ (C) ⟨?_,?_,?_,?_,?_,?_,?_⟩ ?_
 iterate 7 (· simp)
 simp -implicitDefEqProofs
 refine postH_r ⟨?_,?_,?_,?_,?_,?_⟩<;>simp -implicitDefEqProofs [hi,hc,i2,m2]
def rgO (d:Nat) (c:Id) (K w N t:Nat) (st:RS):Out:=
 ⟨.ptr (.nw d (.nw 17 (.n 23))) 0,[(c,rdv (rdS st K)),(.nw d (.nw 17 (.n 23)),rgL (.nw d (.nw 17 (.n 21))) K w N t (suT (rdG st) K) (suT (rdT st) K)),(.nw d (.nw 17 (.n 21)),cellsF K (bkG K N (rdG st) K) (bkG K N (rdT st) K))],[]⟩
def rgX (c:Id):Out:=⟨.nilp,[(c,rdv none)],[]⟩
theorem rget_any (st:RS) (hl:rsLe st 1000000) (wd g:Nat) (h:Wd wd g) (t:Nat) (ht:t≤253402300799) (d:Nat) (c:Id) (hc:c.isIt=false) (hd:c.isNw d=false) (O:Out)
  (h1:(∀i,i<wK wd g→ROk (wK wd g) (t / wW wd g) st i)→O=rgO d c (wK wd g) (wW wd g) (t / wW wd g) t st) (h2: ∀i,i<wK wd g→ ¬ROk (wK wd g) (t / wW wd g) st i→O=rgX c):
  SpH Tryz.prog gl 78 d ⟨[.ptr c 0,i6 wd,i6 g,i6 t],[(c,rdv st)],[]⟩ O:=by
 refine h78 rfl ?_
 have hi:=inn_notNw hd
 obtain ⟨k1,k2,_,w1,_⟩:=wK_ok h
 have pr:Pr2 (.nw 17 (.n 23)) (.nw 17 (.n 21)):=⟨rfl,rfl,by simp,fun _=>rfl⟩
 have NW:=rnew_spec wd g h 17
 have MV:=rmove_spec (.nw 17 (.n 23)) (.nw 17 (.n 21)) pr (wK wd g) (wW wd g) 0 t [] k1 k2 w1 (Nat.zero_le _) ht (fun e he=>by cases he) (fun e he=>by cases he) (by simp [sumT,sm]) 25 rfl
 rw [Nat.zero_div] at MV
 have rn: ∀B K w t,ringC B K w t []=rgL B K w (t / w) t 0 0:=fun B K w t=>rfl
 have bn: ∀K w N,bkC K w N []=cellsF K (fun _=>0) (fun _=>0):=fun K w N=>cellsF_congr (fun j _=>⟨rfl,rfl⟩)
 simp only [rn,bn] at NW MV
 have hNt:t / wW wd g≤t:=Nat.div_le_self _ _
 generalize wK wd g=K at *
 generalize wW wd g=w at *
 rw [Nat.zero_div] at NW MV
 generalize t / w=N at *
 have hN:N≤253402300799:=by omega
 have RO: ∀k,k≤K→(∀i,i<k→ROk K N st i)→suT (rdT st) k≤9223372036854775807∧suT (rdG st) k≤9223372036854775807:=fun k hk ho=>by
  have b1:suT (rdG st) k≤suT (rdT st) k:=suT_le fun i hi=>(ho i hi).gt
  have b2:suT (rdT st) k≤9223372036854775807:=by
   cases k with
   |zero=>exact Nat.zero_le _
   |succ k=>have:=(ho k (by omega)).m2;simp only [suT];omega
  omega
 have m0:=rdv_mp st
 have NUa:=fun k e he=>wNum_spec (rdS st k) (rdS_le hl k) e (.up c) hc he
 have NUb:=fun k e he=>wNum_spec (getN (rdS st k)).1 (getN_le (rdS_le hl k)) e (.up c) hc he
 have NU1: ∀k e,(Id.up c).isNw e=false→SpH Tryz.prog gl 77 e ⟨[.ptr (.up c) 0],[(.up c,rdv (rdS st k))],[]⟩ ⟨u (rdG st k),[(.up c,rdv (getN (rdS st k)).1)],[]⟩:=NUa
 have NU2: ∀k e,(Id.up c).isNw e=false→SpH Tryz.prog gl 77 e ⟨[.ptr (.up c) 0],[(.up c,rdv (getN (rdS st k)).1)],[]⟩ ⟨u (rdT st k),[(.up c,rdv (rdS st (k+1)))],[]⟩:=NUb
 clear NUa NUb
 have BA:=fun k e he=>wbad_spec (rdS st (k+1)) e (.up c) hc he
 have SP:=fun k e he=>rspoil_spec (rdS st (k+1)) (rdS_le hl _) e (.up c) hc he
 have lG: ∀k,rdG st k<18446744073709551616:=fun k=>getN_lt _
 have lT: ∀k,rdT st k<18446744073709551616:=fun k=>getN_lt _
 have RI:=fun k=>rright_spec (rdG st k) (rdT st k)
 have RM:=fun k g' s' (hs:s'<18446744073709551616) e he=>rroom_spec (.nw 17 (.n 23)) (.nw 17 (.n 21)) pr K w N t g' s' (rdG st k) (rdT st k) hs (lT k) e he
 have AT:=fun n (hn:n<9223372036854775808) g' s' e he=>rat_spec (.nw 17 (.n 23)) (.nw 17 (.n 21)) pr K w N t g' s' n k1 hn e he
 have GR:=fun k j (hj:j<K) g' s' f q b1 b2 b3 b4 e he=>rgrow_spec (.nw 17 (.n 23)) (.nw 17 (.n 21)) pr K w N t g' s' j (rdG st k) (rdT st k) f q hj b1 b2 b3 b4 e he
 have r0:rdv (rdS st 0)=rdv st:=rfl
 have ids:=rdv_ids
 have idm:=rdv_mp
 have cl:=fun f q=>cellsF_len K f q
 have cx:=fun f q=>cellsF_ids K f q
 have cm:=fun f q g'=>mpL_noids (f:=g') (cellsF_ids K f q)
 simp only [rgL] at NW MV RM AT GR
 simp only [inSt,mpL,mpB,mpP,AV.mp,m0]
 simp -implicitDefEqProofs [c78]
 refine onH_mk _ _ (NW) ⟨?_,?_,?_,?_,?_,?_,?_⟩ ?_
 iterate 7 (· simp)
 simp -implicitDefEqProofs
 refine onH_mk _ _ (MV) ⟨?_,?_,?_,?_,?_,?_,?_⟩ ?_
 iterate 7 (· simp)
 simp -implicitDefEqProofs
 refine wp_lpk (α:=Nat) (fun k=>⟨[(0,.ptr (.up c) 0),(9,.ptr (.nw 17 (.n 23)) 0),(34,i6 K),(35,i6 k)],[(.nw 17 (.n 23),[i6 w,.ms (.nw 17 (.n 21)) 0 K 2,i6 N,i6 t,u (suT (rdG st) k),u (suT (rdT st) k)]),(.nw 17 (.n 21),cellsF K (bkG K N (rdG st) k) (bkG K N (rdT st) k)),(.up c,rdv (rdS st k))],[]⟩) (fun k=>k≤K∧ ∀i,i<k→ROk K N st i) (fun k=>K - k) ?_ 0 ?_ ?_
 ·rintro K' k hK' ⟨k3,k4⟩
  by_cases c0:k<K
  ·have c':(k:Int)<K:=by omega
   have w1':IntKind.i64.wrap ((k:Int)+1)=(k+1:Nat):=by rw [wrap_i64]<;>omega
   have t1:IntKind.i64.wrap ((K:Int) - 1)=(K:Int) - 1:=by rw [wrap_i64]<;>omega
   have t2:IntKind.i64.wrap ((K:Int) - 1 - k)=(K:Int) - 1 - k:=by rw [wrap_i64]<;>omega
   have t3:IntKind.i64.wrap ((N:Int) - ((K:Int) - 1 - k))=(N:Int) - ((K:Int) - 1 - k):=by rw [wrap_i64]<;>omega
   obtain ⟨sT,sG⟩:=RO k k3 k4
   have NU1:=NU1 k 39 rfl
   have NU2:=NU2 k 41 rfl
   have BA:=BA k 57 rfl
   have SP:=SP k 79 rfl
   have RI:=RI k
   have RM:=RM k (suT (rdG st) k) (suT (rdT st) k) (by omega) 66 rfl
   have i1:=ids (rdS st k)
   have i2:=ids (getN (rdS st k)).1
   have i3:=ids (rdS st (k+1))
   have nx:rdv none=[.sl [],.bool true]:=rfl
   have cxk:=cx (bkG K N (rdG st) k) (bkG K N (rdT st) k)
   have lGk:=lG k
   have lTk:=lT k
   by_cases ok:ROk K N st k
   ·obtain ⟨o1,o2,o3,o4,o5⟩:=ok
    have k4': ∀i,i<k+1→ROk K N st i:=fun i hi=>by
     by_cases e:i=k
     ·rw [e];exact ⟨o1,o2,o3,o4,o5⟩
     ·exact k4 i (by omega)
    have fin:=fun σ' hσ=>hK' (k+1) σ' ⟨by omega,k4'⟩ (by omega) hσ
    have d2:decide (rdG st k≤rdT st k)=true:=by simpa using o2
    have d3:decide (rdT st k≤9223372036854775807∧suT (rdT st) k+rdT st k≤9223372036854775807)=true:=by simpa using ⟨o3,o4⟩
    rw [o1] at BA
    rw [d2] at RI
    rw [d3] at RM
    have aT:suT (rdT st) (k+1)=suT (rdT st) k+rdT st k:=rfl
    have aG:suT (rdG st) (k+1)=suT (rdG st) k+rdG st k:=rfl
    by_cases g1:K≤N+1+k
    ·have e5:bkG K N (rdG st) (k+1)=upd (bkG K N (rdG st) k) ((N+1+k - K)%K) (bkG K N (rdG st) k ((N+1+k - K)%K)+rdG st k):=by rw [bkG,if_pos g1]
     have e6:bkG K N (rdT st) (k+1)=upd (bkG K N (rdT st) k) ((N+1+k - K)%K) (bkG K N (rdT st) k ((N+1+k - K)%K)+rdT st k):=by rw [bkG,if_pos g1]
     have hj:=Nat.mod_lt (N+1+k - K) (show 0<K by omega)
     have b5:=bkG_le K N (rdG st) k ((N+1+k - K)%K)
     have b6:=bkG_le K N (rdT st) k ((N+1+k - K)%K)
     have GR:=GR k _ hj (suT (rdG st) k) (suT (rdT st) k) (bkG K N (rdG st) k) (bkG K N (rdT st) k) (by omega) (by omega) (by omega) (by omega) 87 rfl
     have AT:=AT (N+1+k - K) (by omega) (suT (rdG st) k) (suT (rdT st) k)
     rw [←e5,←e6,←aT,←aG] at GR
     have g2:0≤(N:Int) - ((K:Int) - 1 - k):=by omega
     have g3:(N:Int) - ((K:Int) - 1 - k)=(N+1+k - K:Nat):=by omega
     have g4:(K:Int) - 1 - k≤N:=by omega
     have g5: ¬(N:Int)<(K:Int) - 1 - k:=by omega
     have g6: ¬(N:Int) - ((K:Int) - 1 - k)<0:=by omega
     have cx1:=cx (bkG K N (rdG st) (k+1)) (bkG K N (rdT st) (k+1))
     rw [←g3] at AT
     clear hK' h1 h2 RO k4 k4' e5 e6 b5 b6 hj cx cm cl aT aG ids idm
     generalize (N+1+k - K)%K*2=off at *
     generalize cellsF K (bkG K N (rdG st) k) (bkG K N (rdT st) k)=X at *
     generalize cellsF K (bkG K N (rdG st) (k+1)) (bkG K N (rdT st) (k+1))=Y at *
     generalize suT (rdG st) k=s1 at *
     generalize suT (rdG st) (k+1)=s2 at *
     generalize suT (rdT st) k=s3 at *
     generalize suT (rdT st) (k+1)=s4 at *
     generalize rdv (rdS st k)=Q1 at *
     generalize rdv (getN (rdS st k)).1=Q2 at *
     generalize rdv (rdS st (k+1))=Q3 at *
     generalize rdG st k=v1 at *
     generalize rdT st k=v2 at *
     simp -implicitDefEqProofs [c0,c',t1,t2,t3]
     refine onH_mk _ _ (NU1) ⟨?_,?_,?_,?_,?_,?_,?_⟩ ?_
     iterate 7 (· simp)
     simp -implicitDefEqProofs
     refine onH_mk _ _ (NU2) ⟨?_,?_,?_,?_,?_,?_,?_⟩ ?_
     iterate 7 (· simp)
     simp -implicitDefEqProofs [t1,t2,t3]
     refine onH_mk _ _ (BA) ⟨?_,?_,?_,?_,?_,?_,?_⟩ ?_
     iterate 7 (· simp)
     simp -implicitDefEqProofs
     refine onC_mk _ RI ?_
     simp -implicitDefEqProofs
     refine onH_mk _ _ (RM) ⟨?_,?_,?_,?_,?_,?_,?_⟩ ?_
     iterate 7 (· simp)
     simp -implicitDefEqProofs [g2,g4,g5,g6]
     refine onR_mk _ (by simp -implicitDefEqProofs) (fun e he=>AT e he) ?_
     simp -implicitDefEqProofs
     refine onH_mk _ _ (GR) ⟨?_,?_,?_,?_,?_,?_,?_⟩ ?_
     iterate 7 (· simp)
     simp -implicitDefEqProofs
     refine fin _ ?_
     refine weak_mk ?_ ?_ ?_ ?_ ?_ ?_<;>simp -implicitDefEqProofs [w1',cx1,i3]
    ·have o5:rdG st k=0∧rdT st k=0:=by rcases o5 with q|q;exact absurd q g1;exact q
     have e5:bkG K N (rdG st) (k+1)=bkG K N (rdG st) k:=by rw [bkG,if_neg g1]
     have e6:bkG K N (rdT st) (k+1)=bkG K N (rdT st) k:=by rw [bkG,if_neg g1]
     rw [o5.2,Nat.add_zero] at aT
     rw [o5.1,Nat.add_zero] at aG
     rw [e5,e6,aT,aG] at fin
     rw [o5.1] at NU1 RI
     rw [o5.2] at NU2 RM RI
     rw [o5.1] at RM
     have g2: ¬0≤(N:Int) - ((K:Int) - 1 - k):=by omega
     have g4: ¬(K:Int) - 1 - k≤N:=by omega
     have g5:(N:Int)<(K:Int) - 1 - k:=by omega
     have g6:(N:Int) - ((K:Int) - 1 - k)<0:=by omega
     clear hK' h1 h2 RO k4 k4' e5 e6 cx cm cl aT aG ids idm AT GR
     generalize cellsF K (bkG K N (rdG st) k) (bkG K N (rdT st) k)=X at *
     generalize suT (rdG st) k=s1 at *
     generalize suT (rdT st) k=s3 at *
     generalize rdv (rdS st k)=Q1 at *
     generalize rdv (getN (rdS st k)).1=Q2 at *
     generalize rdv (rdS st (k+1))=Q3 at *
     simp -implicitDefEqProofs [c0,c',t1,t2,t3]
     refine onH_mk _ _ (NU1) ⟨?_,?_,?_,?_,?_,?_,?_⟩ ?_
     iterate 7 (· simp)
     simp -implicitDefEqProofs
     refine onH_mk _ _ (NU2) ⟨?_,?_,?_,?_,?_,?_,?_⟩ ?_
     iterate 7 (· simp)
     simp -implicitDefEqProofs [t1,t2,t3]
     refine onH_mk _ _ (BA) ⟨?_,?_,?_,?_,?_,?_,?_⟩ ?_
     iterate 7 (· simp)
     simp -implicitDefEqProofs
     refine onC_mk _ RI ?_
     simp -implicitDefEqProofs
     refine onH_mk _ _ (RM) ⟨?_,?_,?_,?_,?_,?_,?_⟩ ?_
     iterate 7 (· simp)
     simp -implicitDefEqProofs [g2,g4,g5,g6]
     refine fin _ ?_
     refine weak_mk ?_ ?_ ?_ ?_ ?_ ?_<;>simp -implicitDefEqProofs [w1',cxk,i3]
   ·rw [h2 k c0 ok]
    have bad:(rdS st (k+1)).isNone=true∨(¬rdG st k≤rdT st k)∨(¬(rdT st k≤9223372036854775807∧suT (rdT st) k+rdT st k≤9223372036854775807))∨(¬K≤N+1+k∧ ¬(rdG st k=0∧rdT st k=0)):=by
     by_cases q1:(rdS st (k+1)).isNone=true
     ·exact .inl q1
     ·by_cases q2:rdG st k≤rdT st k
      ·by_cases q3:rdT st k≤9223372036854775807∧suT (rdT st) k+rdT st k≤9223372036854775807
       ·refine .inr (.inr (.inr (not_or.1 fun q4=>ok ⟨Bool.eq_false_iff.2 q1,q2,q3.1,q3.2,q4⟩)))
       ·exact .inr (.inr (.inl q3))
      ·exact .inr (.inl q2)
    unfold rgX
    have hn:=idm none
    have hn2:=ids none
    clear hK' h1 h2 RO k4 cx cm cl ids idm AT GR ok
    generalize rdv none=Q4 at *
    generalize cellsF K (bkG K N (rdG st) k) (bkG K N (rdT st) k)=X at *
    generalize suT (rdG st) k=s1 at *
    generalize suT (rdT st) k=s3 at *
    generalize rdv (rdS st k)=Q1 at *
    generalize rdv (getN (rdS st k)).1=Q2 at *
    generalize rdv (rdS st (k+1))=Q3 at *
    generalize (rdS st (k+1)).isNone=bq at *
    generalize rdG st k=v1 at *
    generalize rdT st k=v2 at *
    by_cases q1:bq=true
    ·rw [q1] at BA
     simp -implicitDefEqProofs [c0,c',t1,t2,t3]
     refine onH_mk _ _ (NU1) ⟨?_,?_,?_,?_,?_,?_,?_⟩ ?_
     iterate 7 (· simp)
     simp -implicitDefEqProofs
     refine onH_mk _ _ (NU2) ⟨?_,?_,?_,?_,?_,?_,?_⟩ ?_
     iterate 7 (· simp)
     simp -implicitDefEqProofs [t1,t2,t3]
     refine onH_mk _ _ (BA) ⟨?_,?_,?_,?_,?_,?_,?_⟩ ?_
     iterate 7 (· simp)
     simp -implicitDefEqProofs
     refine onH_mk _ _ (SP) ⟨?_,?_,?_,?_,?_,?_,?_⟩ ?_
     iterate 7 (· simp)
     simp -implicitDefEqProofs
     refine postH_r ⟨?_,?_,?_,?_,?_,?_⟩<;>simp -implicitDefEqProofs [hi,hc,hn,hn2]
    ·have q1:bq=false:=by simpa using q1
     rw [q1] at BA bad
     by_cases q2:v1≤v2
     ·rw [decide_eq_true q2] at RI
      by_cases q3:v2≤9223372036854775807∧s3+v2≤9223372036854775807
      ·rw [decide_eq_true q3] at RM
       obtain ⟨q4,q5⟩: ¬K≤N+1+k∧ ¬(v1=0∧v2=0):=by
        rcases bad with q|q|q|q
        ·cases q
        ·exact absurd q2 q
        ·exact absurd q3 q
        ·exact q
       have g2: ¬0≤(N:Int) - ((K:Int) - 1 - k):=by omega
       have g4: ¬(K:Int) - 1 - k≤N:=by omega
       have g5:(N:Int)<(K:Int) - 1 - k:=by omega
       have g6:(N:Int) - ((K:Int) - 1 - k)<0:=by omega
       have e1:(((v1:Int)==0)&&((v2:Int)==0))=false:=by
        rw [Bool.and_eq_false_iff,beq_eq_false_iff_ne,beq_eq_false_iff_ne];omega
       simp -implicitDefEqProofs [c0,c',t1,t2,t3]
       refine onH_mk _ _ (NU1) ⟨?_,?_,?_,?_,?_,?_,?_⟩ ?_
       iterate 7 (· simp)
       simp -implicitDefEqProofs
       refine onH_mk _ _ (NU2) ⟨?_,?_,?_,?_,?_,?_,?_⟩ ?_
       iterate 7 (· simp)
       simp -implicitDefEqProofs [t1,t2,t3]
       refine onH_mk _ _ (BA) ⟨?_,?_,?_,?_,?_,?_,?_⟩ ?_
       iterate 7 (· simp)
       simp -implicitDefEqProofs
       refine onC_mk _ RI ?_
       simp -implicitDefEqProofs
       refine onH_mk _ _ (RM) ⟨?_,?_,?_,?_,?_,?_,?_⟩ ?_
       iterate 7 (· simp)
       simp -implicitDefEqProofs [g2,g4,g5,g6,e1]
       refine onH_mk _ _ (SP) ⟨?_,?_,?_,?_,?_,?_,?_⟩ ?_
       iterate 7 (· simp)
       simp -implicitDefEqProofs
       refine postH_r ⟨?_,?_,?_,?_,?_,?_⟩<;>simp -implicitDefEqProofs [hi,hc,hn,hn2]
      ·rw [decide_eq_false q3] at RM
       simp -implicitDefEqProofs [c0,c',t1,t2,t3]
       refine onH_mk _ _ (NU1) ⟨?_,?_,?_,?_,?_,?_,?_⟩ ?_
       iterate 7 (· simp)
       simp -implicitDefEqProofs
       refine onH_mk _ _ (NU2) ⟨?_,?_,?_,?_,?_,?_,?_⟩ ?_
       iterate 7 (· simp)
       simp -implicitDefEqProofs [t1,t2,t3]
       refine onH_mk _ _ (BA) ⟨?_,?_,?_,?_,?_,?_,?_⟩ ?_
       iterate 7 (· simp)
       simp -implicitDefEqProofs
       refine onC_mk _ RI ?_
       simp -implicitDefEqProofs
       refine onH_mk _ _ (RM) ⟨?_,?_,?_,?_,?_,?_,?_⟩ ?_
       iterate 7 (· simp)
       simp -implicitDefEqProofs
       refine onH_mk _ _ (SP) ⟨?_,?_,?_,?_,?_,?_,?_⟩ ?_
       iterate 7 (· simp)
       simp -implicitDefEqProofs
       refine postH_r ⟨?_,?_,?_,?_,?_,?_⟩<;>simp -implicitDefEqProofs [hi,hc,hn,hn2]
     ·rw [decide_eq_false q2] at RI
      simp -implicitDefEqProofs [c0,c',t1,t2,t3]
      refine onH_mk _ _ (NU1) ⟨?_,?_,?_,?_,?_,?_,?_⟩ ?_
      iterate 7 (· simp)
      simp -implicitDefEqProofs
      refine onH_mk _ _ (NU2) ⟨?_,?_,?_,?_,?_,?_,?_⟩ ?_
      iterate 7 (· simp)
      simp -implicitDefEqProofs [t1,t2,t3]
      refine onH_mk _ _ (BA) ⟨?_,?_,?_,?_,?_,?_,?_⟩ ?_
      iterate 7 (· simp)
      simp -implicitDefEqProofs
      refine onC_mk _ RI ?_
      simp -implicitDefEqProofs
      refine onH_mk _ _ (SP) ⟨?_,?_,?_,?_,?_,?_,?_⟩ ?_
      iterate 7 (· simp)
      simp -implicitDefEqProofs
      refine postH_r ⟨?_,?_,?_,?_,?_,?_⟩<;>simp -implicitDefEqProofs [hi,hc,hn,hn2]
  ·obtain rfl:k=K:=by omega
   rw [h1 k4]
   unfold rgO
   have i1:=ids (rdS st k)
   have m1:=idm (rdS st k)
   have cx1:=cx (bkG k N (rdG st) k) (bkG k N (rdT st) k)
   have cm1:=cm (bkG k N (rdG st) k) (bkG k N (rdT st) k)
   clear hK' h1 h2 RO k4 cx cm cl ids idm AT GR NU1 NU2 BA SP RM RI
   simp only [rgL]
   generalize cellsF k (bkG k N (rdG st) k) (bkG k N (rdT st) k)=X at *
   generalize suT (rdG st) k=s1 at *
   generalize suT (rdT st) k=s3 at *
   generalize rdv (rdS st k)=Q1 at *
   have nc1: ¬c= .nw d (.nw 17 (.n 23)):=fun e=>by rw [e] at hd;simp [Id.isNw,Id.isUp] at hd
   have nc2: ¬c= .nw d (.nw 17 (.n 21)):=fun e=>by rw [e] at hd;simp [Id.isNw,Id.isUp] at hd
   simp -implicitDefEqProofs
   refine postH_r ⟨?_,?_,?_,?_,?_,?_⟩<;>simp -implicitDefEqProofs [hi,hc,i1,m1,cx1,cm1,nc1,nc2]
 ·exact ⟨Nat.zero_le _,fun i hi=>by omega⟩
 ·have z1:cellsF K (bkG K N (rdG st) 0) (bkG K N (rdT st) 0)=cellsF K (fun _=>0) (fun _=>0):=rfl
  have z2:suT (rdG st) 0=0:=rfl
  have z3:suT (rdT st) 0=0:=rfl
  rw [z1]
  refine weak_mk ?_ ?_ ?_ ?_ ?_ ?_<;>simp -implicitDefEqProofs [r0,z2,z3,cx,ids]
open Go.Proofs
end Go.Ai
