/- P22: a part of the proof: the rules, or what functions compute. Conditions: as each theorem says. -/
import Derived.Test.YtidcomakahbepaaGreatDoorP21
import Derived.Test.YtidcomakahbepaaGreatDoorP20
import Derived.Test.YtidcomakahbepaaGreatDoorP19
import Derived.Test.YtidcomakahbepaaGreatDoorCode
import Derived.Lib.LaidU8
import GoSem.PinnedTables
set_option linter.unusedSimpArgs false
set_option linter.unusedVariables false
set_option maxRecDepth 20000
namespace Go.Ai
open Go.Proofs
theorem sph_nz {P:Program} {GL:List (Nat×List Value)} {f d:Nat} {vs us:List AV} {bx:List (Id×List AV)} {pm:List (Pl×Nat)} {O:Out} (h:SpH P GL f d ⟨us,bx,pm⟩ O) (e:nzL vs=us):SpH P GL f d ⟨vs,bx,pm⟩ O:=by
 subst e
 rw [sph_eq] at h ⊢
 intro S gb w ws hp hr hg hn
 have this:=h S gb w ws (PRlist_nz _ _ hp) hr hg hn
 have hm: ∀v w',(∃S' gb',PostR d ⟨nzL vs,bx,pm⟩ O S gb (fun t=>ws.getD t undef) w S' gb' v w')→ ∃S' gb',PostR d ⟨vs,bx,pm⟩ O S gb (fun t=>ws.getD t undef) w S' gb' v w':=by
  rintro v w' ⟨S',gb',q⟩
  exact ⟨S',gb',q.bw,q.ext,q.le,q.same,q.nw,q.r,q.hr,q.newb,q.newo⟩
 unfold Does at this ⊢
 split at this
 ·exact hm _ _ this
 ·exact this.mono (fun e w' ⟨v,h1,h2⟩=>⟨v,h1,hm _ _ h2⟩)
 ·exact this
theorem mawake_spec:Sp Tryz.prog gl 12 [] (.bool true):=by
 refine s12 rfl rfl ?_
 have hk:KwOk 2 (kN xa) (wN xa):=by
  have:=goal_k xa_goal (by decide)
  rw [xa_win] at this;exact this
 have hw:=goal_wd xa_goal (by decide)
 have hn2:(winP xa).length=2:=by rw [xa_win];rfl
 have N1:SpH Tryz.prog gl 35 14 ⟨[.agg xa.row],[],[]⟩ ⟨.tup [.ptr (.nw 14 (.n 16)) 0,i6 0],mtB (.nw 14 (.n 16)) (.nw 14 (.n 40)) (fun i=> .nw 14 (R0 i)) (fun i=> .nw 14 (B0 i)) xa 2 (intRows (winP xa)) (kN xa) (wN xa) 0 [] false,[]⟩:=
  mnew_spec xa xa_fit (by decide) xa_goal 2 (by omega) (by omega) hn2 (gN xa) hw.gg (wdN xa) (by have:=hw.wd;rw [hn2] at this;exact this) 14
 have nm:=nms0 14
 have O0:=(mt0_ok xa 2 (kN xa) (wN xa))
 have M1:=mmove_spec (.nw 14 (.n 16)) (.nw 14 (.n 40)) _ _ nm xa 2 (by omega) (intRows (winP xa)) (kN xa) (wN xa) hk 0 100 [] O0.L false (by omega) (by omega) 18 rfl
 have A1:=madd_spec (.nw 14 (.n 16)) (.nw 14 (.n 40)) _ _ nm xa (by decide) 2 (by omega) (intRows (winP xa)) (kN xa) (wN xa) hk 100 [] xa_ok0.L xa_ok0.P (by omega) 90 1 2 (by omega) (by decide+kernel) xa_room 21 rfl
 have A2:=madd_bad (.nw 14 (.n 16)) (.nw 14 (.n 40)) nm.pa xa (by decide) 2 (intRows (winP xa)) (pF xa.c 100) (pT xa.c 100) (pcG xa.c 100 [(90,1,2)]) (pcT xa.c 100 [(90,1,2)]) 100 (by omega) false 89 0 0 (by decide+kernel) 24 rfl
 have A3:=madd_bad (.nw 14 (.n 16)) (.nw 14 (.n 40)) nm.pa xa (by decide) 2 (intRows (winP xa)) (pF xa.c 100) (pT xa.c 100) (pcG xa.c 100 [(90,1,2)]) (pcT xa.c 100 [(90,1,2)]) 100 (by omega) false 101 0 0 (by decide+kernel) 27 rfl
 have W1:=mwindow_spec (.nw 14 (.n 16)) (.nw 14 (.n 40)) _ _ nm xa 2 (by omega) (winP xa) hn2 (winP_rising xa) (kN xa) (wN xa) 100 [(90,1,2)] false 100 30 rfl
 rw [xa_see] at W1
 have e2:addE xa.a 100 89 0 0=13:=by decide+kernel
 have e3:addE xa.a 100 101 0 0=14:=by decide+kernel
 rw [e2] at A2
 rw [e3] at A3
 have huq:=fun t L sd=>mt_uq nm xa 2 (intRows (winP xa)) (kN xa) (wN xa) t L sd
 have hks:=fun t t' L L' sd sd' j=>mt_ks (M:= .nw 14 (.n 16)) (A:= .nw 14 (.n 40)) (R:=fun i=> .nw 14 (R0 i)) (B:=fun i=> .nw 14 (B0 i)) xa xa 2 (intRows (winP xa)) (kN xa) (wN xa) t t' L L' sd sd' j
 have hnn:=fun t L sd j=>mt_n (M:= .nw 14 (.n 16)) (A:= .nw 14 (.n 40)) (R:=fun i=> .nw 14 (R0 i)) (B:=fun i=> .nw 14 (B0 i)) xa 2 (intRows (winP xa)) (kN xa) (wN xa) t L sd (.n j) (by simp) (by simp) (fun i=>by simp) (fun i=>by simp)
 have hnw: ∀t L sd (a:Id) (b:List AV),(a,b)∈mtB (.nw 14 (.n 16)) (.nw 14 (.n 40)) (fun i=> .nw 14 (R0 i)) (fun i=> .nw 14 (B0 i)) xa 2 (intRows (winP xa)) (kN xa) (wN xa) t L sd→a.isIt=false∧ ∀s,a.isNw s=(14==s):=by
  intro t L sd a b hp
  unfold mtB at hp
  rcases List.mem_cons.1 hp with e|hp
  ·cases e;exact ⟨rfl,fun s=>by simp [Id.isNw,Id.isUp]⟩
  ·rcases List.mem_cons.1 hp with e|hp
   ·cases e;exact ⟨rfl,fun s=>by simp [Id.isNw,Id.isUp]⟩
   ·obtain ⟨i,_,e|e⟩:=mem_rgsB.1 hp
    ·cases e;exact ⟨rfl,fun s=>by simp [Id.isNw,Id.isUp,R0]⟩
    ·cases e;exact ⟨rfl,fun s=>by simp [Id.isNw,Id.isUp,B0]⟩
 have hex:xa.row=[.str [97],.int .u32 5,i6 10,i6 10,i6 0,i6 0,.sl [],.sl [[.str [114],.bool false,i6 100,i6 10,.int .u64 1,i6 0,i6 0]]]:=rfl
 rw [hex] at N1
 have N1:=sph_nz (vs:=[.agg [.str [97],.int .u32 5,i6 10,i6 10,i6 0,i6 0,.nils,.sl [[.str [114],.bool false,i6 100,i6 10,.int .u64 1,i6 0,i6 0]]]]) N1 rfl
 have q1:((100:Nat):Int)=100:=rfl
 have q2:((90:Nat):Int)=90:=rfl
 rw [q1] at M1
 rw [q2,List.nil_append] at A1
 have u0:=huq 0 [] false
 have u1:=huq 100 [] false
 have u2:=huq 100 [(90,1,2)] false
 have k1:=hks 0 100 [] [] false false
 have k2:=hks 100 100 [] [(90,1,2)] false false
 have n0:=hnn 0 [] false
 have n1:=hnn 100 [] false
 have n2:=hnn 100 [(90,1,2)] false
 have f0:=hnw 0 [] false
 have f1:=hnw 100 [] false
 have f2:=hnw 100 [(90,1,2)] false
 obtain ⟨m2,h2⟩: ∃m,m=mtB (.nw 14 (.n 16)) (.nw 14 (.n 40)) (fun i=> .nw 14 (R0 i)) (fun i=> .nw 14 (B0 i)) xa 2 (intRows (winP xa)) (kN xa) (wN xa) 100 [(90,1,2)] false:=⟨_,rfl⟩
 obtain ⟨rest,hr⟩: ∃r,r=(Id.nw 14 (.n 40),ptrC (fun i=> .nw 14 (R0 i)) 2)::rgsB (fun i=> .nw 14 (R0 i)) (fun i=> .nw 14 (B0 i)) (rgC (kN xa) (wN xa) 100 [(90,1,2)]) (rgD (kN xa) (wN xa) 100 [(90,1,2)]) 2:=⟨_,rfl⟩
 have e4:m2=(.nw 14 (.n 16),mtC xa (.nw 14 (.n 40)) 2 (intRows (winP xa)) (pF xa.c 100) (pT xa.c 100) (pcG xa.c 100 [(90,1,2)]) (pcT xa.c 100 [(90,1,2)]) 100 false)::rest:=by rw [h2,hr];rfl
 have hMr: ∀p∈rest,¬Id.nw 14 (.n 16)=p.1:=by
  intro p hp
  rw [hr] at hp
  rcases List.mem_cons.1 hp with rfl|hp
  ·simp
  ·obtain ⟨i,_,e|e⟩:=mem_rgsB.1 hp
   ·subst e;simp [R0]
   ·subst e;simp [B0]
 rw [←h2] at u2 k2 n2 f2 A1 W1
 generalize mtC xa (.nw 14 (.n 40)) 2 (intRows (winP xa)) (pF xa.c 100) (pT xa.c 100) (pcG xa.c 100 [(90,1,2)]) (pcT xa.c 100 [(90,1,2)]) 100 false=mc at *
 generalize mtB (.nw 14 (.n 16)) (.nw 14 (.n 40)) (fun i=> .nw 14 (R0 i)) (fun i=> .nw 14 (B0 i)) xa 2 (intRows (winP xa)) (kN xa) (wN xa) 0 [] false=m0 at *
 generalize mtB (.nw 14 (.n 16)) (.nw 14 (.n 40)) (fun i=> .nw 14 (R0 i)) (fun i=> .nw 14 (B0 i)) xa 2 (intRows (winP xa)) (kN xa) (wN xa) 100 [] false=m1 at *
 clear huq hks hnn hnw h2 hr O0 hk hw hn2 e2 e3
 obtain ⟨gc,hgc⟩: ∃c,c=[AV.str [97],.int .u32 5,i6 10,i6 10,i6 0,i6 0,.nils,.sl [[.str [114],.bool false,i6 100,i6 10,u 1,i6 0,i6 0]]]:=⟨_,rfl⟩
 simp -implicitDefEqProofs [c12]
 refine onH_mk _ _ N1 ⟨?_,?_,?_,?_,?_,?_,?_⟩ ?_
 iterate 5 (· simp [n0])
 ·simp
  intro a b hm
  obtain ⟨h1,h2⟩:=f0 a b hm
  exact ⟨by rw [h2];rfl,h1⟩
 ·simp
 simp -implicitDefEqProofs [n0,lkB_app]
 refine onH_ps (pre:=[]) (suf:=[(.n 1,gc)]) M1 (by rw [hgc];rfl) ?_ ?_ u0 k1 ?_ ?_ ?_ ?_
 ·simp
 ·simp [n0]
 ·simp
  intro a b hm
  rcases hm with hm|hm
  ·rw [(f0 a b hm).2];rfl
  ·rw [hm.1];rfl
 ·simp
 ·simp
 simp -implicitDefEqProofs [n1,lkB_app]
 refine onH_ps (pre:=[]) (suf:=[(.n 1,gc)]) A1 rfl ?_ ?_ u1 k2 ?_ ?_ ?_ ?_
 ·simp
 ·simp [n1]
 ·simp
  intro a b hm
  rcases hm with hm|hm
  ·rw [(f1 a b hm).2];rfl
  ·rw [hm.1];rfl
 ·simp
 ·simp
 simp -implicitDefEqProofs [n2,lkB_app]
 refine onH_ps (pre:=[]) (suf:=rest++[(.n 1,gc)]) A2 (by simp only [e4];rfl) ?_ ?_ ?_ (fun _=>rfl) ?_ ?_ ?_ ?_
 ·simp
 ·simp
  intro a b hm
  rcases hm with hm|hm
  ·intro e;exact hMr _ hm e
  ·rw [hm.1];simp
 ·simp
 ·simp
  intro a b hm
  rcases hm with hm|hm
  ·rw [(f2 a b hm).2];rfl
  ·rw [hm.1];rfl
 ·simp
 ·simp
 simp -implicitDefEqProofs [n2,lkB_app]
 refine onH_ps (pre:=[]) (suf:=rest++[(.n 1,gc)]) A3 rfl ?_ ?_ ?_ (fun _=>rfl) ?_ ?_ ?_ ?_
 ·simp
 ·simp
  intro a b hm
  rcases hm with hm|hm
  ·intro e;exact hMr _ hm e
  ·rw [hm.1];simp
 ·simp
 ·simp
  intro a b hm
  rcases hm with hm|hm
  ·rw [(f2 a b (by rw [e4];exact List.mem_cons_of_mem _ hm)).2];rfl
  ·rw [hm.1];rfl
 ·simp
 ·simp
 simp -implicitDefEqProofs [n2,lkB_app]
 refine onH_ps (pre:=[]) (suf:=[(.n 1,gc)]) W1 (by simp only [e4];rfl) ?_ ?_ u2 (fun _=>rfl) ?_ ?_ ?_ ?_
 ·simp
 ·simp [n2]
 ·simp
  intro a b hm
  rcases hm with hm|hm
  ·rw [(f2 a b (by rw [e4];exact List.mem_cons_of_mem _ hm)).2];rfl
  ·rw [hm.1];rfl
 ·simp
 ·simp
 simp -implicitDefEqProofs [n2,lkB_app]
open Go.Proofs
set_option maxHeartbeats 1000000 in
theorem meterReads_spec (x:Gl) (B:List UInt8) (now:Int):Sp Tryz.prog gl 6 [.agg x.row,.sl (byteRows B),i6 now] (.bool true):=by
 refine s6 rfl rfl ?_
 have AW:=mawake_spec
 have H:=heavyG_spec x
 have P1:x.row.length=8:=rfl
 have P2:idsL x.row=[]:=rfl
 have P3:shutL x.row=some x.row:=rfl
 have bl:=byteRows_len B
 cases hh:heavyG x with
 |true=>
  rw [hh] at H
  generalize byteRows B=R at *
  generalize x.row=P at *
  have e8:List.take 8 P=P:=List.take_of_length_le (by omega)
  simp -implicitDefEqProofs [c6]
  refine onC_mk _ (AW) ?_
  simp -implicitDefEqProofs [P1,e8,P3]
  refine onC_mk _ (H) ?_
  simp -implicitDefEqProofs
 |false=>
  rw [hh] at H
  have hf:=heavyG_fit hh
  have hl:=hf.ru
  by_cases hB5:5000<B.length
  ·have hB5':(5000:Int)<B.length:=by omega
   generalize byteRows B=R at *
   generalize x.row=P at *
   have e8:List.take 8 P=P:=List.take_of_length_le (by omega)
   simp -implicitDefEqProofs [c6]
   refine onC_mk _ (AW) ?_
   simp -implicitDefEqProofs [P1,e8,P3]
   refine onC_mk _ (H) ?_
   simp -implicitDefEqProofs [bl,hB5,hB5']
  ·have hB5': ¬(5000:Int)<B.length:=by omega
   have hle:rsLe (some B) 1000000:=fun b e=>by cases e;omega
   have RG:=qgoal_spec x hf
   have WN:=wNew_spec B 21
   by_cases hgood:goalP x=true∧ ∃t:Nat,now=t∧t≤253402300799∧readOk x t (some B)
   ·obtain ⟨hx,t,rfl,ht,hok⟩:=hgood
    rw [hx] at RG
    obtain ⟨rest,r1,r2,r3,r4⟩:=read_take hx hl hok
    have RD:=xread20_spec x hx hl B (by omega) t (.tup [i6 (rdEnd x B),.bool true]) (fun q=>absurd ⟨by omega,by omega⟩ q) (fun _ _ _ _=>rfl) (fun t' e1 e2 q=>by
     have:t'=t:=by omega
     subst this;exact absurd hok q)
    have GB:=mget_any x hf hl hx t ht (some B) hle 25 (.nw 21 (.n 5)) rfl rfl _ (fun q=>absurd hok.1 q) (fun _ _=>rfl) (fun _ i hi q=>absurd (hok.2 i hi) q)
    unfold mgO at GB
    rw [r1] at GB
    obtain ⟨m1,m2⟩:=mh_lt x.c (some B)
    have MP:=(mput_spec (qM 25) (qA 25) (qR 25) (qB 25) (nmsQ 25) x (winP x).length (by have:=winP_len x;omega) (intRows (winP x)) (pF x.c t) (pT x.c t) (mhG x.c (some B)) (mhT x.c (some B)) m1 m2 (flagN (some B)).2 (kN x) (wN x) (fun i=>t / wN x i) t (qG (kN x) (mhS x.c (some B))) (qT (kN x) (mhS x.c (some B))) _ _ (gk_read hx hl ht (mhS x.c (some B))) [] (by simp) 67 rfl).2 rfl
    rw [List.nil_append,←r4] at MP
    have MP:=MP.noPm
    have N1:=fun e he=>mnow_spec (qM 25) (qA 25) (nmsQ 25).pa x (winP x).length (intRows (winP x)) (pF x.c t) (pT x.c t) (mhG x.c (some B)) (mhT x.c (some B)) t (flagN (some B)).2 e he
    have WB:=wbad_spec (some rest) 47 (.nw 21 (.n 5)) rfl rfl
    have WL:=wLeft_spec (some rest) 52 (.nw 21 (.n 5)) rfl rfl
    have wn:(some rest:RS).isNone=false:=rfl
    have lf:leftN (some rest)=rest.length:=rfl
    rw [wn] at WB
    rw [lf,r3] at WL
    have uq: ∀p∈mtG (qM 25) (qA 25) (qR 25) (qB 25) (mtC x (qA 25) (winP x).length (intRows (winP x)) (pF x.c t) (pT x.c t) (mhG x.c (some B)) (mhT x.c (some B)) t (flagN (some B)).2) (winP x).length (gC (kN x) (wN x) (fun i=>t / wN x i) t (qG (kN x) (mhS x.c (some B))) (qT (kN x) (mhS x.c (some B)))) (gD (kN x) (qF (kN x) (fun i=>t / wN x i) (mhS x.c (some B))) (qH (kN x) (fun i=>t / wN x i) (mhS x.c (some B)))),
      lkB (mtG (qM 25) (qA 25) (qR 25) (qB 25) (mtC x (qA 25) (winP x).length (intRows (winP x)) (pF x.c t) (pT x.c t) (mhG x.c (some B)) (mhT x.c (some B)) t (flagN (some B)).2) (winP x).length (gC (kN x) (wN x) (fun i=>t / wN x i) t (qG (kN x) (mhS x.c (some B))) (qT (kN x) (mhS x.c (some B)))) (gD (kN x) (qF (kN x) (fun i=>t / wN x i) (mhS x.c (some B))) (qH (kN x) (fun i=>t / wN x i) (mhS x.c (some B))))) p.1=some p.2:=by
     unfold mtG;exact mt_uniq (nmsQ 25) _ _ _ _ _
    have lM:lkB (mtG (qM 25) (qA 25) (qR 25) (qB 25) (mtC x (qA 25) (winP x).length (intRows (winP x)) (pF x.c t) (pT x.c t) (mhG x.c (some B)) (mhT x.c (some B)) t (flagN (some B)).2) (winP x).length (gC (kN x) (wN x) (fun i=>t / wN x i) t (qG (kN x) (mhS x.c (some B))) (qT (kN x) (mhS x.c (some B)))) (gD (kN x) (qF (kN x) (fun i=>t / wN x i) (mhS x.c (some B))) (qH (kN x) (fun i=>t / wN x i) (mhS x.c (some B))))) (qM 25)=some (mtC x (qA 25) (winP x).length (intRows (winP x)) (pF x.c t) (pT x.c t) (mhG x.c (some B)) (mhT x.c (some B)) t (flagN (some B)).2):=by
     unfold mtG;simp [lkB]
    have qw: ∀(a:Id) (b:List AV),(a,b)∈mtG (qM 25) (qA 25) (qR 25) (qB 25) (mtC x (qA 25) (winP x).length (intRows (winP x)) (pF x.c t) (pT x.c t) (mhG x.c (some B)) (mhT x.c (some B)) t (flagN (some B)).2) (winP x).length (gC (kN x) (wN x) (fun i=>t / wN x i) t (qG (kN x) (mhS x.c (some B))) (qT (kN x) (mhS x.c (some B)))) (gD (kN x) (qF (kN x) (fun i=>t / wN x i) (mhS x.c (some B))) (qH (kN x) (fun i=>t / wN x i) (mhS x.c (some B))))→a.isIt=false∧ ∀s,a.isNw s=(25==s):=by
     intro a b hp
     unfold mtG at hp
     rcases List.mem_cons.1 hp with e|hp
     ·cases e;exact ⟨rfl,fun s=>by simp [qM,Id.isNw,Id.isUp]⟩
     ·rcases List.mem_cons.1 hp with e|hp
      ·cases e;exact ⟨rfl,fun s=>by simp [qA,Id.isNw,Id.isUp]⟩
      ·obtain ⟨i,_,e|e⟩:=mem_rgsB.1 hp
       ·cases e;exact ⟨rfl,fun s=>by simp [qR,R0,Id.isNw,Id.isUp]⟩
       ·cases e;exact ⟨rfl,fun s=>by simp [qB,B0,Id.isNw,Id.isUp]⟩
    generalize mtG (qM 25) (qA 25) (qR 25) (qB 25) (mtC x (qA 25) (winP x).length (intRows (winP x)) (pF x.c t) (pT x.c t) (mhG x.c (some B)) (mhT x.c (some B)) t (flagN (some B)).2) (winP x).length (gC (kN x) (wN x) (fun i=>t / wN x i) t (qG (kN x) (mhS x.c (some B))) (qT (kN x) (mhS x.c (some B)))) (gD (kN x) (qF (kN x) (fun i=>t / wN x i) (mhS x.c (some B))) (qH (kN x) (fun i=>t / wN x i) (mhS x.c (some B))))=M2 at *
    generalize mtC x (qA 25) (winP x).length (intRows (winP x)) (pF x.c t) (pT x.c t) (mhG x.c (some B)) (mhT x.c (some B)) t (flagN (some B)).2=MC at *
    have qnw: ∀j,Id.isNw 25 j=false→lkB M2 j=none:=fun j h=>lkB_nw (fun a b hm=>by rw [(qw a b hm).2];rfl) h
    have q3:=qnw (.n 3) rfl
    have qc:=qnw (.nw 21 (.n 5)) rfl
    have qrc:rmB M2 (.nw 21 (.n 5))=M2:=rmB_no qc
    have hq3: ¬qM 25= .n 3:=by simp [qM]
    have hq3': ¬Id.n 3=qM 25:=fun e=>hq3 e.symm
    have hqc': ¬Id.nw 21 (.n 5)=qM 25:=by simp [qM]
    have iqM:(qM 25).isNw 61=false:=rfl
    have rt:rowBytes (List.take (rdEnd x B) (byteRows B))=some (B.take (rdEnd x B)):=by
     have e:List.take (rdEnd x B) (byteRows B)=byteRows (B.take (rdEnd x B)):=by unfold byteRows;rw [List.map_take]
     rw [e];exact rowBytes_of _
    have rt2:=rowBytes_of (B.take (rdEnd x B))
    have o1:=byteRows_one B
    have sb:IntKind.i64.wrap ((B.length - rdEnd x B:Nat):Int)=(B.length - rdEnd x B:Nat):=by rw [wrap_i64]<;>omega
    have sb2:(B.length:Int) - rdEnd x B=((B.length - rdEnd x B:Nat):Int):=by omega
    generalize hBT:B.take (rdEnd x B)=BT at *
    generalize byteRows BT=RT at *
    generalize byteRows B=R at *
    generalize rdEnd x B=n at *
    generalize hP:x.row=P at *
    have e8:List.take 8 P=P:=List.take_of_length_le (by omega)
    generalize qM 25=QM at *
    clear hok hle hf hl hBT r1 r4 wn lf m1 m2
    generalize rdv (some B)=Q1 at *
    generalize rdv (some rest)=Q2 at *
    simp -implicitDefEqProofs [c6]
    refine onC_mk _ (AW) ?_
    simp -implicitDefEqProofs [P1,e8,P3]
    refine onC_mk _ (H) ?_
    simp -implicitDefEqProofs [bl,hB5,hB5',P1,e8,P3]
    refine onH_mk _ _ (WN) ⟨?_,?_,?_,?_,?_,?_,?_⟩ ?_
    iterate 7 (· simp)
    simp -implicitDefEqProofs [P1,e8,P3]
    refine onH_mk _ _ GB ⟨?_,?_,?_,?_,?_,?_,?_⟩ ?_
    iterate 5 (· simp [P1,e8,P3])
    ·simp
     exact fun a b hm=> .inr ⟨by rw [(qw a b hm).2];rfl,(qw a b hm).1⟩
    ·simp
    simp -implicitDefEqProofs [P1,e8,P3,lkB_app,q3]
    refine onC_mk _ (RG) ?_
    simp -implicitDefEqProofs [P1,e8,P3,lkB_app,q3]
    refine onC_mk _ (RD) ?_
    simp -implicitDefEqProofs [lkB_app]
    have fr0: ∀(j:Nat),j≠25→j≠21→ ∀(a:Id) (b:List AV),(a=Id.nw 21 (.n 5)∧b=Q2∨(a,b)∈M2∨a=Id.n 3∧b=P)→a.isNw j=false:=by
     intro j j1 j2 a b hm
     have j1':(25==j)=false:=by rw [beq_eq_false_iff_ne];exact fun q=>j1 q.symm
     have j2':(21==j)=false:=by rw [beq_eq_false_iff_ne];exact fun q=>j2 q.symm
     rcases hm with hm|hm|hm
     ·rw [hm.1];simp only [Id.isNw,j2'];rfl
     ·rw [(qw a b hm).2,j1']
     ·rw [hm.1];rfl
    have frl: ∀(j:Nat),j≠25→j≠21→ ∀p∈(Id.nw 21 (.n 5),Q2)::(M2++[(Id.n 3,P)]),p.1.isNw j=false:=by
     intro j j1 j2 p hp
     refine fr0 j j1 j2 p.1 p.2 ?_
     obtain ⟨a,b⟩:=p
     simpa [Prod.mk.injEq] using hp
    refine onQ_mk _ _ WB ⟨?_,?_,?_,?_,?_,?_,?_⟩ ⟨?_,?_,?_⟩ ?_
    iterate 6 (· simp)
    ·exact frl 47 (by decide) (by decide)
    iterate 3 (· simp [Pl.isB,Pl.isF])
    simp -implicitDefEqProofs [rmB_app,qrc]
    refine onQ_mk _ _ WL ⟨?_,?_,?_,?_,?_,?_,?_⟩ ⟨?_,?_,?_⟩ ?_
    iterate 6 (· simp)
    ·exact frl 52 (by decide) (by decide)
    iterate 3 (· simp [Pl.isB,Pl.isF])
    simp -implicitDefEqProofs [rmB_app,qrc,bl,sb,sb2,hqc']
    refine onR_mk _ (by simp -implicitDefEqProofs [lM,lkB_app,hqc']) (fun e he=>N1 e he) ?_
    simp -implicitDefEqProofs
    refine onQ_ps (pre:=[(Id.nw 21 (.n 5),Q2)]) (suf:=[(.n 3,P)]) (fr:=[3]) MP rfl ?_ ?_ uq (fun _=>rfl) ?_ ?_ ?_ ?_ ?_
    ·simp [qc]
    ·simp [q3]
    ·exact frl 67 (by decide) (by decide)
    ·simp
    ·simp
    ·exact fun p hp=>inF_nw (fr:=[3]) (t:=25) rfl (by rw [(qw p.1 p.2 hp).2];rfl)
    have r2':(n:Int)≤B.length:=by omega
    simp -implicitDefEqProofs [rt2,rt,bl,r2,r2',o1]
    exact o1
   ·have GB:SpH Tryz.prog gl 29 25 ⟨[.ptr (.nw 21 (.n 5)) 0,.agg x.row,i6 now],[(.nw 21 (.n 5),rdv (some B))],[]⟩ ⟨.nilp,[(.nw 21 (.n 5),rdv none)],[]⟩:=by
     by_cases hb:goalP x=false∨ ¬(0≤now∧now≤253402300799)
     ·exact mget_no x hf hl now hb (some B) hle 25 _ rfl rfl
     ·rw [not_or,Bool.not_eq_false,Classical.not_not] at hb
      obtain ⟨hx,hn⟩:=hb
      obtain ⟨t,rfl⟩:=Int.eq_ofNat_of_zero_le hn.1
      have no: ¬readOk x t (some B):=fun q=>hgood ⟨hx,t,rfl,by omega,q⟩
      exact mget_any x hf hl hx t (by omega) (some B) hle 25 _ rfl rfl _ (fun _=>rfl) (fun q1 q2=>absurd ⟨q1,q2⟩ no) (fun _ _ _ _=>rfl)
    have WB:=wbad_spec none 41 (.nw 21 (.n 5)) rfl rfl
    have wn:(none:RS).isNone=true:=rfl
    rw [wn] at WB
    cases hx:goalP x with
    |false=>
     rw [hx] at RG
     generalize byteRows B=R at *
     generalize rdv none=Q0 at *
     generalize rdv (some B)=Q1 at *
     generalize x.row=P at *
     have e8:List.take 8 P=P:=List.take_of_length_le (by omega)
     simp -implicitDefEqProofs [c6]
     refine onC_mk _ (AW) ?_
     simp -implicitDefEqProofs [P1,e8,P3]
     refine onC_mk _ (H) ?_
     simp -implicitDefEqProofs [bl,hB5,hB5',P1,e8,P3]
     refine onH_mk _ _ (WN) ⟨?_,?_,?_,?_,?_,?_,?_⟩ ?_
     iterate 7 (· simp)
     simp -implicitDefEqProofs [P1,e8,P3]
     refine onH_mk _ _ (GB) ⟨?_,?_,?_,?_,?_,?_,?_⟩ ?_
     iterate 7 (· simp [P1,e8,P3])
     simp -implicitDefEqProofs [P1,e8,P3]
     refine onC_mk _ (RG) ?_
     simp -implicitDefEqProofs [P1,e8,P3]
     refine onH_mk _ _ (WB) ⟨?_,?_,?_,?_,?_,?_,?_⟩ ?_
     iterate 7 (· simp)
     simp -implicitDefEqProofs
    |true=>
     rw [hx] at RG
     have RD:=xread20_spec x hx hl B (by omega) now (.tup [i6 0,.bool false]) (fun _=>rfl) (fun t e1 e2 q=>absurd ⟨hx,t,e1,e2,q⟩ hgood) (fun _ _ _ _=>rfl)
     generalize byteRows B=R at *
     generalize rdv none=Q0 at *
     generalize rdv (some B)=Q1 at *
     generalize x.row=P at *
     have e8:List.take 8 P=P:=List.take_of_length_le (by omega)
     simp -implicitDefEqProofs [c6]
     refine onC_mk _ (AW) ?_
     simp -implicitDefEqProofs [P1,e8,P3]
     refine onC_mk _ (H) ?_
     simp -implicitDefEqProofs [bl,hB5,hB5',P1,e8,P3]
     refine onH_mk _ _ (WN) ⟨?_,?_,?_,?_,?_,?_,?_⟩ ?_
     iterate 7 (· simp)
     simp -implicitDefEqProofs [P1,e8,P3]
     refine onH_mk _ _ (GB) ⟨?_,?_,?_,?_,?_,?_,?_⟩ ?_
     iterate 7 (· simp [P1,e8,P3])
     simp -implicitDefEqProofs [P1,e8,P3]
     refine onC_mk _ (RG) ?_
     simp -implicitDefEqProofs [P1,e8,P3]
     refine onC_mk _ (RD) ?_
     simp -implicitDefEqProofs [P1,e8,P3]
     refine onH_mk _ _ (WB) ⟨?_,?_,?_,?_,?_,?_,?_⟩ ?_
     iterate 7 (· simp)
     simp -implicitDefEqProofs
end Go.Ai
namespace Go.Ai
open Go.Proofs Go.Lib
set_option maxRecDepth 100000
def accCells:List Value:=(List.range 32).map fun o=>Value.int .u8 (if o%2=0 then (accLo (o / 2):Int) else (accHi (o / 2):Int))
def firstCells:List Value:=firstTab.map fun z=>Value.int .u8 z
theorem first_cell {W:World} (h:VarReads Tryz.prog W "unicode/utf8.first" firstData) (o:Nat) (u:Value) (hu:firstCells[o]?=some u):W.cell? ⟨2,o,none⟩=some u∧u.oneCell'=true:=by
 have hg0:Tryz.prog.globalNamed "unicode/utf8.first"=some 2:=by kernel_rfl
 have ht0:(Tryz.prog.globals[2]?).map (·.type)=some 263:=by kernel_rfl
 obtain ⟨g,t,cs,fuel,p,hg,hty,hvar,hd⟩:=h
 obtain rfl:=Option.some.inj (hg0.symm.trans hg)
 obtain rfl:=Option.some.inj (ht0.symm.trans hty)
 have hcs:=cells_of_tab (t:=263) (e:=5) (n:=256) (by kernel_rfl) (by kernel_rfl) (by kernel_rfl) (by kernel_rfl) hd
 refine ⟨?_,?_⟩
 ·rw [World.var?_cell hg hvar o,←Array.getElem?_toList,hcs]
  exact hu
 ·obtain ⟨z,_,rfl⟩:=List.mem_map.1 (List.mem_of_getElem? hu)
  rfl
theorem acc_cell {W:World} (h:VarReads Tryz.prog W "unicode/utf8.acceptRanges" acceptData) (o:Nat) (u:Value) (hu:accCells[o]?=some u):W.cell? ⟨3,o,none⟩=some u∧u.oneCell'=true:=by
 have hg0:Tryz.prog.globalNamed "unicode/utf8.acceptRanges"=some 3:=by kernel_rfl
 have ht0:(Tryz.prog.globals[3]?).map (·.type)=some 266:=by kernel_rfl
 have hc0:Tryz.prog.cellsOf 265=2:=by kernel_rfl
 obtain ⟨g,t,cs,fuel,p,hg,hty,hvar,hd⟩:=h
 obtain rfl:=Option.some.inj (hg0.symm.trans hg)
 obtain rfl:=Option.some.inj (ht0.symm.trans hty)
 have ho:o<32:=by have:=(List.getElem?_eq_some_iff.1 hu).1;simpa [accCells] using this
 simp only [accCells,List.getElem?_map,List.getElem?_range ho,Option.map_some,Option.some.injEq] at hu
 subst hu
 refine ⟨?_,by split<;>rfl⟩
 have hi:o / 2<16:=by omega
 obtain ⟨fuel',d,q,hdi,he⟩:=array_elem (t:=266) (e:=265) (n:=16) (by kernel_rfl) hd (o / 2) hi
 simp only [List.getElem?_map,List.getElem?_range hi,Option.map_some,Option.some.injEq] at hdi
 subst hdi
 rw [hc0] at he
 obtain ⟨fs,hfs,hsz,hf⟩: ∃fs:Array Field,Tryz.prog.underlying 265=some (.struct fs)∧fs.size=2∧ ∀(i:Nat) (f:Field),fs[i]?=some f→Tryz.prog.underlying f.type=some (.int .u8)∧f.offset=i∧Tryz.prog.cellsOf f.type=1:=by
  refine ⟨_,(by kernel_rfl:Tryz.prog.underlying 265=some (.struct #[Field.mk "lo" 5 0 false "" "unicode/utf8" 0,Field.mk "hi" 5 1 false "" "unicode/utf8" 1])),rfl,fun j f hj=>?_⟩
  match j,hj with
  |0,hj=>simp at hj;subst hj;exact ⟨by kernel_rfl,rfl,by kernel_rfl⟩
  |1,hj=>simp at hj;subst hj;exact ⟨by kernel_rfl,rfl,by kernel_rfl⟩
  |j+2,hj=>simp at hj
 have hcs:=ints_of_struct hfs hf (by rw [hc0,hsz]) he
 have e0:=congrArg (·[0]?) hcs
 have e1:=congrArg (·[1]?) hcs
 simp only [List.getElem?_take,List.getElem?_drop] at e0 e1
 rw [World.var?_cell hg hvar o,←Array.getElem?_toList]
 by_cases hp:o%2=0
 ·rw [if_pos hp]
  have eo:o / 2*2+0=o:=by omega
  rw [eo] at e0
  simpa using e0
 ·rw [if_neg hp]
  have eo:o / 2*2+1=o:=by omega
  rw [eo] at e1
  simpa using e1
end Go.Ai
namespace Go.Ai
open Go.Proofs Go.Lib
set_option maxRecDepth 100000
theorem gl_is:gl=[(2,firstCells),(3,accCells)]:=by kernel_rfl
theorem u8_glo (W:World) (h:laidMet Tryz.prog [("unicode/utf8.acceptRanges",acceptData),("unicode/utf8.first",firstData)] W): ∀i us,List.lookup i gl=some us→ ∀(o:Nat) (u:Value),us[o]?=some u→W.cell? ⟨i,o,none⟩=some u∧u.oneCell'=true:=by
 intro i us hi o u hu
 rw [gl_is] at hi
 simp only [List.lookup] at hi
 split at hi
 ·rename_i e
  have e:=eq_of_beq e
  subst e
  obtain rfl:=Option.some.inj hi
  exact first_cell (laidMet.reads h (by simp)) o u hu
 ·split at hi
  ·rename_i e
   have e:=eq_of_beq e
   subst e
   obtain rfl:=Option.some.inj hi
   exact acc_cell (laidMet.reads h (by simp)) o u hu
  ·cases hi
end Go.Ai
