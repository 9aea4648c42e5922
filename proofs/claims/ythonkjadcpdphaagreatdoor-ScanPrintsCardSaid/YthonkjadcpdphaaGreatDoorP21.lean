/- P21: a part of the proof: the rules, or what functions compute. Conditions: as each theorem says. -/
import Derived.Test.YthonkjadcpdphaaGreatDoorP20
import Derived.Test.YthonkjadcpdphaaGreatDoorP15
import Derived.Test.YthonkjadcpdphaaGreatDoorP6
import Derived.Test.YthonkjadcpdphaaGreatDoorP17
import Derived.Test.YthonkjadcpdphaaGreatDoorCode
import Derived.Lib.LaidU8
import GoSem.PinnedTables
set_option linter.unusedSimpArgs false
set_option linter.unusedVariables false
set_option maxRecDepth 20000
namespace Go.Ai
open Go.Proofs Go.Shelf
theorem bld_q:bldAt Tryz.prog 173 173 2:=by unfold bldAt;kernel_rfl
theorem escF_len (r:Nat):(escF r).length≤6:=by
 have h:=hxL_len r
 unfold escF
 repeat' split
 all_goals (simp;try omega)
set_option maxHeartbeats 2000000 in
theorem tquote_spec (s:List UInt8) (hl:s.length≤100000) (hg:goodR (runesL s 0)=true) (hc:(runesL s 0).length≤120):Sp Tryz.prog gl 73 [.str s] (.tup [.str (quL (runesL s 0)),i6 0]):=by
 refine s73 rfl rfl ?_
 have GD:=tgood_spec s (by omega)
 rw [hg] at GD
 have CT:=tcount_spec s (by omega)
 have ct': ¬(120:Int)<((runesL s 0).length:Int):=by omega
 have h0: ∀r∈runesL s 0,0≤r:=fun r hr=>of_decide_eq_true (List.all_eq_true.1 hg r hr)
 have hlen:=runesL_len s s.length 0 (by omega)
 have el:=esL_len (runesL s 0)
 have quE:quL (runesL s 0)=34::(esL (runesL s 0)++[34]):=rfl
 obtain ⟨R,hR⟩: ∃R,R=34::esL (runesL s 0):=⟨_,rfl⟩
 have quR:quL (runesL s 0)=R++[34]:=by rw [quE,hR];rfl
 have RL:R.length≤1000:=by rw [hR,List.length_cons];omega
 rw [quR]
 have WR:=fun (d:Nat) (hb:(Id.n 4).isNw d=false) (c0:AV) hc0 (l:List UInt8) (r:Nat) hr h hl=>wr_spec (d:=d) (b:= .n 4) rfl hb bld_q (c0:=c0) hc0 [] l r hr h hl
 have WS:=fun (d:Nat) (hb:(Id.n 4).isNw d=false) (l s:List UInt8) hl=>ws_spec (d:=d) (b:= .n 4) rfl hb (c0:= .ptr (.n 4) 0) (.inr rfl) l s hl
 have ST:=fun (d:Nat) (hb:(Id.n 4).isNw d=false)=>st_spec (d:=d) (b:= .n 4) rfl hb (c0:= .ptr (.n 4) 0) (R++[34]) (by simp)
 have e34:encN 34=[34]:=rfl
 have bn:byteRows []=[]:=rfl
 have W0:=fun d hd=>WR d hd (.nilT (.n 4) 173 2) (.inl rfl) [] 34 (by left;decide) (by decide) (by decide)
 have W9:=fun d hd=>WR d hd (.ptr (.n 4) 0) (.inr rfl) R 34 (by left;decide) (by decide) (by omega)
 rw [e34] at W0 W9
 rw [List.nil_append] at W0
 simp -implicitDefEqProofs [c73]
 refine onC_mk _ (GD) ?_
 simp -implicitDefEqProofs
 refine onC_mk _ (CT) ?_
 simp -implicitDefEqProofs [ct']
 refine onH_mk _ _ (W0 _ rfl) ⟨?_,?_,?_,?_,?_,?_,?_⟩ ?_
 iterate 7 (· simp [bn])
 simp -implicitDefEqProofs
 refine wp_lpk (α:=Nat×List UInt8) (fun y=>⟨[(4,.ptr (.n 4) 0),(18,.itp 18)],[(.n 4,[.ptr (.n 4) 0,.sl (byteRows y.2)]),(.it 18,[.itr s y.1])],[(.b (.n 4) 1,bk 5)]⟩)
  (fun y=>y.1≤s.length∧(∀r∈runesL s y.1,0≤r)∧y.2++esL (runesL s y.1)=R) (fun y=>s.length - y.1) ?_ (0,[34]) ?_ ?_
 ·rintro K ⟨i,out⟩ hK ⟨h1,h2,h3⟩
  simp only at h1 h2 h3
  have cl:out.length≤1000:=by
   rw [←h3,List.length_append] at RL
   omega
  by_cases g:i<s.length
  ·rw [runesL_in g] at h2 h3
   rw [esL] at h3
   have hr0:0≤(stepR s i).1:=h2 _ (by simp)
   have sr:=step_rune s i g
   have sl:=stepR_le s i g
   have sp:=stepR_pos s i
   have sk:=stepR_okR s i
   rw [if_neg (by omega)] at sr
   have esr:(stepR s i)=((stepR s i).1,(stepR s i).2):=rfl
   rw [esr] at sr
   have fin:=fun σ' hσ=>hK (i+(stepR s i).2,out++esR (stepR s i).1.toNat) σ' ⟨sl,fun r hr=>h2 r (by simp [hr]),by simp only;rw [List.append_assoc];exact h3⟩ (by simp only;omega) hσ
   obtain ⟨q,hq⟩: ∃q:Nat,(stepR s i).1=q:=⟨(stepR s i).1.toNat,by omega⟩
   rw [hq] at sr sk fin
   rw [Int.toNat_natCast,esR_escF] at fin
   clear hK esr hr0 h2 h3 hq ST W0 W9 sp sl
   generalize (stepR s i).2=w at *
   have rv:runeV (q:Int)∧q≤1114111:=by
    rcases sk with sk|sk
    ·omega
    ·unfold runeV;omega
   have ES:=tescape_spec q rv.2
   have W1:=fun d hd=>WS d hd out (escF q) (by have:=escF_len q;omega)
   have W2:=fun d hd=>WR d hd (.ptr (.n 4) 0) (.inr rfl) out q rv.1 rv.2 (by omega)
   clear WS WR
   by_cases c:escF q=[]
   ·rw [if_pos c] at fin
    rw [c] at ES
    generalize encN q=bs at *
    simp -implicitDefEqProofs [g,sr]
    refine onC_mk _ (ES) ?_
    simp -implicitDefEqProofs
    refine onH_mk _ _ (W2 _ rfl) ⟨?_,?_,?_,?_,?_,?_,?_⟩ ?_
    iterate 7 (· simp)
    simp -implicitDefEqProofs
    refine fin _ ?_
    refine weak_mk ?_ ?_ ?_ ?_ ?_ ?_<;>simp -implicitDefEqProofs
   ·rw [if_neg c] at fin
    have c':(escF q).isEmpty=false:=by simpa using c
    generalize escF q=bs at *
    simp -implicitDefEqProofs [g,sr]
    refine onC_mk _ (ES) ?_
    simp -implicitDefEqProofs [c,c']
    refine onH_mk _ _ (W1 _ rfl) ⟨?_,?_,?_,?_,?_,?_,?_⟩ ?_
    iterate 7 (· simp)
    simp -implicitDefEqProofs
    refine fin _ ?_
    refine weak_mk ?_ ?_ ?_ ?_ ?_ ?_<;>simp -implicitDefEqProofs
  ·obtain rfl:i=s.length:=by omega
   rw [runesL_out (by omega),esL,List.append_nil] at h3
   subst h3
   clear hK W0 WS WR
   simp -implicitDefEqProofs
   refine onH_mk _ _ (W9 _ rfl) ⟨?_,?_,?_,?_,?_,?_,?_⟩ ?_
   iterate 7 (· simp)
   simp -implicitDefEqProofs
   refine onH_mk _ _ (ST _ rfl) ⟨?_,?_,?_,?_,?_,?_,?_⟩ ?_
   iterate 7 (· simp)
   simp -implicitDefEqProofs
 ·exact ⟨Nat.zero_le _,h0,hR.symm⟩
 ·refine weak_mk ?_ ?_ ?_ ?_ ?_ ?_<;>simp -implicitDefEqProofs
open Go.Proofs
theorem sprt_1 (k:Int) (hk:k=1) (s:List UInt8) (n:Nat) (l c:Int) (hl:s.length≤100000) (hn:n<18446744073709551616) (hr:tkR k s n=true):Sp Tryz.prog gl 25 [tkA k s n l c] (.str s):=by
 refine s25 rfl rfl ?_
 have RG:=sright_spec k s n l c (by omega)
 rw [hr] at RG
 have d1:(k==1)=true:=by subst hk;decide
 clear hk
 unfold tkA at *
 simp -implicitDefEqProofs [c25]
 refine onC_mk _ (RG) ?_
 simp -implicitDefEqProofs [d1]
theorem sprt_2 (k:Int) (hk:k=2) (s:List UInt8) (n:Nat) (l c:Int) (hl:s.length≤100000) (hn:n<18446744073709551616) (hg:goodR (runesL s 0)=true) (hc:(runesL s 0).length≤120) (hr:tkR k s n=true):Sp Tryz.prog gl 25 [tkA k s n l c] (.str (quL (runesL s 0))):=by
 refine s25 rfl rfl ?_
 have RG:=sright_spec k s n l c (by omega)
 rw [hr] at RG
 have d1:(k==1)=false:=by subst hk;decide
 have d2:(k==2)=true:=by subst hk;decide
 have Q:=tquote_spec s hl hg hc
 generalize quL (runesL s 0)=q at *
 clear hk hg hc
 unfold tkA at *
 simp -implicitDefEqProofs [c25]
 refine onC_mk _ (RG) ?_
 simp -implicitDefEqProofs [d1,d2]
 refine onC_mk _ (Q) ?_
 simp -implicitDefEqProofs
theorem sprt_3 (k:Int) (hk:k=3) (s:List UInt8) (n:Nat) (l c:Int) (hl:s.length≤100000) (hn:n<18446744073709551616) (hr:tkR k s n=true):Sp Tryz.prog gl 25 [tkA k s n l c] (.str (dec n)):=by
 refine s25 rfl rfl ?_
 have RG:=sright_spec k s n l c (by omega)
 rw [hr] at RG
 have d1:(k==1)=false:=by subst hk;decide
 have d2:(k==2)=false:=by subst hk;decide
 have d3:(k==3)=true:=by subst hk;decide
 have F:=fmtd_spec n hn
 generalize dec n=q at *
 clear hk
 unfold tkA at *
 simp -implicitDefEqProofs [c25]
 refine onC_mk _ (RG) ?_
 simp -implicitDefEqProofs [d1,d2,d3]
 refine onC_mk _ (F) ?_
 simp -implicitDefEqProofs
theorem sprt_4 (k:Int) (hk:k=4) (s:List UInt8) (n:Nat) (l c:Int) (hl:s.length≤100000) (hn:n<18446744073709551616) (hr:tkR k s n=true):Sp Tryz.prog gl 25 [tkA k s n l c] (.str (fcP n)):=by
 refine s25 rfl rfl ?_
 have RG:=sright_spec k s n l c (by omega)
 rw [hr] at RG
 have d1:(k==1)=false:=by subst hk;decide
 have d2:(k==2)=false:=by subst hk;decide
 have d3:(k==3)=false:=by subst hk;decide
 have d4:(k==4)=true:=by subst hk;decide
 have F:=sthou_spec n hn
 generalize fcP n=q at *
 clear hk
 unfold tkA at *
 simp -implicitDefEqProofs [c25]
 refine onC_mk _ (RG) ?_
 simp -implicitDefEqProofs [d1,d2,d3,d4]
 refine onC_mk _ (F) ?_
 simp -implicitDefEqProofs
theorem sprt_5 (k:Int) (hk:k=5) (s:List UInt8) (n:Nat) (l c:Int) (hl:s.length≤100000) (hn:n<18446744073709551616) (hm:n≤1000000) (hr:tkR k s n=true):Sp Tryz.prog gl 25 [tkA k s n l c] (.str (shP n)):=by
 refine s25 rfl rfl ?_
 have RG:=sright_spec k s n l c (by omega)
 rw [hr] at RG
 have d1:(k==1)=false:=by subst hk;decide
 have d2:(k==2)=false:=by subst hk;decide
 have d3:(k==3)=false:=by subst hk;decide
 have d4:(k==4)=false:=by subst hk;decide
 have d5:(k==5)=true:=by subst hk;decide
 have F:=sshare_spec n hm
 have w1:IntKind.u32.wrap (n:Int)=n:=by rw [wrap_u32]<;>omega
 generalize shP n=q at *
 clear hk hm
 unfold tkA at *
 simp -implicitDefEqProofs [c25]
 refine onC_mk _ (RG) ?_
 simp -implicitDefEqProofs [d1,d2,d3,d4,d5,w1]
 refine onC_mk _ (F) ?_
 simp -implicitDefEqProofs
theorem sprt_6 (k:Int) (hk:k=6) (s:List UInt8) (n:Nat) (l c:Int) (hl:s.length≤100000) (hn:n<18446744073709551616) (hm:n≤253402300799) (hr:tkR k s n=true):Sp Tryz.prog gl 25 [tkA k s n l c] (.str (spP n)):=by
 refine s25 rfl rfl ?_
 have RG:=sright_spec k s n l c (by omega)
 rw [hr] at RG
 have d1:(k==1)=false:=by subst hk;decide
 have d2:(k==2)=false:=by subst hk;decide
 have d3:(k==3)=false:=by subst hk;decide
 have d4:(k==4)=false:=by subst hk;decide
 have d5:(k==5)=false:=by subst hk;decide
 have d6:(k==6)=true:=by subst hk;decide
 have F:=sprint04_spec n hm
 have w1:IntKind.i64.wrap (n:Int)=n:=by rw [wrap_i64]<;>omega
 generalize spP n=q at *
 clear hk hm
 unfold tkA at *
 simp -implicitDefEqProofs [c25]
 refine onC_mk _ (RG) ?_
 simp -implicitDefEqProofs [d1,d2,d3,d4,d5,d6,w1]
 refine onC_mk _ (F) ?_
 simp -implicitDefEqProofs
theorem sprt_0 (k:Int) (hk:k=0) (s:List UInt8) (n:Nat) (l c:Int) (hl:s.length≤100000) (hn:n<18446744073709551616) (hr:tkR k s n=true):Sp Tryz.prog gl 25 [tkA k s n l c] (.str []):=by
 refine s25 rfl rfl ?_
 have RG:=sright_spec k s n l c (by omega)
 rw [hr] at RG
 have d1:(k==1)=false:=by subst hk;decide
 have d2:(k==2)=false:=by subst hk;decide
 have d3:(k==3)=false:=by subst hk;decide
 have d4:(k==4)=false:=by subst hk;decide
 have d5:(k==5)=false:=by subst hk;decide
 have d6:(k==6)=false:=by subst hk;decide
 have j0:(0:Int)≤k:=by omega
 have j1:k<10:=by omega
 have j2:k.toNat=0:=by omega
 clear hk
 unfold tkA at *
 simp -implicitDefEqProofs [c25]
 refine onC_mk _ (RG) ?_
 simp -implicitDefEqProofs [d1,d2,d3,d4,d5,d6,j0,j1,j2]
theorem sprt_7 (k:Int) (hk:k=7) (s:List UInt8) (n:Nat) (l c:Int) (hl:s.length≤100000) (hn:n<18446744073709551616) (hr:tkR k s n=true):Sp Tryz.prog gl 25 [tkA k s n l c] (.str [123]):=by
 refine s25 rfl rfl ?_
 have RG:=sright_spec k s n l c (by omega)
 rw [hr] at RG
 have d1:(k==1)=false:=by subst hk;decide
 have d2:(k==2)=false:=by subst hk;decide
 have d3:(k==3)=false:=by subst hk;decide
 have d4:(k==4)=false:=by subst hk;decide
 have d5:(k==5)=false:=by subst hk;decide
 have d6:(k==6)=false:=by subst hk;decide
 have j0:(0:Int)≤k:=by omega
 have j1:k<10:=by omega
 have j2:k.toNat=7:=by omega
 clear hk
 unfold tkA at *
 simp -implicitDefEqProofs [c25]
 refine onC_mk _ (RG) ?_
 simp -implicitDefEqProofs [d1,d2,d3,d4,d5,d6,j0,j1,j2]
theorem sprt_8 (k:Int) (hk:k=8) (s:List UInt8) (n:Nat) (l c:Int) (hl:s.length≤100000) (hn:n<18446744073709551616) (hr:tkR k s n=true):Sp Tryz.prog gl 25 [tkA k s n l c] (.str [125]):=by
 refine s25 rfl rfl ?_
 have RG:=sright_spec k s n l c (by omega)
 rw [hr] at RG
 have d1:(k==1)=false:=by subst hk;decide
 have d2:(k==2)=false:=by subst hk;decide
 have d3:(k==3)=false:=by subst hk;decide
 have d4:(k==4)=false:=by subst hk;decide
 have d5:(k==5)=false:=by subst hk;decide
 have d6:(k==6)=false:=by subst hk;decide
 have j0:(0:Int)≤k:=by omega
 have j1:k<10:=by omega
 have j2:k.toNat=8:=by omega
 clear hk
 unfold tkA at *
 simp -implicitDefEqProofs [c25]
 refine onC_mk _ (RG) ?_
 simp -implicitDefEqProofs [d1,d2,d3,d4,d5,d6,j0,j1,j2]
theorem sprt_9 (k:Int) (hk:k=9) (s:List UInt8) (n:Nat) (l c:Int) (hl:s.length≤100000) (hn:n<18446744073709551616) (hr:tkR k s n=true):Sp Tryz.prog gl 25 [tkA k s n l c] (.str [59]):=by
 refine s25 rfl rfl ?_
 have RG:=sright_spec k s n l c (by omega)
 rw [hr] at RG
 have d1:(k==1)=false:=by subst hk;decide
 have d2:(k==2)=false:=by subst hk;decide
 have d3:(k==3)=false:=by subst hk;decide
 have d4:(k==4)=false:=by subst hk;decide
 have d5:(k==5)=false:=by subst hk;decide
 have d6:(k==6)=false:=by subst hk;decide
 have j0:(0:Int)≤k:=by omega
 have j1:k<10:=by omega
 have j2:k.toNat=9:=by omega
 clear hk
 unfold tkA at *
 simp -implicitDefEqProofs [c25]
 refine onC_mk _ (RG) ?_
 simp -implicitDefEqProofs [d1,d2,d3,d4,d5,d6,j0,j1,j2]
theorem sprt_no (k:Int) (s:List UInt8) (n:Nat) (l c:Int) (hl:s.length≤100000) (hr:tkR k s n=false):Sp Tryz.prog gl 25 [tkA k s n l c] (.str [63]):=by
 refine s25 rfl rfl ?_
 have RG:=sright_spec k s n l c (by omega)
 rw [hr] at RG
 unfold tkA at *
 simp -implicitDefEqProofs [c25]
 refine onC_mk _ (RG) ?_
 simp -implicitDefEqProofs
theorem sprt_spec (k:Int) (s:List UInt8) (n:Nat) (l c:Int) (hl:s.length≤100000) (hn:n<18446744073709551616):Sp Tryz.prog gl 25 [tkA k s n l c] (.str (tkP k s n)):=by
 unfold tkP
 cases hr:tkR k s n
 ·rw [if_pos rfl]
  exact sprt_no k s n l c hl hr
 rw [if_neg (by decide)]
 have hr':=hr
 unfold tkR at hr'
 by_cases c1:k=1
 ·rw [if_pos c1]
  exact sprt_1 k c1 s n l c hl hn hr
 rw [if_neg c1] at hr' ⊢
 by_cases c2:k=2
 ·rw [if_pos c2] at hr' ⊢
  rw [Bool.and_eq_true,Bool.and_eq_true,decide_eq_true_iff] at hr'
  exact sprt_2 k c2 s n l c hl hn hr'.1 hr'.2.1 hr
 rw [if_neg c2] at hr' ⊢
 by_cases c3:k=3
 ·rw [if_pos c3]
  exact sprt_3 k c3 s n l c hl hn hr
 rw [if_neg c3]
 by_cases c4:k=4
 ·rw [if_pos c4]
  exact sprt_4 k c4 s n l c hl hn hr
 rw [if_neg c4]
 rw [if_neg (by rintro (h|h);exact c3 h;exact c4 h)] at hr'
 by_cases c5:k=5
 ·rw [if_pos c5] at hr' ⊢
  rw [Bool.and_eq_true,decide_eq_true_iff] at hr'
  exact sprt_5 k c5 s n l c hl hn hr'.2 hr
 rw [if_neg c5] at hr' ⊢
 by_cases c6:k=6
 ·rw [if_pos c6] at hr' ⊢
  rw [Bool.and_eq_true,decide_eq_true_iff] at hr'
  exact sprt_6 k c6 s n l c hl hn hr'.2 hr
 rw [if_neg c6] at hr' ⊢
 by_cases c7:k=7
 ·rw [if_pos c7]
  exact sprt_7 k c7 s n l c hl hn hr
 rw [if_neg c7]
 by_cases c8:k=8
 ·rw [if_pos c8]
  exact sprt_8 k c8 s n l c hl hn hr
 rw [if_neg c8]
 by_cases c9:k=9
 ·rw [if_pos c9]
  exact sprt_9 k c9 s n l c hl hn hr
 rw [if_neg c9]
 by_cases c0:k=0
 ·exact sprt_0 k c0 s n l c hl hn hr
 ·rw [if_neg (by rintro (h|h|h|h);exact c0 h;exact c7 h;exact c8 h;exact c9 h)] at hr'
  cases hr'
open Go.Proofs
theorem plc_flat: ∀(l:List Int) (a b:Int),(∀r∈l,r≠10)→ ∀i,i≤l.length→(plc a b l).getD i (0,0)=(a,b+(i:Nat))
 |[],a,b,h,i,hi=>by
  obtain rfl:i=0:=by simpa using hi
  simp [plc]
 |r::l,a,b,h,i,hi=>by
  rw [plc,if_neg (h r (by simp))]
  cases i with
  |zero=>simp
  |succ i=>
   rw [List.getD_cons_succ,plc_flat l a (b+1) (fun x hx=>h x (by simp [hx])) i (by simpa using hi)]
   congr 1
   omega
theorem hxD_no10: ∀a,a<16→((hxD a).toNat:Int)≠10:=by decide
theorem erR_no10 (r:Int) (h0:0≤r): ∀x∈erR r,x≠10:=by
 unfold erR
 by_cases c1:r=34
 ·rw [if_pos c1];decide
 rw [if_neg c1]
 by_cases c2:r=92
 ·rw [if_pos c2];decide
 rw [if_neg c2]
 by_cases c3:r=10
 ·rw [if_pos c3];decide
 rw [if_neg c3]
 by_cases c4:r=9
 ·rw [if_pos c4];decide
 rw [if_neg c4]
 by_cases c5:r<32∨r=127
 ·rw [if_pos c5]
  intro x hx
  rw [List.mem_append,List.mem_append,List.mem_singleton] at hx
  rcases hx with hx|hx|rfl
  ·revert x;decide
  ·unfold asc hxL at hx
   split at hx
   ·rw [List.map_cons,List.map_nil,List.mem_singleton] at hx
    subst hx
    exact hxD_no10 _ (by omega)
   ·rw [List.map_cons,List.map_cons,List.map_nil,List.mem_cons,List.mem_singleton] at hx
    rcases hx with rfl|rfl
    ·exact hxD_no10 _ (by omega)
    ·exact hxD_no10 _ (by omega)
  ·decide
 ·rw [if_neg c5]
  intro x hx
  rw [List.mem_singleton] at hx
  subst hx
  exact c3
theorem erL_no10: ∀(l:List Int),(∀r∈l,0≤r)→ ∀x∈erL l,x≠10
 |[],h,x,hx=>by cases hx
 |r::l,h,x,hx=>by
  rw [erL,List.mem_append] at hx
  rcases hx with hx|hx
  ·exact erR_no10 r (h r (by simp)) x hx
  ·exact erL_no10 l (fun y hy=>h y (by simp [hy])) x hx
theorem tkP_no10 {k:Int} {s:List UInt8} {n:Nat} (hk:1≤k∧k≤9) (hn:n<18446744073709551616) (h:tkR k s n=true): ∀r∈runesL (tkP k s n) 0,r≠10:=by
 by_cases kw:k=1∨k=3∨k=4∨k=5∨k=6
 ·obtain ⟨h1,h2,h3⟩:=tk_word k s n hn kw h
  intro r hr e
  have:=h1 r hr
  rw [e] at this
  cases this
 have br: ∀c:UInt8,c.toNat<128→c.toNat≠10→tkP k s n=[c]→ ∀r∈runesL (tkP k s n) 0,r≠10:=fun c hc hd e=>by
  rw [e,one_rune c hc]
  intro r hr
  rw [List.mem_singleton] at hr
  omega
 have kc:k=2∨k=7∨k=8∨k=9:=by omega
 rcases kc with rfl|rfl|rfl|rfl
 ·obtain ⟨e,hz,hg,hl⟩:=tkP_quote s n h
  have h0: ∀r∈runesL s 0,0≤r:=fun r hr=>of_decide_eq_true (List.all_eq_true.1 hg r hr)
  have hk: ∀r∈runesL s 0,okR r:=fun r hr=>runesL_okR s s.length 0 (by omega) r hr
  rw [e,quL_runes _ h0 hk]
  intro r hr
  rw [List.mem_cons,List.mem_append,List.mem_singleton] at hr
  rcases hr with rfl|hr|rfl
  ·decide
  ·exact erL_no10 _ h0 r hr
  ·decide
 ·exact br 123 (by decide) (by decide) (by unfold tkP;rw [h];rfl)
 ·exact br 125 (by decide) (by decide) (by unfold tkP;rw [h];rfl)
 ·exact br 59 (by decide) (by decide) (by unfold tkP;rw [h];rfl)
theorem tkP_lenS (k:Int) (s:List UInt8) (n:Nat) (hn:n<18446744073709551616) (hl:s.length≤2000):(tkP k s n).length≤3000:=by
 unfold tkP
 cases hr:tkR k s n with
 |false=>rw [if_pos rfl];decide
 |true=>
  rw [if_neg (by decide)]
  by_cases c1:k=1
  ·rw [if_pos c1];omega
  rw [if_neg c1]
  by_cases c2:k=2
  ·rw [if_pos c2]
   subst c2
   obtain ⟨_,_,_,h3⟩:=tkP_quote s n hr
   have:=esL_len (runesL s 0)
   unfold quL
   rw [List.length_cons,List.length_append,List.length_singleton]
   omega
  rw [if_neg c2]
  by_cases c0:1≤k∧k≤9
  ·obtain ⟨s',hs',e⟩: ∃s':List UInt8,s'.length≤500∧tkR k s' n=true∧tkP k s' n=(if k=3 then dec n else if k=4 then fcP n else if k=5 then shP n else if k=6 then spP n else if k=7 then [123] else if k=8 then [125] else if k=9 then [59] else []):=by
    have hs:s=[]:=by
     unfold tkR at hr
     rw [if_neg c1,if_neg c2] at hr
     repeat' split at hr
     all_goals first|(simp at hr;done)|(simp at hr;first|exact hr|exact hr.1)
    refine ⟨s,by rw [hs];decide,hr,?_⟩
    unfold tkP
    rw [hr,if_neg (by decide),if_neg c1,if_neg c2]
   have:=tkP_len ⟨k,s',n,0,0⟩ ⟨c0,hn,e.1⟩ hs'
   dsimp only at this
   rw [e.2] at this
   omega
  ·rw [if_neg (by omega),if_neg (by omega),if_neg (by omega),if_neg (by omega),if_neg (by omega),if_neg (by omega),if_neg (by omega)]
   decide
theorem prints_law (k:Int) (s:List UInt8) (n:Nat) (hk:1≤k∧k≤9) (hn:n<18446744073709551616) (h:tkR k s n=true) (hl:(tkP k s n).length≤40000):
  tokF (tkP k s n)=⟨[⟨k,s,n,1,1⟩,⟨0,[],0,1,1+((runesL (tkP k s n) 0).length:Nat)⟩],0,0,0⟩:=by
 have hne:=(tkP_runes hk hn h).1
 have h10:=tkP_no10 hk hn h
 have q0:=plc_flat (runesL (tkP k s n) 0) 1 1 h10 0 (Nat.zero_le _)
 have q1:=plc_flat (runesL (tkP k s n) 0) 1 1 h10 (runesL (tkP k s n) 0).length (Nat.le_refl _)
 have step:=refGo_tok (runesL (tkP k s n) 0) (plc 1 1 (runesL (tkP k s n) 0)) (runesL (tkP k s n) 0).length 0 [] k s n [] hk hn h (by rw [List.append_nil];rfl) (fun x hx=>by cases hx)
 unfold tokF refF
 rw [if_neg (by omega),step,q0,Nat.zero_add]
 have hp:=List.length_pos_iff.2 hne
 obtain ⟨f,hf⟩: ∃f,(runesL (tkP k s n) 0).length=f+1:=⟨(runesL (tkP k s n) 0).length - 1,by omega⟩
 generalize plc 1 1 (runesL (tkP k s n) 0)=P at *
 generalize runesL (tkP k s n) 0=l at *
 rw [hf,refGo_fin _ _ _ _ _ _ _ (List.getElem?_eq_none (by omega)),q1,hf]
 rfl
theorem end_law:tokF []=⟨[⟨0,[],0,1,1⟩],0,0,0⟩:=by
 unfold tokF refF
 rw [if_neg (by decide),runesL_out (by simp)]
 rfl
theorem wrong_law:(tokF [63]).c=5:=by
 unfold tokF refF
 rw [if_neg (by decide),one_rune 63 (by decide)]
 rfl
open Go.Proofs
set_option maxHeartbeats 2000000 in
theorem sprints_spec (k:Int) (s:List UInt8) (n:Nat) (l c:Int) (hn:n<18446744073709551616):Sp Tryz.prog gl 7 [tkA k s n l c] (.bool true):=by
 refine s7 rfl rfl ?_
 have AW:=awake13_spec
 by_cases c0:2000<s.length
 ·have c0':(2000:Int)<s.length:=by omega
  unfold tkA
  simp -implicitDefEqProofs [c7]
  refine onC_mk _ (AW) ?_
  simp -implicitDefEqProofs [c0,c0']
 have c0': ¬(2000:Int)<s.length:=by omega
 have SP:=sprt_spec k s n l c (by omega) hn
 have RP:=rprt_spec k s n l c (by omega) hn
 have SR:=sright_spec k s n l c (by omega)
 have RR:=rright_spec k s n l c (by omega)
 have RR1:=rright_spec k s n 1 1 (by omega)
 have TL:=tkP_lenS k s n hn (by omega)
 have TK:=stok_spec (tkP k s n)
 cases hr:tkR k s n with
 |false=>
  have e:tkP k s n=[63]:=by unfold tkP;rw [hr];rfl
  rw [hr] at SR RR
  rw [e] at SP RP TK
  have hw:=wrong_law
  generalize tokF [63]=x at *
  obtain ⟨xl,xc,xa,xb⟩:=x
  dsimp only at hw
  subst hw
  unfold TR.av at TK
  dsimp only at TK
  generalize xl.map Tk.row=XL at *
  clear TL e hr RR1
  unfold tkA at *
  simp -implicitDefEqProofs [c7]
  refine onC_mk _ (AW) ?_
  simp -implicitDefEqProofs [c0,c0']
  refine onC_mk _ (SP) ?_
  simp -implicitDefEqProofs
  refine onC_mk _ (SR) ?_
  simp -implicitDefEqProofs
  refine onC_mk _ (RR) ?_
  simp -implicitDefEqProofs
  refine onC_mk _ (RP) ?_
  simp -implicitDefEqProofs
  refine onC_mk _ (TK) ?_
  simp -implicitDefEqProofs
  refine onC_mk _ (RR) ?_
  simp -implicitDefEqProofs
 |true=>
  rw [hr] at SR RR RR1
  by_cases k0:k=0
  ·have e:tkP k s n=[]:=by
    unfold tkP
    rw [hr,if_neg (by decide),if_neg (by omega),if_neg (by omega),if_neg (by omega),if_neg (by omega),if_neg (by omega),if_neg (by omega),if_neg (by omega),if_neg (by omega),if_neg (by omega)]
   have hs:s=[]∧n=0:=by
    subst k0
    have h':((s==[])&&decide (n=0))=true:=hr
    rw [Bool.and_eq_true,beq_iff_eq,decide_eq_true_iff] at h'
    exact h'
   rw [e] at SP RP TK
   rw [end_law] at TK
   unfold TR.av at TK
   simp only [List.map_cons,List.map_nil,Tk.row] at TK
   obtain ⟨rfl,rfl⟩:=hs
   have k0':(k==0)=true:=by rw [k0];rfl
   have k1:(0:Int)==k:=by rw [k0];rfl
   clear TL e hr RR1
   unfold tkA at *
   simp -implicitDefEqProofs [c7]
   refine onC_mk _ (AW) ?_
   simp -implicitDefEqProofs
   refine onC_mk _ (SP) ?_
   simp -implicitDefEqProofs
   refine onC_mk _ (SR) ?_
   simp -implicitDefEqProofs
   refine onC_mk _ (RR) ?_
   simp -implicitDefEqProofs
   refine onC_mk _ (RP) ?_
   simp -implicitDefEqProofs
   refine onC_mk _ (TK) ?_
   simp -implicitDefEqProofs
   refine onC_mk _ (RR) ?_
   simp -implicitDefEqProofs [k0',k1,k0]
  ·have hk:=tkR_kinds hr k0
   have PL:=prints_law k s n hk hn hr (by omega)
   rw [PL] at TK
   unfold TR.av at TK
   simp only [List.map_cons,List.map_nil,Tk.row] at TK
   have RS:=runes_spec (tkP k s n) (by omega)
   have rl:=runeRows_len (runesL (tkP k s n) 0)
   have rln:=runesL_len (tkP k s n) (tkP k s n).length 0 (by omega)
   have k0':(k==0)=false:=beq_eq_false_iff_ne.2 k0
   have wl:IntKind.i64.wrap (1+((runesL (tkP k s n) 0).length:Int))=1+((runesL (tkP k s n) 0).length:Int):=by rw [wrap_i64]<;>omega
   clear PL hr RR1
   unfold tkA at *
   generalize runeRows (runesL (tkP k s n) 0)=RW at *
   generalize (runesL (tkP k s n) 0).length=m at *
   generalize tkP k s n=T at *
   simp -implicitDefEqProofs [c7]
   refine onC_mk _ (AW) ?_
   simp -implicitDefEqProofs [c0,c0']
   refine onC_mk _ (SP) ?_
   simp -implicitDefEqProofs
   refine onC_mk _ (SR) ?_
   simp -implicitDefEqProofs
   refine onC_mk _ (RR) ?_
   simp -implicitDefEqProofs
   refine onC_mk _ (RP) ?_
   simp -implicitDefEqProofs
   refine onC_mk _ (TK) ?_
   simp -implicitDefEqProofs
   refine onC_mk _ (RR) ?_
   simp -implicitDefEqProofs [k0',k0]
   refine onC_mk _ (RS) ?_
   simp -implicitDefEqProofs [rl,wl]
end Go.Ai
namespace Go.Ai
open Go.Proofs Go.Lib
set_option maxRecDepth 100000
def accCells:List Value:=(List.range 32).map fun o=>Value.int .u8 (if o%2=0 then (accLo (o / 2):Int) else (accHi (o / 2):Int))
def firstCells:List Value:=firstTab.map fun z=>Value.int .u8 z
theorem first_cell {W:World} (h:VarReads Tryz.prog W "unicode/utf8.first" firstData) (o:Nat) (u:Value) (hu:firstCells[o]?=some u):W.cell? ⟨0,o,none⟩=some u∧u.oneCell'=true:=by
 have hg0:Tryz.prog.globalNamed "unicode/utf8.first"=some 0:=by kernel_rfl
 have ht0:(Tryz.prog.globals[0]?).map (·.type)=some 239:=by kernel_rfl
 obtain ⟨g,t,cs,fuel,p,hg,hty,hvar,hd⟩:=h
 obtain rfl:=Option.some.inj (hg0.symm.trans hg)
 obtain rfl:=Option.some.inj (ht0.symm.trans hty)
 have hcs:=cells_of_tab (t:=239) (e:=5) (n:=256) (by kernel_rfl) (by kernel_rfl) (by kernel_rfl) (by kernel_rfl) hd
 refine ⟨?_,?_⟩
 ·rw [World.var?_cell hg hvar o,←Array.getElem?_toList,hcs]
  exact hu
 ·obtain ⟨z,_,rfl⟩:=List.mem_map.1 (List.mem_of_getElem? hu)
  rfl
theorem acc_cell {W:World} (h:VarReads Tryz.prog W "unicode/utf8.acceptRanges" acceptData) (o:Nat) (u:Value) (hu:accCells[o]?=some u):W.cell? ⟨1,o,none⟩=some u∧u.oneCell'=true:=by
 have hg0:Tryz.prog.globalNamed "unicode/utf8.acceptRanges"=some 1:=by kernel_rfl
 have ht0:(Tryz.prog.globals[1]?).map (·.type)=some 242:=by kernel_rfl
 have hc0:Tryz.prog.cellsOf 241=2:=by kernel_rfl
 obtain ⟨g,t,cs,fuel,p,hg,hty,hvar,hd⟩:=h
 obtain rfl:=Option.some.inj (hg0.symm.trans hg)
 obtain rfl:=Option.some.inj (ht0.symm.trans hty)
 have ho:o<32:=by have:=(List.getElem?_eq_some_iff.1 hu).1;simpa [accCells] using this
 simp only [accCells,List.getElem?_map,List.getElem?_range ho,Option.map_some,Option.some.injEq] at hu
 subst hu
 refine ⟨?_,by split<;>rfl⟩
 have hi:o / 2<16:=by omega
 obtain ⟨fuel',d,q,hdi,he⟩:=array_elem (t:=242) (e:=241) (n:=16) (by kernel_rfl) hd (o / 2) hi
 simp only [List.getElem?_map,List.getElem?_range hi,Option.map_some,Option.some.injEq] at hdi
 subst hdi
 rw [hc0] at he
 obtain ⟨fs,hfs,hsz,hf⟩: ∃fs:Array Field,Tryz.prog.underlying 241=some (.struct fs)∧fs.size=2∧ ∀(i:Nat) (f:Field),fs[i]?=some f→Tryz.prog.underlying f.type=some (.int .u8)∧f.offset=i∧Tryz.prog.cellsOf f.type=1:=by
  refine ⟨_,(by kernel_rfl:Tryz.prog.underlying 241=some (.struct #[Field.mk "lo" 5 0 false "" "unicode/utf8" 0,Field.mk "hi" 5 1 false "" "unicode/utf8" 1])),rfl,fun j f hj=>?_⟩
  match j,hj with
  |0,hj=>simp at hj;subst hj;exact ⟨by kernel_rfl,rfl,by kernel_rfl⟩
  |1,hj=>simp at hj;subst hj;exact ⟨by kernel_rfl,rfl,by kernel_rfl⟩
  |j+2,hj=>simp at hj
 have hcs:=ints_of_struct hfs hf (by rw [hc0,hsz]) he
 have e0:=congrArg (·[0]?) hcs
 have e1:=congrArg (·[1]?) hcs
 simp only [List.getElem?_take,List.getElem?_drop] at e0 e1
 rw [World.var?_cell hg hvar o,←Array.getElem?_toList]
 by_cases hp:o%2=0
 ·rw [if_pos hp]
  have eo:o / 2*2+0=o:=by omega
  rw [eo] at e0
  simpa using e0
 ·rw [if_neg hp]
  have eo:o / 2*2+1=o:=by omega
  rw [eo] at e1
  simpa using e1
end Go.Ai
