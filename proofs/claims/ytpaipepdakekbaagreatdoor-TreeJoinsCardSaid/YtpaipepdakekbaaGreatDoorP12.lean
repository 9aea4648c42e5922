/- P12: a part of the proof: the rules, or what functions compute. Conditions: as each theorem says. -/
import Derived.Test.YtpaipepdakekbaaGreatDoorP11
import Derived.Test.YtpaipepdakekbaaGreatDoorP4
import Derived.Test.YtpaipepdakekbaaGreatDoorP9
import Derived.Test.YtpaipepdakekbaaGreatDoorP8
set_option linter.unusedSimpArgs false
set_option linter.unusedVariables false
set_option maxRecDepth 20000
namespace Go.Ai
open Go.Proofs
def spRun:List Int→Sx→Option Sx
 |[],x=>some x
 |r::l,x=>if (x.take r).2=true then spRun l (x.take r).1 else none
def spFin:Option Sx→Nat×Int
 |none=>(0,5)
 |some x=>if x.dg=true then (0,5) else if x.far=true then (0,8) else (x.sum,0)
theorem spRun_spU: ∀(l:List Int) (x:Sx),spFin (spRun l x)=spU l x.sum x.p x.dg x.j x.far
 |[],x=>rfl
 |r::l,x=>by
  rw [spRun,spU]
  unfold Sx.take
  by_cases c:digR r=true
  ·rw [if_pos c,if_pos c]
   dsimp only
   rw [if_pos rfl,spRun_spU l]
  ·rw [if_neg c,if_neg c]
   by_cases c2:unIx r<x.j∨unIx r=5∨x.dg=false
   ·rw [if_pos c2,if_pos c2]
    rfl
   ·rw [if_neg c2,if_neg c2]
    dsimp only
    rw [if_pos rfl,spRun_spU l]
theorem take_r65 (x:Sx) (r:Int):x.take (r65 r)=x.take r:=by
 unfold r65
 split
 ·rename_i c
  subst c
  unfold Sx.take
  rw [show digR 65533=false from rfl,show digR (-1)=false from rfl,if_neg Bool.false_ne_true,if_neg Bool.false_ne_true,show unIx 65533=5 from rfl,show unIx (-1)=5 from rfl,if_pos (Or.inr (Or.inl rfl)),if_pos (Or.inr (Or.inl rfl))]
 ·rfl
theorem okV_step (s:List UInt8) (i:Nat):okV (r65 (stepR s i).1):=by
 have h:=stepR_okR s i
 unfold r65 okV
 rcases h with h|⟨h1,h2,h3⟩
 ·rw [if_pos h]
  omega
 ·rw [if_neg (by omega)]
  omega
theorem sspan_spec (s:List UInt8) (hl:s.length≤1000000):Sp Tryz.prog gl 61 [.str s] (.tup [i6 (spanU s).1,i6 (spanU s).2]):=by
 refine s61 rfl rfl ?_
 unfold spanU
 by_cases e:s=[]
 ·subst e
  rw [if_pos rfl]
  simp -implicitDefEqProofs [c61]
  refine wp_lpk (α:=Nat) (fun i=>⟨[(0,.str []),(4,.ptr (.n 8) 0),(10,.itp 10)],[(.n 8,[i6 0,i6 0,.bool false,.str [119,100,104,109,115],.bool false]),(.it 10,[.itr [] 0])],[]⟩) (fun i=>True) (fun i=>1) ?_ 0 ?_ ?_
  ·rintro K i hK _
   clear hK
   simp -implicitDefEqProofs
  ·exact True.intro
  ·refine weak_mk ?_ ?_ ?_ ?_ ?_ ?_<;>simp -implicitDefEqProofs
 rw [if_neg e]
 have en:(s==[])=false:=beq_eq_false_iff_ne.2 e
 obtain ⟨R,hR⟩: ∃R,R=spRun (runesL s 0) ⟨0,0,false,0,false⟩:=⟨_,rfl⟩
 have hR2:=spRun_spU (runesL s 0) ⟨0,0,false,0,false⟩
 rw [←hR] at hR2
 rw [←hR2]
 clear hR2
 simp -implicitDefEqProofs [c61]
 refine wp_lpk (α:=Nat×Sx) (fun y=>⟨[(0,.str s),(4,.ptr (.n 8) 0),(10,.itp 10)],[(.n 8,y.2.box),(.it 10,[.itr s y.1])],[]⟩)
  (fun y=>y.1≤s.length∧SxOk y.2∧spRun (runesL s y.1) y.2=R) (fun y=>s.length - y.1) ?_ (0,⟨0,0,false,0,false⟩) ?_ ?_
 ·rintro K ⟨i,x⟩ hK ⟨h1,h2,h3⟩
  simp only at h1 h2 h3
  by_cases g:i<s.length
  ·rw [runesL_in g,spRun] at h3
   have sr:=step_r65 s i g
   have sp:=stepR_pos s i
   have sw:=stepR_le s i g
   have T:=fun (e:Nat) (he:(Id.n 8).isNw e=false)=>stakeU_spec x h2 (r65 (stepR s i).1) (okV_step s i) e (.n 8) rfl he
   have so:=h2.step (stepR s i).1
   rw [take_r65] at T
   have bx0:x.box.length=5:=rfl
   have bx1:idsL x.box=[]:=rfl
   have by0:(x.take (stepR s i).1).1.box.length=5:=rfl
   have by1:idsL (x.take (stepR s i).1).1.box=[]:=rfl
   have fin:spRun (runesL s (i+(stepR s i).2)) (x.take (stepR s i).1).1=R→ ∀σ',Weak σ' ⟨[(0,.str s),(4,.ptr (.n 8) 0),(10,.itp 10)],[(.n 8,(x.take (stepR s i).1).1.box),(.it 10,[.itr s (i+(stepR s i).2)])],[]⟩→K σ':=
    fun hh σ' hσ=>hK (i+(stepR s i).2,(x.take (stepR s i).1).1) σ' ⟨sw,so,hh⟩ (by simp only;omega) hσ
   clear hK hR so
   generalize (x.take (stepR s i).1).2=ok at *
   generalize (x.take (stepR s i).1).1=y at *
   generalize r65 (stepR s i).1=r at *
   generalize (stepR s i).2=w at *
   cases ok
   ·rw [if_neg (by decide)] at h3
    subst h3
    clear fin
    unfold Sx.box spB at *
    simp -implicitDefEqProofs [g,sr,spFin]
    refine onH_mk _ _ (T _ rfl) ⟨?_,?_,?_,?_,?_,?_,?_⟩ ?_
    iterate 7 (· simp)
    simp -implicitDefEqProofs
   ·rw [if_pos rfl] at h3
    have fin:=fin h3
    clear h3
    generalize spFin R=Q at *
    unfold Sx.box spB at *
    simp -implicitDefEqProofs [g,sr]
    refine onH_mk _ _ (T _ rfl) ⟨?_,?_,?_,?_,?_,?_,?_⟩ ?_
    iterate 7 (· simp)
    simp -implicitDefEqProofs
    refine fin _ ?_
    refine weak_mk ?_ ?_ ?_ ?_ ?_ ?_<;>simp -implicitDefEqProofs
  ·rw [runesL_out g,spRun] at h3
   subst h3
   clear hK hR
   unfold spFin
   dsimp only
   obtain ⟨sum,p,dg,j,far⟩:=x
   unfold Sx.box spB
   dsimp only
   cases dg
   ·rw [if_neg (by decide)]
    cases far
    ·rw [if_neg (by decide)]
     simp -implicitDefEqProofs [g,e,en]
    ·rw [if_pos rfl]
     simp -implicitDefEqProofs [g,e,en]
   ·rw [if_pos rfl]
    simp -implicitDefEqProofs [g,e,en]
 ·exact ⟨Nat.zero_le _,⟨by simp,by simp,by simp⟩,hR.symm⟩
 ·refine weak_mk ?_ ?_ ?_ ?_ ?_ ?_<;>simp -implicitDefEqProofs [Sx.box,spB,wdL]
open Go.Proofs
def ppFin (h:Nat×Bool) (t:Nat×Bool):Nat×Int:=
  if h.2=false∨t.2=false then (0,5) else if 100<h.1∨(h.1=100∧0<t.1) then (0,8) else ((h.1*10000%4294967296+t.1)%4294967296,0)
def ppF (s:List UInt8):Nat×Int:=
  if sufB s [37]=false then (0,5)
  else if ((cutSuf s [37]).takeWhile (notB 46)).length<(cutSuf s [37]).length then
    ppFin (wholeF ((cutSuf s [37]).takeWhile (notB 46))) ((pnF (runesL ((cutSuf s [37]).drop (((cutSuf s [37]).takeWhile (notB 46)).length+1)) 0) 4).1,
      (pnF (runesL ((cutSuf s [37]).drop (((cutSuf s [37]).takeWhile (notB 46)).length+1)) 0) 4).2&&!sufB ((cutSuf s [37]).drop (((cutSuf s [37]).takeWhile (notB 46)).length+1)) [48])
  else ppFin (wholeF (cutSuf s [37])) (0,true)
def pprV (b:List UInt8) (d:Nat):Nat:=frU b d*10000+frU (b.drop (d+1)) 4
def pprB (s b:List UInt8) (d:Nat):Nat×Int:=
  if (b.take d).all isDig=false∨(b.drop (d+1)).all isDig=false then (0,5)
  else if (d<b.length∧(b.length - 1 - d<1∨4<b.length - 1 - d∨byt s (b.length - 1)=48))∨d=0∨(byt s 0=48∧1<d) then (0,5)
  else if 3<d then (0,8)
  else if 1000000<pprV b d then (0,8) else (pprV b d,0)
def pprF (s:List UInt8):Nat×Int:=
  if s.length<2∨byt s (s.length - 1)≠37 then (0,5)
  else pprB s (s.take (s.length - 1)) ((s.take (s.length - 1)).takeWhile (notB 46)).length
theorem frU_undec (l:List UInt8): ∀i,i≤l.length→frU l i=undec (l.take i)
  |0,_=>by rw [frU,List.take_zero];rfl
  |i+1,h=>by
    have g:i<l.length:=by omega
    rw [frU,frU_undec l i (by omega),dgt_in g,List.take_succ_eq_append_getElem g,undec_snoc]
theorem frU_pad (l:List UInt8): ∀j,frU l (l.length+j)=undec l*10^j
  |0=>by rw [Nat.add_zero,frU_undec l _ (Nat.le_refl _),List.take_length];simp
  |j+1=>by
    rw [←Nat.add_assoc,frU,frU_pad l j,dgt_out (by omega),Nat.pow_succ]
    rw [Nat.add_zero,Nat.mul_comm 10,Nat.mul_assoc]
theorem sufB_one (s:List UInt8) (c:UInt8):sufB s [c]=true↔0<s.length∧byt s (s.length - 1)=c.toNat:=by
  unfold sufB
  rw [Bool.and_eq_true,decide_eq_true_iff,List.length_singleton,beq_iff_eq]
  constructor
  · rintro ⟨h1,h2⟩
    refine ⟨h1,?_⟩
    have g:s.length - 1<s.length:=by omega
    rw [List.drop_eq_getElem_cons g] at h2
    injection h2 with h2 _
    rw [byt_at g,h2]
  · rintro ⟨h1,h2⟩
    refine ⟨h1,?_⟩
    have g:s.length - 1<s.length:=by omega
    rw [byt_at g] at h2
    rw [List.drop_eq_getElem_cons g,UInt8.toNat_inj.1 h2,List.drop_eq_nil_of_le (by omega)]
theorem okDec_iff (h:List UInt8):okDec h=true↔h≠[]∧h.all isDig=true∧ ¬(byt h 0=48∧1<h.length):=by
  unfold okDec
  cases h with
  |nil=>simp
  |cons a t=>
    have e:byt (a::t) 0=a.toNat:=rfl
    rw [e]
    have q:(a !=48)=true↔a.toNat≠48:=by
      rw [bne_iff_ne]
      constructor
      · intro h1 h2
        exact h1 (UInt8.toNat_inj.1 h2)
      · intro h1 h2
        exact h1 (by rw [h2];rfl)
    rw [Bool.and_eq_true,Bool.and_eq_true,Bool.or_eq_true,List.headD_cons,q,beq_iff_eq]
    simp only [List.isEmpty_cons,Bool.not_false,true_and,List.length_cons]
    constructor
    · rintro ⟨h1,h2⟩
      exact ⟨by simp,h1,by omega⟩
    · rintro ⟨_,h1,h2⟩
      exact ⟨h1,by omega⟩
theorem wholeF_bad (h:List UInt8) (hh:okDec h=false):wholeF h=(0,false):=by
  unfold wholeF
  rw [hh,if_neg (by decide)]
theorem wholeF_far (h:List UInt8) (hh:okDec h=true) (hl:3<h.length):wholeF h=(101,true):=by
  have:=(okDec_iff h).1 hh
  unfold wholeF
  rw [if_pos hh,runesL_digs h h.length 0 (by omega) (by omega) this.2.1,if_pos (by omega)]
theorem wholeF_ok (h:List UInt8) (hh:okDec h=true) (hl: ¬3<h.length):wholeF h=(min (undec h) 101,true):=by
  have:=(okDec_iff h).1 hh
  unfold wholeF
  rw [if_pos hh,runesL_digs h h.length 0 (by omega) (by omega) this.2.1,if_neg (by omega),pnF_ok h h.length this.2.1 this.1 (Nat.le_refl _) (by omega),Nat.sub_self]
  simp
theorem takeB_len (s:List UInt8) (c:UInt8):(s.takeWhile (notB c)).length≤s.length:=(List.takeWhile_prefix _).length_le
theorem pprB_eq (s b:List UInt8) (hb:b=s.take (s.length - 1)) (h2:2≤s.length):
    (if (b.takeWhile (notB 46)).length<b.length then ppFin (wholeF (b.takeWhile (notB 46))) ((pnF (runesL (b.drop ((b.takeWhile (notB 46)).length+1)) 0) 4).1,(pnF (runesL (b.drop ((b.takeWhile (notB 46)).length+1)) 0) 4).2&&!sufB (b.drop ((b.takeWhile (notB 46)).length+1)) [48])
     else ppFin (wholeF b) (0,true))=pprB s b (b.takeWhile (notB 46)).length:=by
  have bl:b.length=s.length - 1:=by rw [hb,List.length_take];omega
  have tw:=takeB_tw 46 b
  have tl:=takeB_len b 46
  have b0:byt b 0=byt s 0:=by rw [hb];exact byt_take (by omega)
  have bn:byt b (b.length - 1)=byt s (b.length - 1):=by
    have e:b.length - 1<s.length - 1:=by omega
    have:=byt_take (s:=s) (j:=s.length - 1) (q:=b.length - 1) e
    rw [←hb] at this
    exact this
  clear hb
  obtain ⟨d,hd⟩: ∃d,d=(b.takeWhile (notB 46)).length:=⟨_,rfl⟩
  rw [←hd] at tw tl ⊢
  rw [←tw]
  clear hd tw
  have tkl:(b.take d).length=d:=by rw [List.length_take];omega
  have dl:(b.drop (d+1)).length=b.length - (d+1):=List.length_drop
  have t0:0<d→byt (b.take d) 0=byt s 0:=fun h=>by rw [byt_take h,b0]
  have dn:d+1<b.length→byt (b.drop (d+1)) ((b.drop (d+1)).length - 1)=byt s (b.length - 1):=fun h=>by
    rw [byt_drop,dl,show d+1+(b.length - (d+1) - 1)=b.length - 1 by omega,bn]
  have v1:=frU_undec b d tl
  have ok:=okDec_iff (b.take d)
  have ne:b.take d≠[]↔0<d:=by
    rw [Ne,←List.length_eq_zero_iff,tkl];omega
  rw [ne,tkl] at ok
  unfold pprB pprV
  rw [v1]
  have WB:=wholeF_bad (b.take d)
  have WF:=wholeF_far (b.take d)
  have WO:=wholeF_ok (b.take d)
  rw [tkl] at WF WO
  have tot:b.take d=b∨d<b.length:=by
    by_cases g:d<b.length
    · exact .inr g
    · left
      rw [List.take_of_length_le (by omega)]
  have V4:(b.drop (d+1)).all isDig=true→(b.drop (d+1)).length≤4→frU (b.drop (d+1)) 4=undec (b.drop (d+1))*10^(4 - (b.drop (d+1)).length)∧frU (b.drop (d+1)) 4<10000:=fun h h'=>by
    refine ⟨?_,?_⟩
    · have:=frU_pad (b.drop (d+1)) (4 - (b.drop (d+1)).length)
      rw [←this]
      congr 1
      omega
    · refine frU_lt _ (fun i=>?_) 4
      by_cases e:b.drop (d+1)=[]
      · rw [dgt_out (by rw [e];simp)]
        omega
      · refine dgs_dgt ?_ i
        unfold dgsF
        rw [h,Bool.true_and,decide_eq_true_iff]
        exact List.length_pos_iff.2 e
  have u3:okDec (b.take d)=true→ ¬3<d→undec (b.take d)<1000:=fun h h'=>by
    have:=undec_lt (b.take d) (ok.1 h).2.1
    rw [tkl] at this
    exact Nat.lt_of_lt_of_le this (show 10^d≤1000 from by
      obtain rfl|rfl|rfl|rfl:d=0∨d=1∨d=2∨d=3:=by omega
      all_goals decide)
  have PB:=pnF_bad (b.drop (d+1)) 4
  have PO:=pnF_ok (b.drop (d+1)) 4
  have SB:=sufB_one (b.drop (d+1)) 48
  rw [show (48:UInt8).toNat=48 from rfl] at SB
  rw [dl] at SB PB PO V4
  by_cases g:d<b.length
  · rw [if_pos g]
    clear tot
    cases ha:(b.take d).all isDig
    · have:okDec (b.take d)=false:=by
        cases hk:okDec (b.take d)
        · rfl
        · have:=(ok.1 hk).2.1
          rw [ha] at this;cases this
      rw [WB this,if_pos (.inl rfl)]
      rfl
    cases hb2:(b.drop (d+1)).all isDig
    · rw [PB (.inl hb2),if_pos (.inr rfl)]
      unfold ppFin
      rw [if_pos (.inr rfl)]
    rw [if_neg (by rintro (h|h)<;>cases h)]
    rw [hb2] at V4 PO
    have bad:((pnF (runesL (b.drop (d+1)) 0) 4).2&&!sufB (b.drop (d+1)) [48])=false↔(b.length - 1 - d<1∨4<b.length - 1 - d∨byt s (b.length - 1)=48):=by
      by_cases e1:b.length - (d+1)=0
      · have:b.drop (d+1)=[]:=List.eq_nil_of_length_eq_zero (by rw [dl];exact e1)
        rw [PB (.inr (.inl this))]
        simp only [Bool.false_and,true_iff]
        left;omega
      by_cases e2:4<b.length - (d+1)
      · rw [PB (.inr (.inr e2))]
        simp only [Bool.false_and,true_iff]
        right;left;omega
      rw [PO rfl (fun e=>e1 (by rw [←dl,e];rfl)) (by omega) (by omega)]
      simp only [Bool.true_and]
      have dn:=dn (by omega)
      rw [dl] at dn
      rw [dn] at SB
      cases hs:sufB (b.drop (d+1)) [48]
      · simp only [Bool.not_false]
        constructor
        · intro h;cases h
        · rintro (h|h|h)
          · omega
          · omega
          · have:=SB.2 ⟨by omega,h⟩
            rw [hs] at this;cases this
      · simp only [Bool.not_true,true_iff]
        have:=SB.1 hs
        omega
    by_cases c1:((d<b.length∧(b.length - 1 - d<1∨4<b.length - 1 - d∨byt s (b.length - 1)=48))∨d=0∨(byt s 0=48∧1<d))
    · rw [if_pos c1]
      unfold ppFin
      rw [if_pos]
      rcases c1 with ⟨_,h⟩|h|⟨h,h'⟩
      · right;exact bad.2 h
      · left
        rw [WB]
        cases hk:okDec (b.take d)
        · rfl
        · have:=(ok.1 hk).1;omega
      · left
        rw [WB]
        cases hk:okDec (b.take d)
        · rfl
        · have:=(ok.1 hk).2.2
          rw [t0 (by omega)] at this
          exact absurd ⟨h,h'⟩ this
    rw [if_neg c1]
    have hd0:0<d:=by omega
    have hk:okDec (b.take d)=true:=ok.2 ⟨hd0,ha,by rw [t0 hd0];omega⟩
    have hg: ¬(b.length - 1 - d<1∨4<b.length - 1 - d∨byt s (b.length - 1)=48):=fun h=>c1 (.inl ⟨g,h⟩)
    have ht:((pnF (runesL (b.drop (d+1)) 0) 4).2&&!sufB (b.drop (d+1)) [48])=true:=by
      cases hq:((pnF (runesL (b.drop (d+1)) 0) 4).2&&!sufB (b.drop (d+1)) [48])
      · exact absurd (bad.1 hq) hg
      · rfl
    rw [ht]
    have v4:=V4 rfl (by omega)
    have ne2:b.drop (d+1)≠[]:=fun e=>by
      have:(b.drop (d+1)).length=0:=by rw [e];rfl
      omega
    rw [PO rfl ne2 (by omega) (by omega),←v4.1]
    have v5:=v4.2
    generalize frU (b.drop (d+1)) 4=m at *
    by_cases c3:3<d
    · rw [WF hk c3,if_pos c3]
      rfl
    · rw [WO hk c3,if_neg c3]
      have u3:=u3 hk c3
      generalize undec (b.take d)=q at *
      unfold ppFin
      dsimp only
      rw [if_neg (by rintro (h|h)<;>cases h)]
      by_cases c4:1000000<q*10000+m
      · rw [if_pos c4,if_pos (by omega)]
      · rw [if_neg c4,if_neg (by omega),show min q 101=q by omega,Nat.mod_eq_of_lt (show q*10000<4294967296 by omega),Nat.mod_eq_of_lt (by omega)]
  · rw [if_neg g]
    have tot:b.take d=b:=by
      rcases tot with h|h
      · exact h
      · exact absurd h g
    have dnil:b.drop (d+1)=[]:=List.drop_eq_nil_of_le (by omega)
    rw [dnil] at V4 ⊢
    have m0:frU ([]:List UInt8) 4=0:=by decide
    rw [m0,Nat.add_zero]
    rw [tot] at ok WB WF WO u3 ⊢
    cases ha:b.all isDig
    · have:okDec b=false:=by
        cases hk:okDec b
        · rfl
        · have:=(ok.1 hk).2.1
          rw [ha] at this;cases this
      rw [WB this,if_pos (.inl rfl)]
      rfl
    rw [if_neg (by rintro (h|h);cases h;exact absurd h (by decide))]
    by_cases c1:((d<b.length∧(b.length - 1 - d<1∨4<b.length - 1 - d∨byt s (b.length - 1)=48))∨d=0∨(byt s 0=48∧1<d))
    · rw [if_pos c1]
      unfold ppFin
      rw [if_pos]
      left
      rcases c1 with ⟨h,_⟩|h|⟨h,h'⟩
      · exact absurd h g
      · rw [WB]
        cases hk:okDec b
        · rfl
        · have:=(ok.1 hk).1;omega
      · rw [WB]
        cases hk:okDec b
        · rfl
        · have:=(ok.1 hk).2.2
          rw [b0] at this
          exact absurd ⟨h,h'⟩ this
    rw [if_neg c1]
    have hd0:0<d:=by omega
    have hk:okDec b=true:=ok.2 ⟨hd0,ha,by rw [b0];omega⟩
    by_cases c3:3<d
    · rw [WF hk c3,if_pos c3]
      rfl
    · rw [WO hk c3,if_neg c3]
      have u3:=u3 hk c3
      generalize undec b=q at *
      unfold ppFin
      dsimp only
      rw [if_neg (by rintro (h|h)<;>cases h)]
      by_cases c4:1000000<q*10000
      · rw [if_pos c4,if_pos (by omega)]
      · rw [if_neg c4,if_neg (by omega),show min q 101=q by omega,Nat.mod_eq_of_lt (show q*10000<4294967296 by omega),Nat.add_zero,Nat.mod_eq_of_lt (by omega)]
theorem ppF_eq (s:List UInt8):ppF s=pprF s:=by
  unfold ppF pprF
  have S:=sufB_one s 37
  rw [show (37:UInt8).toNat=37 from rfl] at S
  cases hs:sufB s [37]
  · rw [if_pos rfl,if_pos]
    by_cases h:s.length<2
    · exact .inl h
    · right
      intro e
      have:=S.2 ⟨by omega,e⟩
      rw [hs] at this
      cases this
  · rw [if_neg (by decide)]
    have h:=S.1 hs
    have hc:cutSuf s [37]=s.take (s.length - 1):=by
      unfold cutSuf
      rw [if_pos hs]
      rfl
    rw [hc]
    by_cases h2:s.length<2
    · rw [if_pos (show s.length<2∨byt s (s.length - 1)≠37 from .inl h2)]
      have e:s.take (s.length - 1)=[]:=by rw [show s.length - 1=0 by omega,List.take_zero]
      rw [e]
      decide
    · rw [if_neg (show ¬(s.length<2∨byt s (s.length - 1)≠37) from by rintro (h'|h');exact h2 h';exact h' h.2)]
      exact pprB_eq s _ rfl (by omega)
open Go.Proofs
theorem cutSuf_le (s t:List UInt8):(cutSuf s t).length≤s.length:=by
 unfold cutSuf
 split
 ·rw [List.length_take];omega
 ·exact Nat.le_refl _
theorem ppread_spec (s:List UInt8) (hl:s.length≤1000000):Sp Tryz.prog gl 58 [.str s] (.tup [.int .u32 (ppF s).1,i6 (ppF s).2]):=by
 refine s58 rfl rfl ?_
 have CS:=cutSuf_spec s [37] hl (by simp)
 have bl:=cutSuf_le s [37]
 unfold ppF
 generalize cutSuf s [37]=b at *
 have hb:b.length≤1000000:=by omega
 cases hs:sufB s [37]
 ·rw [hs] at CS
  rw [if_pos rfl]
  clear bl
  simp -implicitDefEqProofs [c58]
  refine onC_mk _ (CS) ?_
  simp -implicitDefEqProofs
 rw [hs] at CS
 rw [if_neg (by decide)]
 have CB:=cutBy_spec 46 b hb
 unfold cutBV at CB
 by_cases g:(b.takeWhile (notB 46)).length<b.length
 ·rw [if_pos g] at CB ⊢
  have W:=whole_spec (b.takeWhile (notB 46)) (by omega)
  have PN:=pnumber_spec (b.drop ((b.takeWhile (notB 46)).length+1)) (by rw [List.length_drop];omega) 4 (by omega)
  have HS:=hasSufP_spec (b.drop ((b.takeWhile (notB 46)).length+1)) [48] (by rw [List.length_drop];omega) (by simp)
  clear g hb bl hs
  generalize b.drop ((b.takeWhile (notB 46)).length+1)=tl at *
  generalize b.takeWhile (notB 46)=hd at *
  generalize wholeF hd=wh at *
  generalize pnF (runesL tl 0) 4=q at *
  generalize sufB tl [48]=sb at *
  obtain ⟨n,o⟩:=wh
  obtain ⟨m,i⟩:=q
  unfold ppFin
  dsimp only at W PN ⊢
  cases o
  ·rw [if_pos (.inl rfl)]
   cases i
   ·simp [c58]
    refine onC_mk _ (CS) ?_
    simp -implicitDefEqProofs
    refine onC_mk _ (CB) ?_
    simp -implicitDefEqProofs
    refine onC_mk _ (W) ?_
    simp -implicitDefEqProofs
    refine onC_mk _ (PN) ?_
    simp -implicitDefEqProofs
   ·simp [c58]
    refine onC_mk _ (CS) ?_
    simp -implicitDefEqProofs
    refine onC_mk _ (CB) ?_
    simp -implicitDefEqProofs
    refine onC_mk _ (W) ?_
    simp -implicitDefEqProofs
    refine onC_mk _ (PN) ?_
    simp -implicitDefEqProofs
    refine onC_mk _ (HS) ?_
    simp -implicitDefEqProofs
  cases i
  ·rw [if_pos (.inr rfl)]
   simp -implicitDefEqProofs [c58]
   refine onC_mk _ (CS) ?_
   simp -implicitDefEqProofs
   refine onC_mk _ (CB) ?_
   simp -implicitDefEqProofs
   refine onC_mk _ (W) ?_
   simp -implicitDefEqProofs
   refine onC_mk _ (PN) ?_
   simp -implicitDefEqProofs
  cases sb
  rotate_left
  ·rw [if_pos (.inr rfl)]
   simp -implicitDefEqProofs [c58]
   refine onC_mk _ (CS) ?_
   simp -implicitDefEqProofs
   refine onC_mk _ (CB) ?_
   simp -implicitDefEqProofs
   refine onC_mk _ (W) ?_
   simp -implicitDefEqProofs
   refine onC_mk _ (PN) ?_
   simp -implicitDefEqProofs
   refine onC_mk _ (HS) ?_
   simp -implicitDefEqProofs
  rw [if_neg (by rintro (h|h)<;>cases h)]
  have w1:IntKind.u32.wrap ((n:Int)*10000)=((n*10000%4294967296:Nat):Int):=by
   rw [wrap_u32m]
   omega
  have w2:IntKind.u32.wrap (((n*10000%4294967296:Nat):Int)+(m:Int))=(((n*10000%4294967296+m)%4294967296:Nat):Int):=by
   rw [wrap_u32m]
   omega
  generalize (n*10000%4294967296+m)%4294967296=z at *
  generalize ((n*10000%4294967296:Nat):Int)=y at *
  by_cases c1:100<n
  ·have c1':(100:Int)<n:=by omega
   rw [if_pos (.inl c1)]
   simp -implicitDefEqProofs [c58]
   refine onC_mk _ (CS) ?_
   simp -implicitDefEqProofs
   refine onC_mk _ (CB) ?_
   simp -implicitDefEqProofs
   refine onC_mk _ (W) ?_
   simp -implicitDefEqProofs
   refine onC_mk _ (PN) ?_
   simp -implicitDefEqProofs
   refine onC_mk _ (HS) ?_
   simp -implicitDefEqProofs [c1,c1']
  have c1': ¬(100:Int)<n:=by omega
  by_cases c2:n=100
  ·subst c2
   have w1':IntKind.u32.wrap 1000000=y:=by rw [←w1];rfl
   by_cases c3:0<m
   ·have c3':(0:Int)<m:=by omega
    rw [if_pos (.inr ⟨rfl,c3⟩)]
    simp -implicitDefEqProofs [c58]
    refine onC_mk _ (CS) ?_
    simp -implicitDefEqProofs
    refine onC_mk _ (CB) ?_
    simp -implicitDefEqProofs
    refine onC_mk _ (W) ?_
    simp -implicitDefEqProofs
    refine onC_mk _ (PN) ?_
    simp -implicitDefEqProofs
    refine onC_mk _ (HS) ?_
    simp -implicitDefEqProofs [c3,c3']
   ·have c3': ¬(0:Int)<m:=by omega
    rw [if_neg (by omega)]
    simp -implicitDefEqProofs [c58]
    refine onC_mk _ (CS) ?_
    simp -implicitDefEqProofs
    refine onC_mk _ (CB) ?_
    simp -implicitDefEqProofs
    refine onC_mk _ (W) ?_
    simp -implicitDefEqProofs
    refine onC_mk _ (PN) ?_
    simp -implicitDefEqProofs
    refine onC_mk _ (HS) ?_
    simp -implicitDefEqProofs [c3,c3',w1',w2]
  ·have c2':((n:Int)==100)=false:=beq_eq_false_iff_ne.2 (by omega)
   rw [if_neg (by omega)]
   simp -implicitDefEqProofs [c58]
   refine onC_mk _ (CS) ?_
   simp -implicitDefEqProofs
   refine onC_mk _ (CB) ?_
   simp -implicitDefEqProofs
   refine onC_mk _ (W) ?_
   simp -implicitDefEqProofs
   refine onC_mk _ (PN) ?_
   simp -implicitDefEqProofs
   refine onC_mk _ (HS) ?_
   simp -implicitDefEqProofs [c1,c1',c2,c2',w1,w2]
 ·rw [if_neg g] at CB ⊢
  have W:=whole_spec b hb
  clear g hb bl hs
  generalize wholeF b=wh at *
  obtain ⟨n,o⟩:=wh
  unfold ppFin
  dsimp only at W ⊢
  cases o
  ·rw [if_pos (.inl rfl)]
   simp -implicitDefEqProofs [c58]
   refine onC_mk _ (CS) ?_
   simp -implicitDefEqProofs
   refine onC_mk _ (CB) ?_
   simp -implicitDefEqProofs
   refine onC_mk _ (W) ?_
   simp -implicitDefEqProofs
  rw [if_neg (by rintro (h|h)<;>cases h)]
  have w1:IntKind.u32.wrap ((n:Int)*10000)=((n*10000%4294967296:Nat):Int):=by
   rw [wrap_u32m]
   omega
  have w2:IntKind.u32.wrap ((n*10000%4294967296:Nat):Int)=(((n*10000%4294967296+0)%4294967296:Nat):Int):=by
   rw [wrap_u32m]
   omega
  generalize (n*10000%4294967296+0)%4294967296=z at *
  generalize ((n*10000%4294967296:Nat):Int)=y at *
  by_cases c1:100<n
  ·have c1':(100:Int)<n:=by omega
   rw [if_pos (.inl c1)]
   simp -implicitDefEqProofs [c58]
   refine onC_mk _ (CS) ?_
   simp -implicitDefEqProofs
   refine onC_mk _ (CB) ?_
   simp -implicitDefEqProofs
   refine onC_mk _ (W) ?_
   simp -implicitDefEqProofs [c1,c1']
  have c1': ¬(100:Int)<n:=by omega
  rw [if_neg (by omega)]
  by_cases c2:n=100
  ·subst c2
   have w1':IntKind.u32.wrap 1000000=y:=by rw [←w1];rfl
   simp -implicitDefEqProofs [c58]
   refine onC_mk _ (CS) ?_
   simp -implicitDefEqProofs
   refine onC_mk _ (CB) ?_
   simp -implicitDefEqProofs
   refine onC_mk _ (W) ?_
   simp -implicitDefEqProofs [w1',w2]
  ·have c2':((n:Int)==100)=false:=beq_eq_false_iff_ne.2 (by omega)
   simp -implicitDefEqProofs [c58]
   refine onC_mk _ (CS) ?_
   simp -implicitDefEqProofs
   refine onC_mk _ (CB) ?_
   simp -implicitDefEqProofs
   refine onC_mk _ (W) ?_
   simp -implicitDefEqProofs [c1,c1',c2,c2',w1,w2]
open Go.Proofs
def hasB (c:UInt8) (s:List UInt8):Bool:=decide ((s.takeWhile (notB c)).length<s.length)
theorem cidx_spec (s:List UInt8):Sp Tryz.prog gl 79 [.str s,.str [46]] (i6 (Lib.indexByte s 46)):=by
 refine s79 rfl rfl ?_
 have IX:=idxB_spec s 46
 generalize Lib.indexByte s 46=k at *
 simp -implicitDefEqProofs [c79]
 refine onC_mk _ (IX) ?_
 simp -implicitDefEqProofs
theorem ccon_spec (s:List UInt8):Sp Tryz.prog gl 59 [.str s,.str [46]] (.bool (hasB 46 s)):=by
 refine s59 rfl rfl ?_
 have IX:=cidx_spec s
 have e:=ibB_line 46 s
 have hb:hasB 46 s=decide (0≤Lib.indexByte s 46):=by
  unfold hasB
  rw [e]
  split
  ·rename_i h
   rw [decide_eq_true h,decide_eq_true (by omega)]
  ·rename_i h
   rw [decide_eq_false h,decide_eq_false (by omega)]
 rw [hb]
 clear hb e
 generalize Lib.indexByte s 46=k at *
 simp -implicitDefEqProofs [c59]
 refine onC_mk _ (IX) ?_
 simp -implicitDefEqProofs
theorem ppF_lt (s:List UInt8):(ppF s).1<4294967296:=by
 have h: ∀a b,(ppFin a b).1<4294967296:=fun a b=>by
  unfold ppFin
  split
  ·simp
  ·split
   ·simp
   ·exact Nat.mod_lt _ (by decide)
 unfold ppF
 split
 ·simp
 ·split
  ·exact h _ _
  ·exact h _ _
theorem spR_le: ∀(l:List UInt8) (dg:Bool) (n la sm:Nat) (fr:Bool),sm≤253402300799→(spR l dg n la sm fr).1≤253402300799
 |[],dg,n,la,sm,fr,h=>by
  rw [spR]
  split
  ·simp
  ·split
   ·simp
   ·exact h
 |c::l,dg,n,la,sm,fr,h=>by
  rw [spR]
  split
  ·exact spR_le l _ _ _ _ _ h
  ·split
   ·simp
   ·split
    ·exact spR_le l _ _ _ _ _ h
    ·split
     ·exact spR_le l _ _ _ _ _ (by omega)
     ·exact spR_le l _ _ _ _ _ (by omega)
theorem spanU_le (s:List UInt8):(spanU s).1≤253402300799:=by
 rw [spanU_eq]
 unfold spanR
 split
 ·simp
 ·exact spR_le _ _ _ _ _ _ (by omega)
theorem tvA_shut (v:TV):shut v.av=some v.av:=by cases v<;>simp [TV.av]
def vR (w:List UInt8):Int:=if w=[] then 32 else r65 (stepR w 0).1
def sV (w:List UInt8):TV:=
 if digR (vR w)=false then (if nameT w=true then .t 1 w 0 else .e 5)
 else if w.all isDig=true then toldV 3 (numF w)
 else if sufB w [37]=true then toldV 5 (ppF w)
 else if hasB 46 w=true then toldV 4 (facF (w.takeWhile (notB 46)) (w.drop ((w.takeWhile (notB 46)).length+1)))
 else toldV 6 (spanU w)
set_option maxHeartbeats 1000000 in
theorem svalue_spec (w:List UInt8) (hl:w.length≤900000):Sp Tryz.prog gl 37 [.str w] (sV w).av:=by
 refine s37 rfl rfl ?_
 have D:=sdigit_spec (vR w)
 have NM:=tname_spec w hl
 have TR:=trimD_spec w (by omega)
 have TN:=trimD_nil w
 have NU:=snumber_spec w (by omega)
 have HS:=hasSufP_spec w [37] (by omega) (by simp)
 have PP:=ppread_spec w (by omega)
 have CC:=ccon_spec w
 have SP:=sspan_spec w (by omega)
 have FA:=fun h=>sfactor_spec w (by omega) h
 have pl:=ppF_lt w
 have sl:=spanU_le w
 have T5:=stold_spec 5 (ppF w).1 (ppF w).2
 have T6:=stold_spec 6 (spanU w).1 (spanU w).2
 have T3:=stold_spec 3 (numF w).1 0
 have hb:hasB 46 w=true→(w.takeWhile (notB 46)).length<w.length:=fun h=>by unfold hasB at h;exact of_decide_eq_true h
 unfold sV
 generalize toldV 4 (facF (w.takeWhile (notB 46)) (w.drop ((w.takeWhile (notB 46)).length+1)))=f4 at *
 generalize hasB 46 w=has at *
 generalize sufB w [37]=suf at *
 generalize Lib.trimS w [48,49,50,51,52,53,54,55,56,57]=tr at *
 generalize ppF w=q5 at *
 generalize spanU w=q6 at *
 generalize numF w=q3 at *
 generalize nameT w=nm at *
 obtain ⟨n5,e5⟩:=q5
 obtain ⟨n6,e6⟩:=q6
 obtain ⟨n3,e3⟩:=q3
 dsimp only at PP SP T5 T6 T3 pl sl
 have w5:IntKind.u64.wrap (n5:Int)=n5:=by rw [wrap_u64]<;>omega
 have w6:IntKind.u64.wrap (n6:Int)=n6:=by rw [wrap_u64]<;>omega
 obtain ⟨R,hR⟩: ∃R:TV,R=if digR (vR w)=false then (if nm=true then .t 1 w 0 else .e 5)
  else if w.all isDig=true then toldV 3 (n3,e3)
  else if suf=true then toldV 5 (n5,e5)
  else if has=true then f4
  else toldV 6 (n6,e6):=⟨_,rfl⟩
 rw [←hR]
 have i3w:IntKind.i32.wrap 32=32:=by decide
 simp -implicitDefEqProofs [c37]
 refine wp_lpk (α:=Nat) (fun _=>⟨[(0,.str w),(2,.nili),(3,i3 32),(13,.itp 13)],[(.it 13,[.itr w 0])],[]⟩) (fun _=>True) (fun _=>1) ?_ 0 trivial ?_
 ·rintro K _ hK _
  clear hK
  by_cases e:w=[]
  ·have ev:vR w=32:=if_pos e
   subst e
   rw [ev] at D hR
   rw [show digR 32=false from rfl] at D hR
   rw [if_pos rfl] at hR
   clear T3 T5 T6 FA SP CC PP HS NU TR
   cases nm
   ·rw [if_neg (by decide)] at hR
    subst hR
    unfold TV.av
    simp -implicitDefEqProofs
    refine onC_mk _ (D) ?_
    simp -implicitDefEqProofs
    refine onC_mk _ (NM) ?_
    simp -implicitDefEqProofs
   ·rw [if_pos rfl] at hR
    subst hR
    unfold TV.av
    simp -implicitDefEqProofs
    refine onC_mk _ (D) ?_
    simp -implicitDefEqProofs
    refine onC_mk _ (NM) ?_
    simp -implicitDefEqProofs
    refine onC_mk _ (D) ?_
    simp -implicitDefEqProofs
  have g:0<w.length:=List.length_pos_iff.2 e
  have ev:vR w=r65 (stepR w 0).1:=if_neg e
  have sr:=step_r65 w 0 g
  rw [←ev] at sr
  clear ev
  generalize vR w=r at *
  generalize (stepR w 0).2=wd at *
  cases hd:digR r
  ·rw [hd] at D hR
   rw [if_pos rfl] at hR
   clear T3 T5 T6 FA SP CC PP HS NU TR
   cases nm
   ·rw [if_neg (by decide)] at hR
    subst hR
    unfold TV.av
    simp -implicitDefEqProofs [g,sr]
    refine onC_mk _ (D) ?_
    simp -implicitDefEqProofs
    refine onC_mk _ (NM) ?_
    simp -implicitDefEqProofs
   ·rw [if_pos rfl] at hR
    subst hR
    unfold TV.av
    simp -implicitDefEqProofs [g,sr]
    refine onC_mk _ (D) ?_
    simp -implicitDefEqProofs
    refine onC_mk _ (NM) ?_
    simp -implicitDefEqProofs
    refine onC_mk _ (D) ?_
    simp -implicitDefEqProofs
  rw [hd] at D hR
  rw [if_neg (by decide)] at hR
  clear NM
  cases ha:w.all isDig
  ·rw [ha] at TN hR
   have k1:(tr==[])=false:=TN
   have k2: ¬tr=[]:=fun h=>by rw [h] at TN;cases TN
   have k3:tr.isEmpty=false:=by rw [List.isEmpty_eq_false_iff];exact k2
   rw [if_neg (by decide)] at hR
   clear T3 NU
   cases suf
   ·rw [if_neg (by decide)] at hR
    clear T5 PP
    cases has
    ·rw [if_neg (by decide)] at hR
     subst hR
     have hsh:=tvA_shut (toldV 6 (n6,e6))
     generalize (toldV 6 (n6,e6)).av=out at *
     clear FA
     simp -implicitDefEqProofs [g,sr]
     refine onC_mk _ (D) ?_
     simp -implicitDefEqProofs
     refine onC_mk _ (D) ?_
     simp -implicitDefEqProofs
     refine onC_mk _ (TR) ?_
     simp -implicitDefEqProofs [k1,k2,k3]
     refine onC_mk _ (HS) ?_
     simp -implicitDefEqProofs
     refine onC_mk _ (CC) ?_
     simp -implicitDefEqProofs
     refine onC_mk _ (SP) ?_
     simp -implicitDefEqProofs [w6]
     refine onH_mk _ _ ((T6.h)) ⟨?_,?_,?_,?_,?_,?_,?_⟩ ?_
     iterate 7 (· simp)
     simp -implicitDefEqProofs [hsh]
    ·rw [if_pos rfl] at hR
     subst hR
     have FA:=FA (hb rfl)
     have hsh:=tvA_shut R
     generalize R.av=out at *
     clear T6 SP
     simp -implicitDefEqProofs [g,sr]
     refine onC_mk _ (D) ?_
     simp -implicitDefEqProofs
     refine onC_mk _ (D) ?_
     simp -implicitDefEqProofs
     refine onC_mk _ (TR) ?_
     simp -implicitDefEqProofs [k1,k2,k3]
     refine onC_mk _ (HS) ?_
     simp -implicitDefEqProofs
     refine onC_mk _ (CC) ?_
     simp -implicitDefEqProofs
     refine onH_mk _ _ ((FA.h)) ⟨?_,?_,?_,?_,?_,?_,?_⟩ ?_
     iterate 7 (· simp)
     simp -implicitDefEqProofs [hsh]
   ·rw [if_pos rfl] at hR
    subst hR
    have hsh:=tvA_shut (toldV 5 (n5,e5))
    generalize (toldV 5 (n5,e5)).av=out at *
    clear FA T6 SP CC
    simp -implicitDefEqProofs [g,sr]
    refine onC_mk _ (D) ?_
    simp -implicitDefEqProofs
    refine onC_mk _ (D) ?_
    simp -implicitDefEqProofs
    refine onC_mk _ (TR) ?_
    simp -implicitDefEqProofs [k1,k2,k3]
    refine onC_mk _ (HS) ?_
    simp -implicitDefEqProofs
    refine onC_mk _ (PP) ?_
    simp -implicitDefEqProofs [w5]
    refine onH_mk _ _ ((T5.h)) ⟨?_,?_,?_,?_,?_,?_,?_⟩ ?_
    iterate 7 (· simp)
    simp -implicitDefEqProofs [hsh]
  ·rw [ha] at TN hR
   have k2:tr=[]:=by simpa using TN
   subst k2
   rw [if_pos rfl] at hR
   subst hR
   clear FA T6 SP CC T5 PP HS
   unfold numA at NU
   dsimp only at NU
   by_cases c3:e3=0
   ·subst c3
    rw [if_pos rfl] at NU
    have hsh:=tvA_shut (toldV 3 (n3,0))
    generalize (toldV 3 (n3,0)).av=out at *
    simp -implicitDefEqProofs [g,sr]
    refine onC_mk _ (D) ?_
    simp -implicitDefEqProofs
    refine onC_mk _ (D) ?_
    simp -implicitDefEqProofs
    refine onC_mk _ (TR) ?_
    simp -implicitDefEqProofs
    refine onH_mk _ _ ((NU.h)) ⟨?_,?_,?_,?_,?_,?_,?_⟩ ?_
    iterate 7 (· simp)
    simp -implicitDefEqProofs
    refine onH_mk _ _ ((T3.h)) ⟨?_,?_,?_,?_,?_,?_,?_⟩ ?_
    iterate 7 (· simp)
    simp -implicitDefEqProofs [hsh]
   ·rw [if_neg c3] at NU
    have et:(toldV 3 (n3,e3))= .e e3:=by unfold toldV;rw [if_neg c3]
    rw [et]
    unfold TV.av
    clear T3
    simp -implicitDefEqProofs [g,sr]
    refine onC_mk _ (D) ?_
    simp -implicitDefEqProofs
    refine onC_mk _ (D) ?_
    simp -implicitDefEqProofs
    refine onC_mk _ (TR) ?_
    simp -implicitDefEqProofs
    refine onH_mk _ _ ((NU.h)) ⟨?_,?_,?_,?_,?_,?_,?_⟩ ?_
    iterate 7 (· simp)
    simp -implicitDefEqProofs
    refine onH_mk _ _ ((NU.h)) ⟨?_,?_,?_,?_,?_,?_,?_⟩ ?_
    iterate 7 (· simp)
    simp -implicitDefEqProofs
 ·refine weak_mk ?_ ?_ ?_ ?_ ?_ ?_<;>simp -implicitDefEqProofs
open Go.Proofs
end Go.Ai
namespace Go.Ai
open Go.Proofs
def wdR (s:List UInt8):TV:=
 if dgsF s=true then toldV 3 (numF s)
 else if byt s (s.length - 1)=37 then toldV 5 (pprF s)
 else if hasB 46 s=true then toldV 4 (facF (s.takeWhile (notB 46)) (s.drop ((s.takeWhile (notB 46)).length+1)))
 else toldV 6 (spanR s)
def rV (m:List Int):TV:=
 if m=[]∨digR (m.headD 0)=false then (if nameT (textR m)=true then .t 1 (textR m) 0 else .e 5)
 else wdR (textR m)
end Go.Ai
