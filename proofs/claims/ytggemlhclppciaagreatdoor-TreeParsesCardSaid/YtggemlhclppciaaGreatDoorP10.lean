/- P10: a part of the proof: the rules, or what functions compute. Conditions: as each theorem says. -/
import Derived.Test.YtggemlhclppciaaGreatDoorP9
import Derived.Test.YtggemlhclppciaaGreatDoorP6
import Derived.Test.YtggemlhclppciaaGreatDoorP3
import Derived.Test.YtggemlhclppciaaGreatDoorP7
import Derived.Test.YtggemlhclppciaaGreatDoorP2
import Derived.Test.YtggemlhclppciaaGreatDoorLib10
import Derived.Test.YtggemlhclppciaaGreatDoorP1
import Derived.Lib.TrimUEq
import Derived.Lib.ValidU
import Derived.Lib.MapLaws
set_option linter.unusedSimpArgs false
set_option linter.unusedVariables false
set_option maxRecDepth 20000
namespace Go.Ai
open Go.Proofs
def wdR (s:List UInt8):TV:=
 if dgsF s=true then toldV 3 (numF s)
 else if byt s (s.length - 1)=37 then toldV 5 (pprF s)
 else if hasB 46 s=true then toldV 4 (facF (s.takeWhile (notB 46)) (s.drop ((s.takeWhile (notB 46)).length+1)))
 else toldV 6 (spanR s)
def rV (m:List Int):TV:=
 if m=[]∨digR (m.headD 0)=false then (if nameT (textR m)=true then .t 1 (textR m) 0 else .e 5)
 else wdR (textR m)
theorem toldV_rs (k:Int) (q:Nat×Int):(toldV k q).rs=if q.2=0 then .tup [.agg [i6 k,.str [],u q.1,i6 0,i6 0],i6 0] else .tup [.agg [i6 0,.str [],u 0,i6 0,i6 0],i6 q.2]:=by
 unfold toldV
 split<;>rfl
theorem pprF_lt (s:List UInt8):(pprF s).1<4294967296:=by rw [←ppF_eq];exact ppF_lt s
theorem spanR_lt (s:List UInt8):(spanR s).1≤253402300799:=by rw [←spanU_eq];exact spanU_le s
set_option maxHeartbeats 1000000 in
theorem rvalue_spec (m:List Int) (hm:m.length≤100000) (hr: ∀r∈m,r≤1114111):Sp Tryz.prog gl 116 [.sl (runeRows m)] (rV m).rs:=by
 refine s116 rfl rfl ?_
 have rl:=runeRows_len m
 have rat:=runeRows_at m
 have TX:=rtext_spec m (by omega) hr
 have tl:=textR_len m
 have NM:=rname_spec (textR m) (by omega)
 have DG:=rdigits_spec (textR m) (by omega)
 have NU:=rnumber_spec (textR m) (by omega)
 have PP:=rppread_spec (textR m) (by omega)
 have SP:=rspan_spec (textR m) (by omega)
 have FA:=fun h1 h2 h3=>rfactor_spec (textR m) (by omega) ((textR m).takeWhile (notB 46)).length h1 h2 h3
 have tat:=twB_at 46 (textR m)
 have tne:=twB_ne 46 (textR m)
 have tle:=takeB_len (textR m) 46
 have ttk:=takeB_tw 46 (textR m)
 have pl:=pprF_lt (textR m)
 have sl:=spanR_lt (textR m)
 rw [ttk] at FA
 have tpos:m≠[]→0<(textR m).length:=fun h=>by
  cases m with
  |nil=>exact absurd rfl h
  |cons r t=>
   rw [textR,List.length_append]
   have:=encR_pos r
   omega
 have en:(runeRows m=[])↔m=[]:=by
  rw [←List.length_eq_zero_iff,rl,List.length_eq_zero_iff]
 obtain ⟨RV,hRV⟩: ∃RV,RV=(wdR (textR m)).rs:=⟨_,rfl⟩
 unfold rV
 unfold wdR hasB at hRV
 generalize textR m=s at *
 generalize hd:(s.takeWhile (notB 46)).length=d at *
 obtain ⟨hdl,hdl'⟩: ∃x,x=s.takeWhile (notB 46):=⟨_,rfl⟩
 rw [←hdl'] at FA hRV ttk
 generalize runeRows m=RR at *
 have name: ∀(b:Bool),(if b=true then TV.t 1 s 0 else .e 5).rs=if b=true then .tup [.agg [i6 1,.str s,u 0,i6 0,i6 0],i6 0] else .tup [.agg [i6 0,.str [],u 0,i6 0,i6 0],i6 5]:=fun b=>by cases b<;>rfl
 by_cases m0:m=[]
 ·have l0:m.length=0:=by rw [m0];rfl
  have l0':(m.length:Int)=0:=by omega
  have l0'':((m.length:Int)==0)=true:=by rw [beq_iff_eq];exact l0'
  rw [if_pos (Or.inl m0),name]
  clear hRV FA SP PP NU DG name
  cases hn:nameT s
  ·rw [hn] at NM
   rw [if_neg (by decide)]
   simp -implicitDefEqProofs [c116]
   refine onC_mk _ (TX) ?_
   simp -implicitDefEqProofs [rl,l0,l0',l0'']
   refine onC_mk _ (NM) ?_
   simp -implicitDefEqProofs
  ·rw [hn] at NM
   rw [if_pos rfl]
   simp -implicitDefEqProofs [c116]
   refine onC_mk _ (TX) ?_
   simp -implicitDefEqProofs [rl,l0,l0',l0'']
   refine onC_mk _ (NM) ?_
   simp -implicitDefEqProofs
 have l0:0<m.length:=List.length_pos_iff.2 m0
 have l0': ¬(m.length:Int)=0:=by omega
 have l0'':((m.length:Int)==0)=false:=beq_eq_false_iff_ne.2 l0'
 have lR:0<RR.length:=by omega
 have ra:=rat 0 l0 lR
 have hh:m.headD 0=m[0]:=by
  cases m with
  |nil=>exact absurd rfl m0
  |cons a t=>rfl
 have RD:=rdigit13_spec m[0]
 rw [hh]
 have sp0:=tpos m0
 clear tpos hh en rat
 have ra':RR[0]?=some [i3 m[0]]:=by rw [List.getElem?_eq_getElem lR,ra]
 generalize m[0]=r0 at *
 have ne0: ¬m.length=0:=by omega
 cases hdg:digR r0
 ·rw [hdg] at RD
  rw [if_pos (Or.inr rfl),name]
  clear hRV FA SP PP NU DG name
  cases hn:nameT s
  ·rw [hn] at NM
   rw [if_neg (by decide)]
   simp -implicitDefEqProofs [c116]
   refine onC_mk _ (TX) ?_
   simp -implicitDefEqProofs [rl,ne0,l0',l0'',ra']
   refine onC_mk _ (RD) ?_
   simp -implicitDefEqProofs
   refine onC_mk _ (NM) ?_
   simp -implicitDefEqProofs
  ·rw [hn] at NM
   rw [if_pos rfl]
   simp -implicitDefEqProofs [c116]
   refine onC_mk _ (TX) ?_
   simp -implicitDefEqProofs [rl,ne0,l0',l0'',ra']
   refine onC_mk _ (RD) ?_
   simp -implicitDefEqProofs
   refine onC_mk _ (NM) ?_
   simp -implicitDefEqProofs
 rw [hdg] at RD
 rw [if_neg (by rintro (h|h);exact m0 h;cases h)]
 have e1:(wdR s).rs=RV:=by
  rw [hRV]
  unfold wdR hasB
  rw [hd,←hdl']
 rw [e1]
 clear e1 name NM
 simp -implicitDefEqProofs [c116]
 refine onC_mk _ (TX) ?_
 simp -implicitDefEqProofs [rl,ne0,l0',l0'',ra']
 refine onC_mk _ (RD) ?_
 simp -implicitDefEqProofs
 refine wp_lpk (α:=Nat) (fun i=>⟨[(2,.ptr (.n 2) 0),(4,.str s),(5,i6 6),(6,u 0),(7,i6 0),(8,.bool (decide (d<i))),(9,i6 i)],[(.n 2,[i6 0,.str [],u 0,i6 0,i6 0])],[]⟩)
  (fun i=>i≤s.length) (fun i=>s.length - i) ?_ 0 (Nat.zero_le _) ?_
 ·rintro K i hK h1
  by_cases g:i<s.length
  ·have g':(i:Int)<s.length:=by omega
   have t1:IntKind.i64.wrap ((i:Int)+1)=(i+1:Nat):=by rw [wrap_i64]<;>omega
   have fin:=fun σ' hσ=>hK (i+1) σ' g (by omega) hσ
   clear hK hRV FA SP PP NU DG
   by_cases c1:d<i
   ·rw [decide_eq_true (show d<i+1 by omega)] at fin
    rw [decide_eq_true c1]
    simp -implicitDefEqProofs [g,g']
    refine fin _ ?_
    refine weak_mk ?_ ?_ ?_ ?_ ?_ ?_<;>simp -implicitDefEqProofs [t1]
   ·rw [decide_eq_false c1]
    by_cases c2:i=d
    ·subst c2
     rw [decide_eq_true (show i<i+1 by omega)] at fin
     have h46:(s[i].toNat:Int)=46:=by rw [tat g];rfl
     simp -implicitDefEqProofs [g,g',h46]
     refine fin _ ?_
     refine weak_mk ?_ ?_ ?_ ?_ ?_ ?_<;>simp -implicitDefEqProofs [t1]
    ·rw [decide_eq_false (show ¬d<i+1 by omega)] at fin
     have h46:((s[i].toNat:Int)==46)=false:=by
      rw [beq_eq_false_iff_ne]
      intro e
      exact tne i (by omega) g (UInt8.toNat_inj.1 (by show s[i].toNat=46;omega))
     simp -implicitDefEqProofs [g,g',h46]
     refine fin _ ?_
     refine weak_mk ?_ ?_ ?_ ?_ ?_ ?_<;>simp -implicitDefEqProofs [t1]
  ·obtain rfl:i=s.length:=by omega
   have g': ¬(s.length:Int)<s.length:=by omega
   clear hK
   cases hdF:dgsF s
   ·rw [hdF] at DG hRV
    rw [if_neg (by decide)] at hRV
    clear NU
    obtain ⟨z,hz⟩: ∃z,s.length=z+1:=⟨s.length - 1,by omega⟩
    have gz:z<s.length:=by omega
    have wz:IntKind.i64.wrap ((s.length:Int) - 1)=(z:Nat):=by rw [wrap_i64]<;>omega
    rw [show s.length - 1=z by omega] at hRV
    by_cases c37:byt s z=37
    ·rw [if_pos c37,toldV_rs] at hRV
     have k37:(s[z].toNat:Int)=37:=by rw [byt_in gz,c37];rfl
     clear FA SP
     generalize pprF s=q at *
     obtain ⟨n,e⟩:=q
     dsimp only at PP hRV pl
     have wn:IntKind.u64.wrap (n:Int)=n:=by rw [wrap_u64]<;>omega
     subst hRV
     by_cases ce:e=0
     ·subst ce
      rw [if_pos rfl]
      simp -implicitDefEqProofs [g']
      refine onC_mk _ (DG) ?_
      simp -implicitDefEqProofs [gz,wz,k37]
      refine onC_mk _ (PP) ?_
      simp -implicitDefEqProofs [wn]
     ·have ce':(e !=0)=true:=bne_iff_ne.2 ce
      rw [if_neg ce]
      simp -implicitDefEqProofs [g']
      refine onC_mk _ (DG) ?_
      simp -implicitDefEqProofs [gz,wz,k37]
      refine onC_mk _ (PP) ?_
      simp -implicitDefEqProofs [wn,ce,ce']
    ·rw [if_neg c37] at hRV
     have k37:((s[z].toNat:Int)==37)=false:=by rw [beq_eq_false_iff_ne,byt_in gz];omega
     clear PP
     by_cases ch:d<s.length
     ·rw [decide_eq_true ch,if_pos rfl,toldV_rs] at hRV
      rw [decide_eq_true ch]
      have FA:=FA ch (tat ch) (fun j hj h=>tne j hj h)
      clear SP
      generalize facF hdl (s.drop (d+1))=q at *
      obtain ⟨n,e⟩:=q
      dsimp only at FA hRV
      subst hRV
      by_cases ce:e=0
      ·subst ce
       rw [if_pos rfl]
       simp -implicitDefEqProofs [g']
       refine onC_mk _ (DG) ?_
       simp -implicitDefEqProofs [gz,wz,k37]
       refine onC_mk _ (FA) ?_
       simp -implicitDefEqProofs
      ·have ce':(e !=0)=true:=bne_iff_ne.2 ce
       rw [if_neg ce]
       simp -implicitDefEqProofs [g']
       refine onC_mk _ (DG) ?_
       simp -implicitDefEqProofs [gz,wz,k37]
       refine onC_mk _ (FA) ?_
       simp -implicitDefEqProofs [ce,ce']
     ·rw [decide_eq_false ch,if_neg (by decide),toldV_rs] at hRV
      rw [decide_eq_false ch]
      clear FA
      generalize spanR s=q at *
      obtain ⟨n,e⟩:=q
      dsimp only at SP hRV sl
      have wn:IntKind.u64.wrap (n:Int)=n:=by rw [wrap_u64]<;>omega
      subst hRV
      by_cases ce:e=0
      ·subst ce
       rw [if_pos rfl]
       simp -implicitDefEqProofs [g']
       refine onC_mk _ (DG) ?_
       simp -implicitDefEqProofs [gz,wz,k37]
       refine onC_mk _ (SP) ?_
       simp -implicitDefEqProofs [wn]
      ·have ce':(e !=0)=true:=bne_iff_ne.2 ce
       rw [if_neg ce]
       simp -implicitDefEqProofs [g']
       refine onC_mk _ (DG) ?_
       simp -implicitDefEqProofs [gz,wz,k37]
       refine onC_mk _ (SP) ?_
       simp -implicitDefEqProofs [wn,ce,ce']
   ·rw [hdF] at DG hRV
    rw [if_pos rfl,toldV_rs] at hRV
    clear FA SP PP
    generalize numF s=q at *
    obtain ⟨n,e⟩:=q
    dsimp only at NU hRV
    subst hRV
    by_cases ce:e=0
    ·subst ce
     rw [if_pos rfl]
     simp -implicitDefEqProofs [g']
     refine onC_mk _ (DG) ?_
     simp -implicitDefEqProofs
     refine onC_mk _ (NU) ?_
     simp -implicitDefEqProofs
    ·have ce':(e !=0)=true:=bne_iff_ne.2 ce
     rw [if_neg ce]
     simp -implicitDefEqProofs [g']
     refine onC_mk _ (DG) ?_
     simp -implicitDefEqProofs
     refine onC_mk _ (NU) ?_
     simp -implicitDefEqProofs [ce,ce']
 ·refine weak_mk ?_ ?_ ?_ ?_ ?_ ?_<;>simp -implicitDefEqProofs
end Go.Ai
namespace Go.Ai
open Go.Proofs Go.Shelf
def ren_wr:Ren:={
 f:=fun x=>match x with
  |168=>124
  |242=>164
  |278=>198
  |n=>ren_laysJoin.f n
 t:=fun x=>match x with
  |21=>21
  |46=>173
  |51=>39
  |n=>ren_laysJoin.t n
 g:=fun x=>x}
set_option maxRecDepth 100000 in
theorem laysWR:Lays.n168 Tryz.prog ren_wr where
 mixed:=laysJoin.mixed
 f168:=Eq.trans Tryz.func124 (congrArg some (show Tryz.f124=Body.n168 ren_wr by kernel_rfl))
 f240:=Eq.trans Tryz.func133 (congrArg some (show Tryz.f133=Body.n240 ren_wr by kernel_rfl))
 f242:=Eq.trans Tryz.func164 (congrArg some (show Tryz.f164=Body.n242 ren_wr by kernel_rfl))
 f276:=Eq.trans Tryz.func175 (congrArg some (show Tryz.f175=Body.n276 ren_wr by kernel_rfl))
 f278:=Eq.trans Tryz.func198 (congrArg some (show Tryz.f198=Body.n278 ren_wr by kernel_rfl))
 t0:=laysJoin.t0
 a0:=laysJoin.a0
 z0:=laysJoin.z0
 v0:=laysJoin.v0
 t3:=laysJoin.t3
 a3:=laysJoin.a3
 z3:=laysJoin.z3
 v3:=laysJoin.v3
 t4:=laysJoin.t4
 a4:=laysJoin.a4
 z4:=laysJoin.z4
 v4:=laysJoin.v4
 t5:=extraJ.t5
 a5:=extraJ.a5
 z5:=extraJ.z5
 v5:=extraJ.v5
 t9:=laysJoin.t9
 a9:=laysJoin.a9
 z9:=laysJoin.z9
 v9:=laysJoin.v9
 t20:=laysJoin.t20
 a20:=laysJoin.a20
 z20:=laysJoin.z20
 v20:=laysJoin.v20
 t21:=Tryz.underlying21
 a21:=Tryz.isAgg21
 z21:=Tryz.sizeOf21
 v21:=Tryz.zeroValue21
 t37:=laysJoin.t37
 a37:=laysJoin.a37
 z37:=laysJoin.z37
 v37:=laysJoin.v37
 t46:=Tryz.underlying173
 a46:=Tryz.isAgg173
 z46:=Tryz.sizeOf173
 v46:=Tryz.zeroValue173
 t51:=Tryz.underlying39
 a51:=Tryz.isAgg39
 z51:=Tryz.sizeOf39
 v51:=Tryz.zeroValue39
 t70:=laysJoin.t70
 a70:=laysJoin.a70
 z70:=laysJoin.z70
 v70:=laysJoin.v70
 t72:=laysJoin.t72
 a72:=laysJoin.a72
 z72:=laysJoin.z72
 v72:=laysJoin.v72
 t75:=laysJoin.t75
 a75:=laysJoin.a75
 z75:=laysJoin.z75
 v75:=laysJoin.v75
 t164:=laysJoin.t164
 a164:=laysJoin.a164
 z164:=laysJoin.z164
 v164:=laysJoin.v164
theorem extraW:Builder.Extra Tryz.prog ren_wr where
 sizeBuilder:=by kernel_rfl
 liesBuilder:=by kernel_rfl
 t5:=Tryz.underlying5
 a5:=Tryz.isAgg5
 z5:=Tryz.sizeOf5
 v5:=Tryz.zeroValue5
 infoByte:=by kernel_rfl
 cellsByte:=by kernel_rfl
 sizeByte:=by kernel_rfl
 neB5:=by decide
theorem encN_cells (r:Nat) (h:r≤1114111):runeV (r:Int)→Lib.byteCells (encN r)=Lib.runeCells (r:Int):=by
 intro hr
 have b8: ∀n:Nat,n<256→((UInt8.ofNat n).toNat:Int)=n:=fun n hn=>by rw [UInt8.toNat_ofNat_of_lt' (by simpa using hn)]
 unfold encN Lib.byteCells Lib.runeCells
 by_cases c1:r<128
 ·rw [if_pos c1,Lib.encodeRuneZ_one (by omega) (by omega)]
  simp only [List.map_cons,List.map_nil,b8 r (by omega)]
 rw [if_neg c1]
 by_cases c2:r<2048
 ·rw [if_pos c2,Lib.encodeRuneZ_two (by omega) (by omega)]
  simp only [List.map_cons,List.map_nil,b8 (192+r / 64) (by omega),b8 (128+r%64) (by omega)]
  rfl
 rw [if_neg c2]
 by_cases c3:r<65536
 ·rw [if_pos c3,Lib.encodeRuneZ_three (by rcases hr with h|h<;>omega)]
  simp only [List.map_cons,List.map_nil,b8 (224+r / 4096) (by omega),b8 (128+r / 64%64) (by omega),b8 (128+r%64) (by omega)]
  rfl
 rw [if_neg c3,Lib.encodeRuneZ_four (by omega) (by omega)]
 simp only [List.map_cons,List.map_nil,b8 (240+r / 262144) (by omega),b8 (128+r / 4096%64) (by omega),b8 (128+r / 64%64) (by omega),b8 (128+r%64) (by omega)]
 rfl
theorem wr_spec {d:Nat} {b:Id} (hit:b.isIt=false) (hnwb:b.isNw d=false) {T n:Nat} (hT:bldAt Tryz.prog 69 T n) {c0:AV} (hc0:c0= .nilT b T n∨c0= .ptr b 0) (rest:List AV) (l:List UInt8) (r:Nat) (hr:runeV (r:Int)) (h:r≤1114111) (hl:l.length+4≤140737488355328):
  SpH Tryz.prog gl 124 d ⟨[.ptr b 0,.int .i32 r],[(b,c0:: .sl (byteRows l)::rest)],[(.b b 1,bk 5)]⟩ ⟨.tup [.int .i64 (encN r).length,.undef],[(b,.ptr b 0:: .sl (byteRows (l++encN r))::rest)],[(.b b 1,bk 5)]⟩:=
 wr_shelf laysWR extraW (by kernel_rfl) (by kernel_rfl) hit hnwb (T:=T) (n:=n) (hc0.imp (fun h=>⟨h,hT⟩) id) (rest:=rest) l (encN r) r hr (encN_cells r h hr) hl
end Go.Ai
namespace Go.Ai
open Go.Proofs Go.Shelf
def hexR (r:Int):Int:=if digR r=true then r - 48 else if 97≤r∧r≤102 then r - 87 else -1
theorem thex_spec (r:Int):Sp Tryz.prog gl 247 [i3 r] (i3 (hexR r)):=by
 refine s247 rfl rfl ?_
 have D:=tdigit_spec r
 unfold hexR
 cases hd:digR r
 ·rw [hd] at D
  rw [if_neg (by decide)]
  by_cases c1:97≤r
  ·by_cases c2:r≤102
   ·rw [if_pos ⟨c1,c2⟩]
    have t1:IntKind.i32.wrap (r - 97)=r - 97:=by rw [wrap_i32']<;>omega
    have t2:IntKind.i32.wrap (r - 97+10)=r - 87:=by rw [wrap_i32']<;>omega
    simp -implicitDefEqProofs [c247]
    refine onC_mk _ (D) ?_
    simp -implicitDefEqProofs [c1,c2,t1,t2]
   ·rw [if_neg (fun h=>c2 h.2)]
    simp -implicitDefEqProofs [c247]
    refine onC_mk _ (D) ?_
    simp -implicitDefEqProofs [c1,c2]
  ·rw [if_neg (fun h=>c1 h.1)]
   simp -implicitDefEqProofs [c247]
   refine onC_mk _ (D) ?_
   simp -implicitDefEqProofs [c1]
 ·rw [hd] at D
  rw [if_pos rfl]
  have hh:48≤r∧r≤57:=by unfold digR at hd;exact of_decide_eq_true hd
  have t1:IntKind.i32.wrap (r - 48)=r - 48:=by rw [wrap_i32']<;>omega
  simp -implicitDefEqProofs [c247]
  refine onC_mk _ (D) ?_
  simp -implicitDefEqProofs [t1]
theorem rdig06_spec (r:Int):Sp Tryz.prog gl 151 [i3 r] (i3 (hexR r)):=by
 refine s151 rfl rfl ?_
 unfold hexR digR
 by_cases d1:48≤r
 ·by_cases d2:r≤57
  ·have t1:IntKind.i32.wrap (r - 48)=r - 48:=by rw [wrap_i32']<;>omega
   simp -implicitDefEqProofs [c151,d1,d2,t1]
  ·by_cases c1:97≤r
   ·by_cases c2:r≤102
    ·have t2:IntKind.i32.wrap (r - 87)=r - 87:=by rw [wrap_i32']<;>omega
     simp -implicitDefEqProofs [c151,d1,d2,c1,c2,t2]
    ·simp [c151,d1,d2,c1,c2]
   ·simp [c151,d1,d2,c1]
 ·have d2: ¬97≤r:=by omega
  simp -implicitDefEqProofs [c151,d1,d2]
def validR (r:Int):Bool:=decide (0≤r∧r<55296)||decide (57343<r∧r≤1114111)
theorem validR_iff (r:Int):validR r=true↔runeV r:=by
 unfold validR runeV
 rw [Bool.or_eq_true,decide_eq_true_iff,decide_eq_true_iff]
theorem vrune_spec (r:Int):Sp Tryz.prog gl 239 [i3 r] (.bool (validR r)):=by
 refine s239 rfl rfl ?_
 unfold validR
 by_cases d1:0≤r
 ·by_cases d2:r<55296
  ·simp [c239,d1,d2]
  ·by_cases c1:57343<r
   ·by_cases c2:r≤1114111
    ·simp [c239,d1,d2,c1,c2]
    ·simp [c239,d1,d2,c1,c2]
   ·simp [c239,d1,d2,c1]
 ·have d2: ¬57343<r:=by omega
  simp -implicitDefEqProofs [c239,d1,d2]
end Go.Ai
namespace Go.Ai
open Go.Proofs Go.Shelf
structure Rd where
 out:List Int
 st:Int
 n:Nat
 c:Nat
def rdHd (b:Id):List Int→List AV
 |[]=>[.nilT b 260 5,.nils]
 |r::l=>[.ptr b 0,.sl (byteRows (textR (r::l)))]
def rdPm (b:Id):List Int→List (Pl×Nat)
 |[]=>[]
 |r::l=>[(.b b 1,bk 5)]
def rdBx (b:Id) (x:Rd):List AV:=rdHd b x.out++[i6 x.st,i3 x.n,i6 x.c]
def afterR (x:Rd) (r:Int):Rd×Bool:=
 if r=34∨r=92 then ({x with st:=0,out:=x.out++[r]},true)
 else if r=110 then ({x with st:=0,out:=x.out++[10]},true)
 else if r=116 then ({x with st:=0,out:=x.out++[9]},true)
 else if r=117 then ({x with st:=2},true)
 else ({x with st:=0},false)
def withinR (x:Rd) (r:Int):Rd×Bool:=
 if 0≤hexR r∧x.c<6 then ({x with n:=16*x.n+(hexR r).toNat,c:=x.c+1},true)
 else if r≠125∨x.c=0∨validR x.n=false then (x,false)
 else ({x with out:=x.out++[(x.n:Int)],st:=0},true)
theorem bld_reader:bldAt Tryz.prog 69 260 5:=by unfold bldAt;kernel_rfl
theorem rdHd_snoc (b:Id) (l:List Int) (r:Nat):rdHd b (l++[(r:Int)])=[.ptr b 0,.sl (byteRows (textR l++encN r))]:=by
 have e:textR (l++[(r:Int)])=textR l++encN r:=by
  rw [textR_append]
  have:encR (r:Int)=encN r:=by unfold encR;rw [if_neg (by omega),Int.toNat_natCast]
  rw [textR,textR,List.append_nil,this]
 rw [←e]
 cases l<;>rfl
theorem rdPm_snoc (b:Id) (l:List Int) (r:Int):rdPm b (l++[r])=[(.b b 1,bk 5)]:=by cases l<;>rfl
theorem rafter_spec (x:Rd) (hl:x.out.length≤1000000) (r:Int) (d:Nat) (b:Id) (hb:b.isIt=false) (hbd:b.isNw d=false):
  SpH Tryz.prog gl 241 d ⟨[.ptr b 0,i3 r],[(b,rdBx b x)],rdPm b x.out⟩ ⟨.bool (afterR x r).2,[(b,rdBx b (afterR x r).1)],rdPm b (afterR x r).1.out⟩:=by
 refine h241 rfl ?_
 have hib:=inn_notNw hbd
 have ne: ∀z:Int,¬r=z→(r==z)=false:=fun z h=>beq_eq_false_iff_ne.2 h
 have tl:=textR_len x.out
 have W:=fun (q:Nat) (hq:runeV (q:Int)) (hq2:q≤1114111) (c0:AV) (hc0:c0= .nilT (.up b) 260 5∨c0= .ptr (.up b) 0) e he=>wr_spec (d:=e) (b:= .up b) hb he bld_reader hc0 [i6 0,i3 x.n,i6 x.c] (textR x.out) q hq hq2 (by omega)
 unfold afterR
 by_cases c1:r=34∨r=92
 ·rw [if_pos c1]
  dsimp only
  obtain ⟨q,rfl⟩: ∃q:Nat,r=q:=⟨r.toNat,by omega⟩
  have hq:runeV (q:Int):=by unfold runeV;omega
  have W:=W q hq (by omega)
  unfold rdBx
  rw [rdHd_snoc,rdPm_snoc]
  have c1':((q:Int)==34)=true∨(((q:Int)==34)=false∧((q:Int)==92)=true):=by
   by_cases h:(q:Int)=34
   ·left;rw [h];rfl
   ·right;exact ⟨beq_eq_false_iff_ne.2 h,by rw [beq_iff_eq];omega⟩
  cases hx:x.out with
  |nil=>
   rw [hx] at W
   have W:=W _ (.inl rfl)
   rw [show textR []=[] from rfl,List.nil_append] at W ⊢
   rw [show byteRows []=[] from rfl] at W
   generalize byteRows (encN q)=B at *
   simp only [rdHd,rdPm]
   simp only [inSt,mpB,mpL,AV.mp,mpP,Pl.mp,List.cons_append,List.nil_append]
   rcases c1' with c1'|⟨c1',c2'⟩
   ·simp [c241,c1']
    refine onH_mk _ _ (W _ rfl) ⟨?_,?_,?_,?_,?_,?_,?_⟩ ?_
    iterate 7 (· simp [hb])
    simp -implicitDefEqProofs
    refine postH_r ⟨?_,?_,?_,?_,?_,?_⟩<;>simp -implicitDefEqProofs [hib,hb]
   ·simp [c241,c1',c2']
    refine onH_mk _ _ (W _ rfl) ⟨?_,?_,?_,?_,?_,?_,?_⟩ ?_
    iterate 7 (· simp [hb])
    simp -implicitDefEqProofs
    refine postH_r ⟨?_,?_,?_,?_,?_,?_⟩<;>simp -implicitDefEqProofs [hib,hb]
  |cons a l=>
   rw [hx] at W
   have W:=W _ (.inr rfl)
   generalize byteRows (textR (a::l)++encN q)=B at *
   simp only [rdHd,rdPm]
   generalize byteRows (textR (a::l))=B0 at *
   simp only [inSt,mpB,mpL,AV.mp,mpP,Pl.mp,List.cons_append,List.nil_append]
   rcases c1' with c1'|⟨c1',c2'⟩
   ·simp [c241,c1']
    refine onH_mk _ _ (W _ rfl) ⟨?_,?_,?_,?_,?_,?_,?_⟩ ?_
    iterate 7 (· simp [hb])
    simp -implicitDefEqProofs
    refine postH_r ⟨?_,?_,?_,?_,?_,?_⟩<;>simp -implicitDefEqProofs [hib,hb]
   ·simp [c241,c1',c2']
    refine onH_mk _ _ (W _ rfl) ⟨?_,?_,?_,?_,?_,?_,?_⟩ ?_
    iterate 7 (· simp [hb])
    simp -implicitDefEqProofs
    refine postH_r ⟨?_,?_,?_,?_,?_,?_⟩<;>simp -implicitDefEqProofs [hib,hb]
 rw [if_neg c1]
 have n1:=ne 34 (fun h=>c1 (.inl h))
 have n2:=ne 92 (fun h=>c1 (.inr h))
 by_cases c3:r=110
 ·rw [if_pos c3]
  subst c3
  dsimp only
  have W:=W 10 (by unfold runeV;omega) (by omega)
  unfold rdBx
  rw [show (10:Int)=((10:Nat):Int) from rfl,rdHd_snoc,rdPm_snoc]
  cases hx:x.out with
  |nil=>
   rw [hx] at W
   have W:=W _ (.inl rfl)
   rw [show textR []=[] from rfl,List.nil_append] at W ⊢
   rw [show byteRows []=[] from rfl] at W
   generalize byteRows (encN 10)=B at *
   simp only [rdHd,rdPm]
   simp only [inSt,mpB,mpL,AV.mp,mpP,Pl.mp,List.cons_append,List.nil_append]
   simp -implicitDefEqProofs [c241]
   refine onH_mk _ _ (W _ rfl) ⟨?_,?_,?_,?_,?_,?_,?_⟩ ?_
   iterate 7 (· simp [hb])
   simp -implicitDefEqProofs
   refine postH_r ⟨?_,?_,?_,?_,?_,?_⟩<;>simp -implicitDefEqProofs [hib,hb]
  |cons a l=>
   rw [hx] at W
   have W:=W _ (.inr rfl)
   generalize byteRows (textR (a::l)++encN 10)=B at *
   simp only [rdHd,rdPm]
   generalize byteRows (textR (a::l))=B0 at *
   simp only [inSt,mpB,mpL,AV.mp,mpP,Pl.mp,List.cons_append,List.nil_append]
   simp -implicitDefEqProofs [c241]
   refine onH_mk _ _ (W _ rfl) ⟨?_,?_,?_,?_,?_,?_,?_⟩ ?_
   iterate 7 (· simp [hb])
   simp -implicitDefEqProofs
   refine postH_r ⟨?_,?_,?_,?_,?_,?_⟩<;>simp -implicitDefEqProofs [hib,hb]
 rw [if_neg c3]
 have n3:=ne 110 c3
 by_cases c4:r=116
 ·rw [if_pos c4]
  subst c4
  dsimp only
  have W:=W 9 (by unfold runeV;omega) (by omega)
  unfold rdBx
  rw [show (9:Int)=((9:Nat):Int) from rfl,rdHd_snoc,rdPm_snoc]
  cases hx:x.out with
  |nil=>
   rw [hx] at W
   have W:=W _ (.inl rfl)
   rw [show textR []=[] from rfl,List.nil_append] at W ⊢
   rw [show byteRows []=[] from rfl] at W
   generalize byteRows (encN 9)=B at *
   simp only [rdHd,rdPm]
   simp only [inSt,mpB,mpL,AV.mp,mpP,Pl.mp,List.cons_append,List.nil_append]
   simp -implicitDefEqProofs [c241]
   refine onH_mk _ _ (W _ rfl) ⟨?_,?_,?_,?_,?_,?_,?_⟩ ?_
   iterate 7 (· simp [hb])
   simp -implicitDefEqProofs
   refine postH_r ⟨?_,?_,?_,?_,?_,?_⟩<;>simp -implicitDefEqProofs [hib,hb]
  |cons a l=>
   rw [hx] at W
   have W:=W _ (.inr rfl)
   generalize byteRows (textR (a::l)++encN 9)=B at *
   simp only [rdHd,rdPm]
   generalize byteRows (textR (a::l))=B0 at *
   simp only [inSt,mpB,mpL,AV.mp,mpP,Pl.mp,List.cons_append,List.nil_append]
   simp -implicitDefEqProofs [c241]
   refine onH_mk _ _ (W _ rfl) ⟨?_,?_,?_,?_,?_,?_,?_⟩ ?_
   iterate 7 (· simp [hb])
   simp -implicitDefEqProofs
   refine postH_r ⟨?_,?_,?_,?_,?_,?_⟩<;>simp -implicitDefEqProofs [hib,hb]
 rw [if_neg c4]
 have n4:=ne 116 c4
 clear W
 by_cases c5:r=117
 ·rw [if_pos c5]
  subst c5
  dsimp only
  unfold rdBx
  cases hx:x.out with
  |nil=>
   simp only [rdHd,rdPm]
   simp only [inSt,mpB,mpL,AV.mp,mpP,Pl.mp,List.cons_append,List.nil_append]
   simp -implicitDefEqProofs [c241]
   refine postH_r ⟨?_,?_,?_,?_,?_,?_⟩<;>simp -implicitDefEqProofs [hib,hb]
  |cons a l=>
   simp only [rdHd,rdPm]
   generalize byteRows (textR (a::l))=B0 at *
   simp only [inSt,mpB,mpL,AV.mp,mpP,Pl.mp,List.cons_append,List.nil_append]
   simp -implicitDefEqProofs [c241]
   refine postH_r ⟨?_,?_,?_,?_,?_,?_⟩<;>simp -implicitDefEqProofs [hib,hb]
 rw [if_neg c5]
 have n5:=ne 117 c5
 dsimp only
 unfold rdBx
 cases hx:x.out with
 |nil=>
  simp only [rdHd,rdPm]
  simp only [inSt,mpB,mpL,AV.mp,mpP,Pl.mp,List.cons_append,List.nil_append]
  simp -implicitDefEqProofs [c241,n1,n2,n3,n4,n5]
  refine postH_r ⟨?_,?_,?_,?_,?_,?_⟩<;>simp -implicitDefEqProofs [hib,hb]
 |cons a l=>
  simp only [rdHd,rdPm]
  generalize byteRows (textR (a::l))=B0 at *
  simp only [inSt,mpB,mpL,AV.mp,mpP,Pl.mp,List.cons_append,List.nil_append]
  simp -implicitDefEqProofs [c241,n1,n2,n3,n4,n5]
  refine postH_r ⟨?_,?_,?_,?_,?_,?_⟩<;>simp -implicitDefEqProofs [hib,hb]
end Go.Ai
namespace Go.Ai
open Go.Proofs Go.Shelf
theorem hexR_lt (r:Int):hexR r<16:=by
 unfold hexR digR
 split
 ·rename_i h
  have:=of_decide_eq_true h
  omega
 ·split<;>omega
theorem or_hex (x h:Nat) (hx:x<16777216) (hh:h<16):bits BinOp.or IntKind.i32 ((x*16:Nat):Int) (h:Int)=((16*x+h:Nat):Int):=by
 have hx2:x*16|||h=16*x+h:=by
  rw [show x*16=2^4*x by omega,←Nat.two_pow_add_eq_or_of_lt (by omega)]
 have h1:(BitVec.ofInt 32 ((x*16:Nat):Int)).toNat=x*16:=by
  rw [BitVec.ofInt_natCast,BitVec.toNat_ofNat];exact Nat.mod_eq_of_lt (by omega)
 have h2:(BitVec.ofInt 32 (h:Int)).toNat=h:=by
  rw [BitVec.ofInt_natCast,BitVec.toNat_ofNat];exact Nat.mod_eq_of_lt (by omega)
 show IntKind.i32.wrap ((BitVec.ofInt 32 ((x*16:Nat):Int)|||BitVec.ofInt 32 (h:Int)).toNat:Int)=_
 rw [BitVec.toNat_or,h1,h2,hx2,wrap_i32']<;>omega
theorem shl_hex (x:Nat) (hx:x<16777216):IntKind.i32.wrap ((x:Int)*2^(min 4 IntKind.i32.bits))=((x*16:Nat):Int):=by
 have e:(2:Int)^(min 4 IntKind.i32.bits)=16:=by decide
 rw [e,wrap_i32']<;>omega
theorem rwithinR_spec (x:Rd) (hl:x.out.length≤1000000) (hc:x.c≤6) (hn:x.n<16^x.c) (r:Int) (d:Nat) (b:Id) (hb:b.isIt=false) (hbd:b.isNw d=false):
  SpH Tryz.prog gl 242 d ⟨[.ptr b 0,i3 r],[(b,rdBx b x)],rdPm b x.out⟩ ⟨.bool (withinR x r).2,[(b,rdBx b (withinR x r).1)],rdPm b (withinR x r).1.out⟩:=by
 refine h242 rfl ?_
 have hib:=inn_notNw hbd
 have tl:=textR_len x.out
 have HX:=thex_spec r
 have hlt:=hexR_lt r
 have nlt:x.n<16777216:=Nat.lt_of_lt_of_le hn (Nat.le_trans (Nat.pow_le_pow_right (by omega) hc) (by decide))
 have VS:=vrune_spec (x.n:Int)
 unfold withinR
 by_cases c1:0≤hexR r∧x.c<6
 ·rw [if_pos c1]
  dsimp only
  obtain ⟨h,hh⟩: ∃h:Nat,hexR r=h:=⟨(hexR r).toNat,by omega⟩
  rw [hh] at HX hlt c1 ⊢
  rw [Int.toNat_natCast]
  have k1:=shl_hex x.n nlt
  have k2:=or_hex x.n h nlt (by omega)
  have k3:IntKind.i64.wrap ((x.c:Int)+1)=(x.c+1:Nat):=by rw [wrap_i64]<;>omega
  have k4:(x.c:Int)<6:=by omega
  have k5:=c1.2
  have k6:=c1.1
  have kk:((16*x.n+h:Nat):Int)=16*(x.n:Int)+h:=by omega
  rw [kk] at k2
  generalize ((x.n*16:Nat):Int)=SV at *
  unfold rdBx
  clear VS
  cases hx:x.out with
  |nil=>
   simp only [rdHd,rdPm]
   simp only [inSt,mpB,mpL,AV.mp,mpP,Pl.mp,List.cons_append,List.nil_append]
   simp -implicitDefEqProofs [c242]
   refine onC_mk _ (HX) ?_
   simp -implicitDefEqProofs [k1,k2,k3,k4,k5,k6]
   refine postH_r ⟨?_,?_,?_,?_,?_,?_⟩<;>simp -implicitDefEqProofs [hib,hb]
  |cons a l=>
   simp only [rdHd,rdPm]
   generalize byteRows (textR (a::l))=B0 at *
   simp only [inSt,mpB,mpL,AV.mp,mpP,Pl.mp,List.cons_append,List.nil_append]
   simp -implicitDefEqProofs [c242]
   refine onC_mk _ (HX) ?_
   simp -implicitDefEqProofs [k1,k2,k3,k4,k5,k6]
   refine postH_r ⟨?_,?_,?_,?_,?_,?_⟩<;>simp -implicitDefEqProofs [hib,hb]
 rw [if_neg c1]
 by_cases c2:r=125
 ·subst c2
  have e:hexR 125= -1:=by decide
  rw [e] at HX
  by_cases c3:x.c=0
  ·rw [if_pos (.inr (.inl c3))]
   dsimp only
   unfold rdBx
   clear VS
   cases hx:x.out with
   |nil=>
    simp only [rdHd,rdPm]
    simp only [inSt,mpB,mpL,AV.mp,mpP,Pl.mp,List.cons_append,List.nil_append]
    simp -implicitDefEqProofs [c242]
    refine onC_mk _ (HX) ?_
    simp -implicitDefEqProofs [c3]
    refine postH_r ⟨?_,?_,?_,?_,?_,?_⟩<;>simp -implicitDefEqProofs [hib,hb,c3]
   |cons a l=>
    simp only [rdHd,rdPm]
    generalize byteRows (textR (a::l))=B0 at *
    simp only [inSt,mpB,mpL,AV.mp,mpP,Pl.mp,List.cons_append,List.nil_append]
    simp -implicitDefEqProofs [c242]
    refine onC_mk _ (HX) ?_
    simp -implicitDefEqProofs [c3]
    refine postH_r ⟨?_,?_,?_,?_,?_,?_⟩<;>simp -implicitDefEqProofs [hib,hb,c3]
  ·have c3':((x.c:Int)==0)=false:=beq_eq_false_iff_ne.2 (by omega)
   cases hv:validR (x.n:Int)
   ·rw [hv] at VS
    rw [if_pos (.inr (.inr rfl))]
    dsimp only
    unfold rdBx
    cases hx:x.out with
    |nil=>
     simp only [rdHd,rdPm]
     simp only [inSt,mpB,mpL,AV.mp,mpP,Pl.mp,List.cons_append,List.nil_append]
     simp -implicitDefEqProofs [c242]
     refine onC_mk _ (HX) ?_
     simp -implicitDefEqProofs [c3,c3']
     refine onC_mk _ (VS) ?_
     simp -implicitDefEqProofs
     refine postH_r ⟨?_,?_,?_,?_,?_,?_⟩<;>simp -implicitDefEqProofs [hib,hb]
    |cons a l=>
     simp only [rdHd,rdPm]
     generalize byteRows (textR (a::l))=B0 at *
     simp only [inSt,mpB,mpL,AV.mp,mpP,Pl.mp,List.cons_append,List.nil_append]
     simp -implicitDefEqProofs [c242]
     refine onC_mk _ (HX) ?_
     simp -implicitDefEqProofs [c3,c3']
     refine onC_mk _ (VS) ?_
     simp -implicitDefEqProofs
     refine postH_r ⟨?_,?_,?_,?_,?_,?_⟩<;>simp -implicitDefEqProofs [hib,hb]
   ·rw [hv] at VS
    rw [if_neg (by rintro (h|h|h)<;>first|exact h rfl|exact c3 h|cases h)]
    dsimp only
    have hq:=(validR_iff _).1 hv
    have W:=fun (s6:Int) (c0:AV) (hc0:c0= .nilT (.up b) 260 5∨c0= .ptr (.up b) 0) (e:Nat) (he:(Id.up b).isNw e=false)=>wr_spec (d:=e) (b:= .up b) hb he bld_reader hc0 [i6 s6,i3 x.n,i6 x.c] (textR x.out) x.n hq (by unfold runeV at hq;omega) (by omega)
    unfold rdBx
    rw [rdHd_snoc,rdPm_snoc]
    cases hx:x.out with
    |nil=>
     rw [hx] at W
     have W:=fun s6=>W s6 _ (.inl rfl)
     rw [show textR []=[] from rfl] at W ⊢
     simp only [List.nil_append] at W ⊢
     rw [show byteRows []=[] from rfl] at W
     generalize byteRows (encN x.n)=B at *
     simp only [rdHd,rdPm]
     simp only [inSt,mpB,mpL,AV.mp,mpP,Pl.mp,List.cons_append,List.nil_append]
     simp -implicitDefEqProofs [c242]
     refine onC_mk _ (HX) ?_
     simp -implicitDefEqProofs [c3,c3']
     refine onC_mk _ (VS) ?_
     simp -implicitDefEqProofs
     refine onH_mk _ _ (W x.st _ rfl) ⟨?_,?_,?_,?_,?_,?_,?_⟩ ?_
     iterate 7 (· simp [hb])
     simp -implicitDefEqProofs
     refine postH_r ⟨?_,?_,?_,?_,?_,?_⟩<;>simp -implicitDefEqProofs [hib,hb]
    |cons a l=>
     rw [hx] at W
     have W:=fun s6=>W s6 _ (.inr rfl)
     generalize byteRows (textR (a::l)++encN x.n)=B at *
     simp only [rdHd,rdPm]
     generalize byteRows (textR (a::l))=B0 at *
     simp only [inSt,mpB,mpL,AV.mp,mpP,Pl.mp,List.cons_append,List.nil_append]
     simp -implicitDefEqProofs [c242]
     refine onC_mk _ (HX) ?_
     simp -implicitDefEqProofs [c3,c3']
     refine onC_mk _ (VS) ?_
     simp -implicitDefEqProofs
     refine onH_mk _ _ (W x.st _ rfl) ⟨?_,?_,?_,?_,?_,?_,?_⟩ ?_
     iterate 7 (· simp [hb])
     simp -implicitDefEqProofs
     refine postH_r ⟨?_,?_,?_,?_,?_,?_⟩<;>simp -implicitDefEqProofs [hib,hb]
 ·rw [if_pos (.inl c2)]
  dsimp only
  have c2':(r !=125)=true:=bne_iff_ne.2 c2
  have c2'':(r==125)=false:=beq_eq_false_iff_ne.2 c2
  unfold rdBx
  clear VS
  by_cases c3:0≤hexR r
  ·have c4: ¬x.c<6:=fun h=>c1 ⟨c3,h⟩
   have c4': ¬(x.c:Int)<6:=by omega
   cases hx:x.out with
   |nil=>
    simp only [rdHd,rdPm]
    simp only [inSt,mpB,mpL,AV.mp,mpP,Pl.mp,List.cons_append,List.nil_append]
    simp -implicitDefEqProofs [c242]
    refine onC_mk _ (HX) ?_
    simp -implicitDefEqProofs [c3,c4,c4',c2',c2'']
    refine postH_r ⟨?_,?_,?_,?_,?_,?_⟩<;>simp -implicitDefEqProofs [hib,hb]
   |cons a l=>
    simp only [rdHd,rdPm]
    generalize byteRows (textR (a::l))=B0 at *
    simp only [inSt,mpB,mpL,AV.mp,mpP,Pl.mp,List.cons_append,List.nil_append]
    simp -implicitDefEqProofs [c242]
    refine onC_mk _ (HX) ?_
    simp -implicitDefEqProofs [c3,c4,c4',c2',c2'']
    refine postH_r ⟨?_,?_,?_,?_,?_,?_⟩<;>simp -implicitDefEqProofs [hib,hb]
  ·cases hx:x.out with
   |nil=>
    simp only [rdHd,rdPm]
    simp only [inSt,mpB,mpL,AV.mp,mpP,Pl.mp,List.cons_append,List.nil_append]
    simp -implicitDefEqProofs [c242]
    refine onC_mk _ (HX) ?_
    simp -implicitDefEqProofs [c3,c2',c2'']
    refine postH_r ⟨?_,?_,?_,?_,?_,?_⟩<;>simp -implicitDefEqProofs [hib,hb]
   |cons a l=>
    simp only [rdHd,rdPm]
    generalize byteRows (textR (a::l))=B0 at *
    simp only [inSt,mpB,mpL,AV.mp,mpP,Pl.mp,List.cons_append,List.nil_append]
    simp -implicitDefEqProofs [c242]
    refine onC_mk _ (HX) ?_
    simp -implicitDefEqProofs [c3,c2',c2'']
    refine postH_r ⟨?_,?_,?_,?_,?_,?_⟩<;>simp -implicitDefEqProofs [hib,hb]
end Go.Ai
namespace Go.Ai
open Go.Proofs Go.Shelf
def takeU (x:Rd) (r:Int):Rd×Bool:=
 if x.st=1 then afterR x r
 else if x.st=2 then ({x with st:=3,n:=0,c:=0},decide (r=123))
 else if x.st=3 then withinR x r
 else if x.st=4 then (x,false)
 else if r=34 then ({x with st:=4},true)
 else if r=92 then ({x with st:=1},true)
 else if r<32∨r=127 then (x,false)
 else ({x with out:=x.out++[r]},true)
theorem rtakeU_spec (x:Rd) (hl:x.out.length≤1000000) (hc:x.c≤6) (hn:x.n<16^x.c) (r:Int) (hr:runeV r) (d:Nat) (b:Id) (hb:b.isIt=false) (hbd:b.isNw d=false):
  SpH Tryz.prog gl 221 d ⟨[.ptr b 0,i3 r],[(b,rdBx b x)],rdPm b x.out⟩ ⟨.bool (takeU x r).2,[(b,rdBx b (takeU x r).1)],rdPm b (takeU x r).1.out⟩:=by
 refine h221 rfl ?_
 have hib:=inn_notNw hbd
 have tl:=textR_len x.out
 have ne: ∀z:Int,¬r=z→(r==z)=false:=fun z h=>beq_eq_false_iff_ne.2 h
 have A:=fun e=>rafter_spec x hl r e (.up b) hb
 have I:=fun e=>rwithinR_spec x hl hc hn r e (.up b) hb
 unfold takeU
 by_cases c1:x.st=1
 ·rw [if_pos c1]
  clear I
  generalize (afterR x r).2=ok at *
  generalize (afterR x r).1=y at *
  unfold rdBx at *
  cases hx:x.out with
  |nil=>
   rw [hx] at A
   cases hy:y.out with
   |nil=>
    rw [hy] at A
    simp only [rdHd,rdPm,List.cons_append,List.nil_append] at A ⊢
    simp only [inSt,mpB,mpL,AV.mp,mpP,Pl.mp,List.cons_append,List.nil_append]
    simp -implicitDefEqProofs [c221,c1]
    refine onH_mk _ _ (A _ rfl) ⟨?_,?_,?_,?_,?_,?_,?_⟩ ?_
    iterate 7 (· simp [hb,c1])
    simp -implicitDefEqProofs
    refine postH_r ⟨?_,?_,?_,?_,?_,?_⟩<;>simp -implicitDefEqProofs [hib,hb]
   |cons a2 l2=>
    rw [hy] at A
    simp only [rdHd,rdPm,List.cons_append,List.nil_append] at A ⊢
    generalize byteRows (textR (a2::l2))=B1 at *
    simp only [inSt,mpB,mpL,AV.mp,mpP,Pl.mp,List.cons_append,List.nil_append]
    simp -implicitDefEqProofs [c221,c1]
    refine onH_mk _ _ (A _ rfl) ⟨?_,?_,?_,?_,?_,?_,?_⟩ ?_
    iterate 7 (· simp [hb,c1])
    simp -implicitDefEqProofs
    refine postH_r ⟨?_,?_,?_,?_,?_,?_⟩<;>simp -implicitDefEqProofs [hib,hb]
  |cons a l=>
   rw [hx] at A
   cases hy:y.out with
   |nil=>
    rw [hy] at A
    simp only [rdHd,rdPm,List.cons_append,List.nil_append] at A ⊢
    generalize byteRows (textR (a::l))=B0 at *
    simp only [inSt,mpB,mpL,AV.mp,mpP,Pl.mp,List.cons_append,List.nil_append]
    simp -implicitDefEqProofs [c221,c1]
    refine onH_mk _ _ (A _ rfl) ⟨?_,?_,?_,?_,?_,?_,?_⟩ ?_
    iterate 7 (· simp [hb,c1])
    simp -implicitDefEqProofs
    refine postH_r ⟨?_,?_,?_,?_,?_,?_⟩<;>simp -implicitDefEqProofs [hib,hb]
   |cons a2 l2=>
    rw [hy] at A
    simp only [rdHd,rdPm,List.cons_append,List.nil_append] at A ⊢
    generalize byteRows (textR (a2::l2))=B1 at *
    generalize byteRows (textR (a::l))=B0 at *
    simp only [inSt,mpB,mpL,AV.mp,mpP,Pl.mp,List.cons_append,List.nil_append]
    simp -implicitDefEqProofs [c221,c1]
    refine onH_mk _ _ (A _ rfl) ⟨?_,?_,?_,?_,?_,?_,?_⟩ ?_
    iterate 7 (· simp [hb,c1])
    simp -implicitDefEqProofs
    refine postH_r ⟨?_,?_,?_,?_,?_,?_⟩<;>simp -implicitDefEqProofs [hib,hb]
 rw [if_neg c1]
 have n1:(x.st==1)=false:=beq_eq_false_iff_ne.2 c1
 clear A
 by_cases c2:x.st=2
 ·rw [if_pos c2]
  clear I
  dsimp only
  have e:(r==123)=decide (r=123):=by by_cases h:r=123<;>simp [h]
  rw [←e]
  unfold rdBx
  cases hx:x.out with
  |nil=>
   simp only [rdHd,rdPm,List.cons_append,List.nil_append]
   simp only [inSt,mpB,mpL,AV.mp,mpP,Pl.mp,List.cons_append,List.nil_append]
   simp -implicitDefEqProofs [c221,c2]
   refine postH_r ⟨?_,?_,?_,?_,?_,?_⟩<;>simp -implicitDefEqProofs [hib,hb]
  |cons a l=>
   simp only [rdHd,rdPm,List.cons_append,List.nil_append]
   generalize byteRows (textR (a::l))=B0 at *
   simp only [inSt,mpB,mpL,AV.mp,mpP,Pl.mp,List.cons_append,List.nil_append]
   simp -implicitDefEqProofs [c221,c2]
   refine postH_r ⟨?_,?_,?_,?_,?_,?_⟩<;>simp -implicitDefEqProofs [hib,hb]
 rw [if_neg c2]
 have n2:(x.st==2)=false:=beq_eq_false_iff_ne.2 c2
 by_cases c3:x.st=3
 ·rw [if_pos c3]
  generalize (withinR x r).2=ok at *
  generalize (withinR x r).1=y at *
  unfold rdBx at *
  cases hx:x.out with
  |nil=>
   rw [hx] at I
   cases hy:y.out with
   |nil=>
    rw [hy] at I
    simp only [rdHd,rdPm,List.cons_append,List.nil_append] at I ⊢
    simp only [inSt,mpB,mpL,AV.mp,mpP,Pl.mp,List.cons_append,List.nil_append]
    simp -implicitDefEqProofs [c221,c3]
    refine onH_mk _ _ (I _ rfl) ⟨?_,?_,?_,?_,?_,?_,?_⟩ ?_
    iterate 7 (· simp [hb,c3])
    simp -implicitDefEqProofs
    refine postH_r ⟨?_,?_,?_,?_,?_,?_⟩<;>simp -implicitDefEqProofs [hib,hb]
   |cons a2 l2=>
    rw [hy] at I
    simp only [rdHd,rdPm,List.cons_append,List.nil_append] at I ⊢
    generalize byteRows (textR (a2::l2))=B1 at *
    simp only [inSt,mpB,mpL,AV.mp,mpP,Pl.mp,List.cons_append,List.nil_append]
    simp -implicitDefEqProofs [c221,c3]
    refine onH_mk _ _ (I _ rfl) ⟨?_,?_,?_,?_,?_,?_,?_⟩ ?_
    iterate 7 (· simp [hb,c3])
    simp -implicitDefEqProofs
    refine postH_r ⟨?_,?_,?_,?_,?_,?_⟩<;>simp -implicitDefEqProofs [hib,hb]
  |cons a l=>
   rw [hx] at I
   cases hy:y.out with
   |nil=>
    rw [hy] at I
    simp only [rdHd,rdPm,List.cons_append,List.nil_append] at I ⊢
    generalize byteRows (textR (a::l))=B0 at *
    simp only [inSt,mpB,mpL,AV.mp,mpP,Pl.mp,List.cons_append,List.nil_append]
    simp -implicitDefEqProofs [c221,c3]
    refine onH_mk _ _ (I _ rfl) ⟨?_,?_,?_,?_,?_,?_,?_⟩ ?_
    iterate 7 (· simp [hb,c3])
    simp -implicitDefEqProofs
    refine postH_r ⟨?_,?_,?_,?_,?_,?_⟩<;>simp -implicitDefEqProofs [hib,hb]
   |cons a2 l2=>
    rw [hy] at I
    simp only [rdHd,rdPm,List.cons_append,List.nil_append] at I ⊢
    generalize byteRows (textR (a2::l2))=B1 at *
    generalize byteRows (textR (a::l))=B0 at *
    simp only [inSt,mpB,mpL,AV.mp,mpP,Pl.mp,List.cons_append,List.nil_append]
    simp -implicitDefEqProofs [c221,c3]
    refine onH_mk _ _ (I _ rfl) ⟨?_,?_,?_,?_,?_,?_,?_⟩ ?_
    iterate 7 (· simp [hb,c3])
    simp -implicitDefEqProofs
    refine postH_r ⟨?_,?_,?_,?_,?_,?_⟩<;>simp -implicitDefEqProofs [hib,hb]
 rw [if_neg c3]
 have n3:(x.st==3)=false:=beq_eq_false_iff_ne.2 c3
 clear I
 by_cases c4:x.st=4
 ·rw [if_pos c4]
  dsimp only
  unfold rdBx
  cases hx:x.out with
  |nil=>
   simp only [rdHd,rdPm,List.cons_append,List.nil_append]
   simp only [inSt,mpB,mpL,AV.mp,mpP,Pl.mp,List.cons_append,List.nil_append]
   simp -implicitDefEqProofs [c221,c4]
   refine postH_r ⟨?_,?_,?_,?_,?_,?_⟩<;>simp -implicitDefEqProofs [hib,hb,c4]
  |cons a l=>
   simp only [rdHd,rdPm,List.cons_append,List.nil_append]
   generalize byteRows (textR (a::l))=B0 at *
   simp only [inSt,mpB,mpL,AV.mp,mpP,Pl.mp,List.cons_append,List.nil_append]
   simp -implicitDefEqProofs [c221,c4]
   refine postH_r ⟨?_,?_,?_,?_,?_,?_⟩<;>simp -implicitDefEqProofs [hib,hb,c4]
 rw [if_neg c4]
 have n4:(x.st==4)=false:=beq_eq_false_iff_ne.2 c4
 by_cases d1:r=34
 ·rw [if_pos d1]
  subst d1
  dsimp only
  unfold rdBx
  cases hx:x.out with
  |nil=>
   simp only [rdHd,rdPm,List.cons_append,List.nil_append]
   simp only [inSt,mpB,mpL,AV.mp,mpP,Pl.mp,List.cons_append,List.nil_append]
   simp -implicitDefEqProofs [c221,n1,n2,n3,n4]
   refine postH_r ⟨?_,?_,?_,?_,?_,?_⟩<;>simp -implicitDefEqProofs [hib,hb]
  |cons a l=>
   simp only [rdHd,rdPm,List.cons_append,List.nil_append]
   generalize byteRows (textR (a::l))=B0 at *
   simp only [inSt,mpB,mpL,AV.mp,mpP,Pl.mp,List.cons_append,List.nil_append]
   simp -implicitDefEqProofs [c221,n1,n2,n3,n4]
   refine postH_r ⟨?_,?_,?_,?_,?_,?_⟩<;>simp -implicitDefEqProofs [hib,hb]
 rw [if_neg d1]
 have m1:=ne 34 d1
 by_cases d2:r=92
 ·rw [if_pos d2]
  subst d2
  dsimp only
  unfold rdBx
  cases hx:x.out with
  |nil=>
   simp only [rdHd,rdPm,List.cons_append,List.nil_append]
   simp only [inSt,mpB,mpL,AV.mp,mpP,Pl.mp,List.cons_append,List.nil_append]
   simp -implicitDefEqProofs [c221,n1,n2,n3,n4]
   refine postH_r ⟨?_,?_,?_,?_,?_,?_⟩<;>simp -implicitDefEqProofs [hib,hb]
  |cons a l=>
   simp only [rdHd,rdPm,List.cons_append,List.nil_append]
   generalize byteRows (textR (a::l))=B0 at *
   simp only [inSt,mpB,mpL,AV.mp,mpP,Pl.mp,List.cons_append,List.nil_append]
   simp -implicitDefEqProofs [c221,n1,n2,n3,n4]
   refine postH_r ⟨?_,?_,?_,?_,?_,?_⟩<;>simp -implicitDefEqProofs [hib,hb]
 rw [if_neg d2]
 have m2:=ne 92 d2
 by_cases d3:r<32∨r=127
 ·rw [if_pos d3]
  dsimp only
  have d4:r<32∨(¬r<32∧(r==127)=true):=by
   by_cases h:r<32
   ·exact .inl h
   ·exact .inr ⟨h,by rw [beq_iff_eq];omega⟩
  unfold rdBx
  cases hx:x.out with
  |nil=>
   simp only [rdHd,rdPm,List.cons_append,List.nil_append]
   simp only [inSt,mpB,mpL,AV.mp,mpP,Pl.mp,List.cons_append,List.nil_append]
   rcases d4 with d4|⟨d4,d5⟩
   ·simp [c221,n1,n2,n3,n4,m1,m2,d4]
    refine postH_r ⟨?_,?_,?_,?_,?_,?_⟩<;>simp -implicitDefEqProofs [hib,hb]
   ·simp [c221,n1,n2,n3,n4,m1,m2,d4,d5]
    refine postH_r ⟨?_,?_,?_,?_,?_,?_⟩<;>simp -implicitDefEqProofs [hib,hb]
  |cons a l=>
   simp only [rdHd,rdPm,List.cons_append,List.nil_append]
   generalize byteRows (textR (a::l))=B0 at *
   simp only [inSt,mpB,mpL,AV.mp,mpP,Pl.mp,List.cons_append,List.nil_append]
   rcases d4 with d4|⟨d4,d5⟩
   ·simp [c221,n1,n2,n3,n4,m1,m2,d4]
    refine postH_r ⟨?_,?_,?_,?_,?_,?_⟩<;>simp -implicitDefEqProofs [hib,hb]
   ·simp [c221,n1,n2,n3,n4,m1,m2,d4,d5]
    refine postH_r ⟨?_,?_,?_,?_,?_,?_⟩<;>simp -implicitDefEqProofs [hib,hb]
 rw [if_neg d3]
 have d4: ¬r<32:=fun h=>d3 (.inl h)
 have d5:=ne 127 (fun h=>d3 (.inr h))
 obtain ⟨q,rfl⟩: ∃q:Nat,r=q:=⟨r.toNat,by omega⟩
 have W:=fun (c0:AV) (hc0:c0= .nilT (.up b) 260 5∨c0= .ptr (.up b) 0) (e:Nat) (he:(Id.up b).isNw e=false)=>wr_spec (d:=e) (b:= .up b) hb he bld_reader hc0 [i6 x.st,i3 x.n,i6 x.c] (textR x.out) q hr (by unfold runeV at hr;omega) (by omega)
 dsimp only
 unfold rdBx
 rw [rdHd_snoc,rdPm_snoc]
 cases hx:x.out with
 |nil=>
  rw [hx] at W
  have W:=W _ (.inl rfl)
  rw [show textR []=[] from rfl] at W ⊢
  simp only [List.nil_append] at W ⊢
  rw [show byteRows []=[] from rfl] at W
  generalize byteRows (encN q)=B at *
  simp only [rdHd,rdPm]
  simp only [inSt,mpB,mpL,AV.mp,mpP,Pl.mp,List.cons_append,List.nil_append]
  simp -implicitDefEqProofs [c221,n1,n2,n3,n4,m1,m2,d4,d5]
  refine onH_mk _ _ (W _ rfl) ⟨?_,?_,?_,?_,?_,?_,?_⟩ ?_
  iterate 7 (· simp [hb])
  simp -implicitDefEqProofs
  refine postH_r ⟨?_,?_,?_,?_,?_,?_⟩<;>simp -implicitDefEqProofs [hib,hb]
 |cons a l=>
  rw [hx] at W
  have W:=W _ (.inr rfl)
  generalize byteRows (textR (a::l)++encN q)=B at *
  simp only [rdHd,rdPm]
  generalize byteRows (textR (a::l))=B0 at *
  simp only [inSt,mpB,mpL,AV.mp,mpP,Pl.mp,List.cons_append,List.nil_append]
  simp -implicitDefEqProofs [c221,n1,n2,n3,n4,m1,m2,d4,d5]
  refine onH_mk _ _ (W _ rfl) ⟨?_,?_,?_,?_,?_,?_,?_⟩ ?_
  iterate 7 (· simp [hb])
  simp -implicitDefEqProofs
  refine postH_r ⟨?_,?_,?_,?_,?_,?_⟩<;>simp -implicitDefEqProofs [hib,hb]
open Go.Proofs
structure Lb where
 n:List UInt8
 t:List UInt8
 deriving DecidableEq
structure Ru where
 n:List UInt8
 p:Bool
 l:Int
 s:Int
 f:Nat
 w:Int
 k:Int
 deriving DecidableEq
structure Gl where
 n:List UInt8
 t:Nat
 g:Int
 a:Int
 o:Int
 c:Int
 lb:List Lb
 ru:List Ru
 deriving DecidableEq
structure Cf where
 gs:List Gl
 r:Int
 v:Int
 i:Int
 x:Int
 y:Int
def Lb.row (x:Lb):List AV:=[.str x.n,.str x.t]
def Ru.row (x:Ru):List AV:=[.str x.n,.bool x.p,i6 x.l,i6 x.s,u x.f,i6 x.w,i6 x.k]
def Gl.row (x:Gl):List AV:=[.str x.n,.int .u32 x.t,i6 x.g,i6 x.a,i6 x.o,i6 x.c,.sl (x.lb.map Lb.row),.sl (x.ru.map Ru.row)]
def Cf.row (x:Cf):List AV:=[.sl (x.gs.map Gl.row),i6 x.r,i6 x.v,i6 x.i,i6 x.x,i6 x.y]
open Go.Proofs
end Go.Ai
namespace Go.Ai
open Go.Proofs
open Go.Proofs
theorem stepF_bad (s:List UInt8) (i n r0 least:Nat) (h:(stepF s i n r0 least).1= -1):(stepF s i n r0 least).2=1:=by
 unfold stepF at h ⊢
 split
 ·rename_i hc
  rw [if_pos hc] at h
  simp only at h
  omega
 ·rfl
theorem stepR_bad (s:List UInt8) (i:Nat) (h:(stepR s i).1= -1):(stepR s i).2=1:=by
 unfold stepR at h ⊢
 simp only at h ⊢
 repeat' split
 all_goals first
  |rfl
  |(simp_all;done)
  |(simp_all;exact stepF_bad _ _ _ _ _ (by assumption))
theorem stepF_one (s:List UInt8) (i n r0 least:Nat) (hn:1≤n) (h:(stepF s i n r0 least).1≠ -1):(stepF s i n r0 least).2≠1:=by
 unfold stepF at h ⊢
 split
 ·simp only;omega
 ·rename_i hc
  rw [if_neg hc] at h
  exact absurd rfl h
theorem stepR_one (s:List UInt8) (i:Nat) (h:(stepR s i).1≠ -1) (h1:(stepR s i).2=1):(stepR s i).1<128:=by
 by_cases hb:byt s i<128
 ·unfold stepR
  simp only [hb,if_true];omega
 ·exfalso
  unfold stepR at h h1
  simp only [hb,if_false] at h h1
  split at h
  ·rename_i q;rw [if_pos q] at h1;exact stepF_one _ _ _ _ _ (by omega) h h1
  ·rename_i q;rw [if_neg q] at h1
   split at h
   ·rename_i q;rw [if_pos q] at h1;exact stepF_one _ _ _ _ _ (by omega) h h1
   ·rename_i q;rw [if_neg q] at h1
    split at h
    ·rename_i q;rw [if_pos q] at h1;exact stepF_one _ _ _ _ _ (by omega) h h1
    ·exact absurd rfl h
theorem rune_w (s:List UInt8) (i:Nat) (h:i<s.length):(runeAt s i).2=(stepR s i).2:=by
 rw [step_rune s i h]
 split
 ·rename_i hb;rw [stepR_bad s i hb]
 ·rfl
def goodR (l:List Int):Bool:=l.all fun r=>decide (0≤r)
theorem stepF_nn (s:List UInt8) (i n r0 least:Nat):(stepF s i n r0 least).1= -1∨0≤(stepF s i n r0 least).1:=by
 unfold stepF
 split
 ·right;simp only;omega
 ·left;rfl
theorem stepR_nn (s:List UInt8) (i:Nat):(stepR s i).1= -1∨0≤(stepR s i).1:=by
 unfold stepR
 simp only
 repeat' split
 all_goals first
  |exact stepF_nn _ _ _ _ _
  |(left;rfl)
  |(right;simp only;omega)
theorem decodeL_at (s:List UInt8) (i:Nat):runeAt s i=(((Lib.decodeL (s.drop i)).1:Int),(Lib.decodeL (s.drop i)).2):=by
 have:=Lib.decodeL_drop ⟨s.toArray⟩ i
 simp only at this
 rw [this]
 rfl
theorem good_go (s:List UInt8): ∀(n i:Nat),s.length - i≤n→Lib.validGoD n (s.drop i)=goodR (runesL s i)
 |0,i,h=>by
  rw [runesL_out (by omega)];rfl
 |n+1,i,h=>by
  by_cases g:i<s.length
  ·have hne:s.drop i≠[]:=by
    intro e
    have:=congrArg List.length e
    rw [List.length_drop] at this
    simp at this;omega
   have sr:=step_rune s i g
   have da:=decodeL_at s i
   rw [da] at sr
   simp only [Lib.validGoD,if_neg hne]
   rw [runesL_in g]
   have pos:=stepR_pos s i
   by_cases hb:(stepR s i).1= -1
   ·rw [if_pos hb] at sr
    simp only [Prod.mk.injEq] at sr
    rw [if_pos ⟨by omega,sr.2⟩]
    simp [goodR,hb]
   ·rw [if_neg hb] at sr
    have e1:((Lib.decodeL (s.drop i)).1:Int)=(stepR s i).1:=congrArg Prod.fst sr
    have e2:(Lib.decodeL (s.drop i)).2=(stepR s i).2:=congrArg Prod.snd sr
    rw [if_neg (by
     rintro ⟨q1,q2⟩
     have:=stepR_one s i hb (by omega)
     omega)]
    rw [List.drop_drop,e2,good_go s n (i+(stepR s i).2) (by omega)]
    have h0:0≤(stepR s i).1:=by rcases stepR_nn s i with h|h;exact absurd h hb;exact h
    simp [goodR,h0]
  ·have e:s.drop i=[]:=List.drop_eq_nil_of_le (by omega)
   simp only [Lib.validGoD,e,if_true]
   rw [runesL_out g];rfl
theorem validD_good (s:List UInt8):Lib.validD s=goodR (runesL s 0):=by
 have:=good_go s s.length 0 (by omega)
 rwa [List.drop_zero] at this
theorem rgood_spec (s:List UInt8) (hl:s.length≤900000):Sp Tryz.prog gl 59 [.str s] (.bool (goodR (runesL s 0))):=by
 refine s59 rfl rfl ?_
 have R:=runes_spec s hl
 have len:=runesL_len s s.length 0 (by omega)
 have rl:=runeRows_len (runesL s 0)
 have rat: ∀i (h:i<(runesL s 0).length),(runeRows (runesL s 0))[i]?=some [.int .i32 (runesL s 0)[i]]:=by intro i h;simp [runeRows,i3,h]
 generalize runesL s 0=L at *
 obtain ⟨G,hG⟩: ∃G,G=goodR L:=⟨_,rfl⟩
 rw [←hG]
 generalize runeRows L=RR at *
 simp -implicitDefEqProofs [c59]
 refine onC_mk _ (R) ?_
 simp -implicitDefEqProofs
 refine wp_lpk (α:=Nat) (fun i=>⟨[(3,.sl RR),(4,i6 i)],[],[]⟩) (fun i=>i≤L.length∧goodR (L.drop i)=G) (fun i=>L.length - i) ?_ 0 ?_ ?_
 ·rintro K i hK ⟨h1,h2⟩
  by_cases g:i<L.length
  ·have t1:IntKind.i64.wrap ((i:Int)+1)=(i+1:Nat):=by rw [wrap_i64]<;>omega
   have ra:=rat i g
   rw [List.drop_eq_getElem_cons g] at h2
   simp only [goodR,List.all_cons] at h2
   have gR:i<RR.length:=by omega
   have ra': ∀h,RR[i]'h=[.int .i32 L[i]]:=fun h=>by rw [List.getElem?_eq_getElem h] at ra;exact Option.some.inj ra
   have fin:decide (0≤L[i])=true→ ∀σ',Weak σ' ⟨[(3,.sl RR),(4,i6 (i+1:Nat))],[],[]⟩→K σ':=fun hd σ' hσ=>hK (i+1) σ' ⟨by omega,by rw [hd,Bool.true_and] at h2;exact h2⟩ (by omega) hσ
   generalize L[i]=r at *
   by_cases hr:r<0
   ·rw [decide_eq_false (by omega),Bool.false_and] at h2
    subst h2
    simp -implicitDefEqProofs [rl,g,gR,ra',hr]
   ·have fin:=fin (decide_eq_true (by omega))
    clear hK
    simp -implicitDefEqProofs [rl,g,gR,ra',hr]
    refine fin _ (weak_mk ?_ ?_ ?_ ?_ ?_ ?_)<;>simp -implicitDefEqProofs [t1]
  ·obtain rfl:i=L.length:=by omega
   rw [List.drop_length] at h2
   have:G=true:=by rw [←h2];rfl
   subst this
   simp -implicitDefEqProofs [rl]
 ·exact ⟨Nat.zero_le _,hG.symm⟩
 ·refine weak_mk ?_ ?_ ?_ ?_ ?_ ?_<;>simp -implicitDefEqProofs
theorem tcount_spec (s:List UInt8) (hl:s.length≤900000):Sp Tryz.prog gl 86 [.str s] (i6 (runesL s 0).length):=by
 refine s86 rfl rfl ?_
 obtain ⟨R,hR⟩: ∃R,R=(runesL s 0).length:=⟨_,rfl⟩
 rw [←hR]
 simp -implicitDefEqProofs [c86]
 refine wp_lpk (α:=Nat×Nat) (fun x=>⟨[(3,i6 x.2),(5,.itp 5)],[(.it 5,[.itr s x.1])],[]⟩)
  (fun x=>x.2≤x.1∧x.2+(runesL s x.1).length=R∧x.1≤s.length+3) (fun x=>s.length+4 - x.1) ?_ (0,0) ?_ ?_
 ·rintro K ⟨i,n⟩ hK ⟨h1,h2,h3⟩
  simp only at h1 h2 h3
  by_cases g:i<s.length
  ·rw [runesL_in g] at h2
   simp only [List.length_cons] at h2
   have sw:=rune_w s i g
   have sl:=stepR_lt g
   have sp:=stepR_pos s i
   have fin: ∀σ',Weak σ' ⟨[(3,i6 (n+1:Nat)),(5,.itp 5)],[(.it 5,[.itr s (i+(stepR s i).2)])],[]⟩→K σ':=
    fun σ' hσ=>hK (i+(stepR s i).2,n+1) σ' ⟨by simp only;omega,by simp only;omega,by simp only;omega⟩ (by simp only;omega) hσ
   have t1:IntKind.i64.wrap ((n:Int)+1)=(n+1:Nat):=by rw [wrap_i64]<;>omega
   clear hK hR h2
   simp -implicitDefEqProofs [g,sw]
   refine fin _ (weak_mk ?_ ?_ ?_ ?_ ?_ ?_)<;>simp -implicitDefEqProofs [t1]
  ·rw [runesL_out g] at h2
   have:n=R:=by simpa using h2
   subst this
   simp -implicitDefEqProofs [g]
 ·exact ⟨Nat.le_refl _,by simp [hR],by simp⟩
 ·refine weak_mk ?_ ?_ ?_ ?_ ?_ ?_<;>simp -implicitDefEqProofs
open Go.Proofs
theorem first_gl:List.lookup 0 gl=some ((List.range 256).map fun c=>Value.int .u8 (Lib.firstT c)):=by kernel_rfl
theorem accept_gl:List.lookup 1 gl=some ((List.range 32).map fun c=>Value.int .u8 (if c%2=0 then Lib.accLo (c / 2) else Lib.accHi (c / 2))):=by kernel_rfl
theorem utf8_tabs {w:World} (h: ∀i us,List.lookup i gl=some us→ ∀(o:Nat) (u:Value),us[o]?=some u→w.cell? ⟨i,o,none⟩=some u):Lib.Utf8Tabs 0 1 w:=by
 refine ⟨fun c hc=>?_,fun i hi=>⟨?_,?_⟩⟩
 ·exact h _ _ first_gl c _ (by simp [hc])
 ·refine h _ _ accept_gl (2*i) _ ?_
  have h1:2*i<32:=by omega
  have h2:2*i%2=0:=by omega
  have h3:2*i / 2=i:=by omega
  simp [h1,h2,h3]
 ·refine h _ _ accept_gl (2*i+1) _ ?_
  have h1:2*i+1<32:=by omega
  have h2: ¬(2*i+1)%2=0:=by omega
  have h3:(2*i+1) / 2=i:=by omega
  simp only [List.getElem?_map,List.getElem?_range h1,Option.map_some,if_neg h2,h3]
theorem valid_spec (s:List UInt8) (hl:s.length≤900000):Sp Tryz.prog gl 123 [.str s] (.bool (Lib.validD s)):=by
 refine shelf_specG Tryz.func123 (by kernel_rfl) (by kernel_rfl) ?_
 intro S gb w vs hvs hag hgl
 simp only [PRlist,PR] at hvs
 obtain ⟨_,_,rfl,rfl,rfl⟩:=hvs
 have hs:(ByteArray.mk s.toArray).size≤9223372036854775807:=by
  have:(ByteArray.mk s.toArray).size=s.length:=rfl
  omega
 exact (Any.utf8_ValidString laysValid ⟨s.toArray⟩ w hs (utf8_tabs hgl)).mono fun e w' ⟨he,hw⟩=>⟨_,he,hw,by simp [PR]⟩
theorem tgood_spec (s:List UInt8) (hl:s.length≤900000):Sp Tryz.prog gl 85 [.str s] (.bool (goodR (runesL s 0))):=by
 refine s85 rfl rfl ?_
 have V:=valid_spec s hl
 rw [validD_good] at V
 generalize goodR (runesL s 0)=b at *
 simp -implicitDefEqProofs [c85]
 refine onC_mk _ (V) ?_
 simp -implicitDefEqProofs
end Go.Ai
