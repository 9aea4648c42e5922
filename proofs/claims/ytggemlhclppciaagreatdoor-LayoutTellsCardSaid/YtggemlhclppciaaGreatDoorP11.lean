/- P11: a part of the proof: the rules, or what functions compute. Conditions: as each theorem says. -/
import Derived.Test.YtggemlhclppciaaGreatDoorP10
import Derived.Test.YtggemlhclppciaaGreatDoorCode
import Derived.Test.YtggemlhclppciaaGreatDoorLib10
import Derived.Shelf.Strings.Repeat
import Derived.Test.YtggemlhclppciaaGreatDoorP5
import Derived.Test.YtggemlhclppciaaGreatDoorP1
import Derived.Test.YtggemlhclppciaaGreatDoorP2
import Derived.Test.YtggemlhclppciaaGreatDoorP4
import Derived.Lib.Join
import Derived.Lib.ItoaNum
import Derived.Lib.Bytealg
set_option linter.unusedSimpArgs false
set_option linter.unusedVariables false
set_option maxRecDepth 20000
namespace Go.Ai
open Go.Proofs
theorem heavy_spec (L:List It):Sp Tryz.prog gl 9 [.sl (itRows L)] (.bool (wg L 40 400).isNone):=by
 refine s9 rfl rfl ?_
 have W:=weigh_spec 440 L 40 400 (by decide) (by decide) (by decide)
 have Z:=wgV_lt (wg L 40 400)
 generalize wgV (wg L 40 400)=v at *
 generalize (wg L 40 400).isNone=q at *
 subst Z
 simp -implicitDefEqProofs [c9]
 refine onC_mk _ (W) ?_
 simp -implicitDefEqProofs
mutual
theorem sI_bare: ∀(x y:It),sI (bareI x) (bareI y)=eqI x y
 | .mk n ws b ks l c,.mk n' ws' b' ks' l' c'=>by
  rw [bareI,bareI,sI,eqI,sIs_bare ks ks']
  have:sTs (ws.map bareT) (ws'.map bareT)=eqTs ws ws':=by
   induction ws generalizing ws' with
   |nil=>cases ws'<;>rfl
   |cons v r ih=>
    cases ws' with
    |nil=>rfl
    |cons w s=>
     rw [List.map_cons,List.map_cons,sTs,eqTs,ih]
     unfold sT eqT bareT
     simp
  rw [this]
  simp
theorem sIs_bare: ∀(A B:List It),sIs (bareL A) (bareL B)=eqIs A B
 |[],[]=>by rw [bareL,sIs,eqIs]
 |[],w::s=>by rw [bareL,eqIs_len [] (w::s) (by simp),sIs_len [] _ (by simp [bareL])]
 |v::r,[]=>by rw [eqIs_len (v::r) [] (by simp),sIs_len _ (bareL []) (by simp [bareL])]
 |v::r,w::s=>by rw [bareL,bareL,sIs,eqIs,sI_bare v w,sIs_bare r s]
end
theorem eqIs_refl (A:List It):eqIs A A=true:=(eqIs_iff A A).2 rfl
mutual
theorem bareI_bd: ∀x:It,bdI x→bdI (bareI x)∧cntI (bareI x)=cntI x∧depI (bareI x)=depI x
 | .mk n ws b ks ln co,h=>by
  rw [bdI] at h
  obtain ⟨⟨h1,h2,h3⟩,h4⟩:=h
  obtain ⟨q1,q2,q3⟩:=bareL_bd ks h4
  refine ⟨?_,by rw [bareI,cntI,cntI,q2],by rw [bareI,depI,depI,q3]⟩
  rw [bareI,bdI]
  refine ⟨⟨by simpa using h1,h2,fun w hw=>?_⟩,q1⟩
  obtain ⟨t,ht,rfl⟩:=List.mem_map.1 hw
  exact h3 t ht
theorem bareL_bd: ∀L:List It,bdL L→bdL (bareL L)∧cntL (bareL L)=cntL L∧depL (bareL L)=depL L
 |[],_=>⟨by rw [bareL,bdL];trivial,rfl,rfl⟩
 |x::L,h=>by
  rw [bdL] at h
  obtain ⟨q1,q2,q3⟩:=bareI_bd x h.1
  obtain ⟨p1,p2,p3⟩:=bareL_bd L h.2
  rw [bareL,bdL,cntL,cntL,depL,depL,q2,p2,q3,p3]
  exact ⟨⟨q1,p1⟩,rfl,rfl⟩
end
open Go.Proofs
mutual
theorem bareI_idem: ∀x:It,bareI (bareI x)=bareI x
 | .mk n ws b ks l c=>by
  rw [bareI,bareI,bareL_idem ks,List.map_map]
  rfl
theorem bareL_idem: ∀L:List It,bareL (bareL L)=bareL L
 |[]=>rfl
 |x::L=>by rw [bareL,bareL,bareI_idem x,bareL_idem L]
end
set_option maxHeartbeats 4000000 in
theorem layoutTells_of (AW:Sp Tryz.prog gl 8 [] (.bool true)) (A B:List It):Sp Tryz.prog gl 3 [.sl (itRows A),.sl (itRows B)] (.bool true):=by
 refine s3 rfl rfl ?_
 have H1:=heavy_spec A
 have H2:=heavy_spec B
 cases e1:wg A 40 400 with
 |none=>
  rw [e1] at H1
  generalize itRows A=AR at *
  generalize itRows B=BR at *
  simp -implicitDefEqProofs [c3]
  refine onC_mk _ (AW) ?_
  simp -implicitDefEqProofs
  refine onC_mk _ (H1) ?_
  simp -implicitDefEqProofs
 |some q1=>
  rw [e1] at H1
  cases e2:wg B 40 400 with
  |none=>
   rw [e2] at H2
   generalize itRows A=AR at *
   generalize itRows B=BR at *
   simp -implicitDefEqProofs [c3]
   refine onC_mk _ (AW) ?_
   simp -implicitDefEqProofs
   refine onC_mk _ (H1) ?_
   simp -implicitDefEqProofs
   refine onC_mk _ (H2) ?_
   simp -implicitDefEqProofs
  |some q2=>
   rw [e2] at H2
   obtain ⟨a1,a2,a3⟩:=wg_ok e1
   obtain ⟨b1,b2,b3⟩:=wg_ok e2
   have RA:=rbareB_spec _ A (Nat.le_refl _) (by omega) a3
   have RB:=rbareB_spec _ B (Nat.le_refl _) (by omega) b3
   have LC:=fun d=>lcount_spec A (by omega) (by omega) d
   have LC:=Sp.of_h LC
   have RC:=rcount14_spec _ A (Nat.le_refl _) (by omega)
   have LD:=Sp.of_h fun d=>ldepth_spec A (by omega) (by omega) d
   have RD:=rdepth14_spec _ A (Nat.le_refl _) (by omega)
   have LA:=lBare_spec _ A (Nat.le_refl _) (by omega) a3
   obtain ⟨x1,x2,x3⟩:=bareL_bd A a3
   obtain ⟨y1,y2,y3⟩:=bareL_bd B b3
   have S1:=r14_same _ (bareL A) (bareL A) (Nat.le_refl _) (by omega) x1
   have S2:=r14_same _ (bareL A) (bareL B) (Nat.le_refl _) (by omega) x1
   rw [sIs_bare,eqIs_refl] at S1
   rw [sIs_bare] at S2
   have L1:=lsame_spec _ A B (Nat.le_refl _) (by omega) a3
   have L2:=lsame_spec _ A (bareL A) (Nat.le_refl _) (by omega) a3
   have L3:=lsame_spec _ B (bareL B) (Nat.le_refl _) (by omega) b3
   rw [show eqIs A (bareL A)=true from (eqIs_iff _ _).2 (bareL_idem A).symm] at L2
   rw [show eqIs B (bareL B)=true from (eqIs_iff _ _).2 (bareL_idem B).symm] at L3
   generalize eqIs A B=q at *
   generalize cntL A=ca at *
   generalize depL A=da at *
   generalize itRows (bareL A)=BA at *
   generalize itRows (bareL B)=BB at *
   generalize itRows A=AR at *
   generalize itRows B=BR at *
   simp -implicitDefEqProofs [c3]
   refine onC_mk _ (AW) ?_
   simp -implicitDefEqProofs
   refine onC_mk _ (H1) ?_
   simp -implicitDefEqProofs
   refine onC_mk _ (H2) ?_
   simp -implicitDefEqProofs
   refine onC_mk _ (RA) ?_
   simp -implicitDefEqProofs
   refine onC_mk _ (RB) ?_
   simp -implicitDefEqProofs
   refine onC_mk _ (LC) ?_
   simp -implicitDefEqProofs
   refine onC_mk _ (RC) ?_
   simp -implicitDefEqProofs
   refine onC_mk _ (LD) ?_
   simp -implicitDefEqProofs
   refine onC_mk _ (RD) ?_
   simp -implicitDefEqProofs
   refine onC_mk _ (LA) ?_
   simp -implicitDefEqProofs
   refine onC_mk _ (S1) ?_
   simp -implicitDefEqProofs
   refine onC_mk _ (L1) ?_
   simp -implicitDefEqProofs
   refine onC_mk _ (S2) ?_
   simp -implicitDefEqProofs
   refine onC_mk _ (LA) ?_
   simp -implicitDefEqProofs
   refine onC_mk _ (L2) ?_
   simp -implicitDefEqProofs
   refine onC_mk _ (L3) ?_
   simp -implicitDefEqProofs
end Go.Ai
namespace Go.Ai
open Go.Proofs Go.Shelf
def ren_laysRep:Ren:={
 f:=fun x=>match x with
  |105=>98
  |212=>134
  |99=>135
  |165=>136
  |166=>97
  |170=>137
  |169=>40
  |263=>176
  |264=>177
  |206=>178
  |240=>133
  |241=>179
  |276=>175
  |277=>207
  |n=>n
 t:=fun x=>match x with
  |9=>9
  |3=>3
  |4=>4
  |20=>20
  |0=>0
  |46=>173
  |109=>174
  |5=>5
  |72=>69
  |76=>138
  |51=>39
  |146=>220
  |53=>44
  |148=>222
  |70=>66
  |37=>67
  |75=>137
  |127=>106
  |164=>218
  |80=>73
  |n=>n
 g:=fun x=>x}
set_option maxRecDepth 100000 in
theorem laysRep:Lays.n105 Tryz.prog ren_laysRep where
 mixed:=by kernel_rfl
 f99:=Eq.trans Tryz.func135 (congrArg some (show Tryz.f135=Body.n99 ren_laysRep by kernel_rfl))
 f105:=Eq.trans Tryz.func98 (congrArg some (show Tryz.f98=Body.n105 ren_laysRep by kernel_rfl))
 f165:=Eq.trans Tryz.func136 (congrArg some (show Tryz.f136=Body.n165 ren_laysRep by kernel_rfl))
 f166:=Eq.trans Tryz.func97 (congrArg some (show Tryz.f97=Body.n166 ren_laysRep by kernel_rfl))
 f169:=Eq.trans Tryz.func40 (congrArg some (show Tryz.f40=Body.n169 ren_laysRep by kernel_rfl))
 f170:=Eq.trans Tryz.func137 (congrArg some (show Tryz.f137=Body.n170 ren_laysRep by kernel_rfl))
 f206:=Eq.trans Tryz.func178 (congrArg some (show Tryz.f178=Body.n206 ren_laysRep by kernel_rfl))
 f212:=Eq.trans Tryz.func134 (congrArg some (show Tryz.f134=Body.n212 ren_laysRep by kernel_rfl))
 f240:=Eq.trans Tryz.func133 (congrArg some (show Tryz.f133=Body.n240 ren_laysRep by kernel_rfl))
 f241:=Eq.trans Tryz.func179 (congrArg some (show Tryz.f179=Body.n241 ren_laysRep by kernel_rfl))
 f263:=Eq.trans Tryz.func176 (congrArg some (show Tryz.f176=Body.n263 ren_laysRep by kernel_rfl))
 f264:=Eq.trans Tryz.func177 (congrArg some (show Tryz.f177=Body.n264 ren_laysRep by kernel_rfl))
 f276:=Eq.trans Tryz.func175 (congrArg some (show Tryz.f175=Body.n276 ren_laysRep by kernel_rfl))
 f277:=Eq.trans Tryz.func207 (congrArg some (show Tryz.f207=Body.n277 ren_laysRep by kernel_rfl))
 t0:=Tryz.underlying0
 a0:=Tryz.isAgg0
 z0:=Tryz.sizeOf0
 v0:=Tryz.zeroValue0
 t3:=Tryz.underlying3
 a3:=Tryz.isAgg3
 z3:=Tryz.sizeOf3
 v3:=Tryz.zeroValue3
 t4:=Tryz.underlying4
 a4:=Tryz.isAgg4
 z4:=Tryz.sizeOf4
 v4:=Tryz.zeroValue4
 t5:=Tryz.underlying5
 a5:=Tryz.isAgg5
 z5:=Tryz.sizeOf5
 v5:=Tryz.zeroValue5
 t9:=Tryz.underlying9
 a9:=Tryz.isAgg9
 z9:=Tryz.sizeOf9
 v9:=Tryz.zeroValue9
 t20:=Tryz.underlying20
 a20:=Tryz.isAgg20
 z20:=Tryz.sizeOf20
 v20:=Tryz.zeroValue20
 t37:=Tryz.underlying67
 a37:=Tryz.isAgg67
 z37:=Tryz.sizeOf67
 v37:=Tryz.zeroValue67
 t46:=Tryz.underlying173
 a46:=Tryz.isAgg173
 z46:=Tryz.sizeOf173
 v46:=Tryz.zeroValue173
 t51:=Tryz.underlying39
 a51:=Tryz.isAgg39
 z51:=Tryz.sizeOf39
 v51:=Tryz.zeroValue39
 t53:=Tryz.underlying44
 a53:=Tryz.isAgg44
 z53:=Tryz.sizeOf44
 v53:=Tryz.zeroValue44
 t70:=Tryz.underlying66
 a70:=Tryz.isAgg66
 z70:=Tryz.sizeOf66
 v70:=Tryz.zeroValue66
 t72:=Tryz.underlying69
 a72:=Tryz.isAgg69
 z72:=Tryz.sizeOf69
 v72:=Tryz.zeroValue69
 t75:=Tryz.underlying137
 a75:=Tryz.isAgg137
 z75:=Tryz.sizeOf137
 v75:=Tryz.zeroValue137
 t76:=Tryz.underlying138
 a76:=Tryz.isAgg138
 z76:=Tryz.sizeOf138
 v76:=Tryz.zeroValue138
 t109:=Tryz.underlying174
 a109:=Tryz.isAgg174
 z109:=Tryz.sizeOf174
 v109:=Tryz.zeroValue174
 t127:=Tryz.underlying106
 a127:=Tryz.isAgg106
 z127:=Tryz.sizeOf106
 v127:=Tryz.zeroValue106
 t146:=Tryz.underlying220
 a146:=Tryz.isAgg220
 z146:=Tryz.sizeOf220
 v146:=Tryz.zeroValue220
 t148:=Tryz.underlying222
 a148:=Tryz.isAgg222
 z148:=Tryz.sizeOf222
 v148:=Tryz.zeroValue222
 t164:=Tryz.underlying218
 a164:=Tryz.isAgg218
 z164:=Tryz.sizeOf218
 v164:=Tryz.zeroValue218
end Go.Ai
namespace Go.Ai
open Go.Proofs Go.Shelf
theorem extraP:Builder.Extra Tryz.prog ren_laysRep where
 sizeBuilder:=by kernel_rfl
 liesBuilder:=by kernel_rfl
 t5:=Tryz.underlying5
 a5:=Tryz.isAgg5
 z5:=Tryz.sizeOf5
 v5:=Tryz.zeroValue5
 infoByte:=by kernel_rfl
 cellsByte:=by kernel_rfl
 sizeByte:=by kernel_rfl
 neB5:=by decide
theorem rep_spec (s:List UInt8) (c:Nat) (hc:c≤9223372036854775807) (hlen:s.length*c≤140737488355328):Sp Tryz.prog gl 98 [.str s,i6 c] (.str (Lib.repeatL s c)):=by
 refine shelf_spec (laysRep).f105 (by kernel_rfl) (by kernel_rfl) ?_
 intro S gb w vs hvs hag
 simp only [PRlist] at hvs
 obtain ⟨v1,_,rfl,p1,v2,_,rfl,p2,rfl⟩:=hvs
 simp only [PR] at p1 p2 ⊢
 subst p1
 subst p2
 exact (Any.strings_Repeat laysRep extraP ⟨s.toArray⟩ c w hc (by rw [Lib.size_eq];simpa using hlen)).mono fun e w' ⟨he,hw⟩=>⟨_,he,hw,rfl⟩
end Go.Ai
namespace Go.Ai
open Go.Proofs Go.Shelf
set_option maxRecDepth 100000 in
theorem laysWB:Lays.n167 Tryz.prog ren_laysJoin:={laysJoin with t5:=extraJ.t5,a5:=extraJ.a5,z5:=extraJ.z5,v5:=extraJ.v5,f167:=Eq.trans Tryz.func100 (congrArg some (show Tryz.f100=Body.n167 ren_laysJoin by kernel_rfl))}
end Go.Ai
namespace Go.Ai
open Go.Proofs Go.Shelf
def indS (d:Nat):List UInt8:=Lib.repeatL [32,32] d
theorem indS_len (d:Nat):(indS d).length=2*d:=by
 unfold indS
 rw [Lib.repeatL_length]
 simp;omega
theorem lprinter_at:bldAt Tryz.prog 69 71 3:=by unfold bldAt;kernel_rfl
theorem lws_spec {d:Nat} {b:Id} (hit:b.isIt=false) (hnwb:b.isNw d=false) {c0:AV} (hc0:c0= .nilT b 71 3∨c0= .ptr b 0) (l s:List UInt8) (n:Nat) (hl:l.length+s.length≤140737488355328):
  SpH Tryz.prog gl 97 d ⟨[.ptr b 0,.str s],[(b,[c0,.sl (byteRows l),i6 n])],[(.b b 1,bk 5)]⟩ ⟨.tup [.int .i64 s.length,.undef],[(b,[.ptr b 0,.sl (byteRows (l++s)),i6 n])],[(.b b 1,bk 5)]⟩:=
 ws_shelf (L:={laysJoin with}) extraJ (by kernel_rfl) (by kernel_rfl) hit hnwb (T:=71) (n:=3) (hc0.imp (fun h=>⟨h,lprinter_at⟩) id) (rest:=[i6 n]) l s hl
theorem lwb_spec {d:Nat} {b:Id} (hit:b.isIt=false) (hnwb:b.isNw d=false) (l:List UInt8) (n:Nat) (c:UInt8) (hl:l.length+1≤140737488355328):
  SpH Tryz.prog gl 100 d ⟨[.ptr b 0,.int .u8 c.toNat],[(b,[.ptr b 0,.sl (byteRows l),i6 n])],[(.b b 1,bk 5)]⟩ ⟨.undef,[(b,[.ptr b 0,.sl (byteRows (l++[c])),i6 n])],[(.b b 1,bk 5)]⟩:=
 wb_shelf laysWB extraJ (by kernel_rfl) (by kernel_rfl) hit hnwb (T:=71) (n:=3) (.inr rfl) (rest:=[i6 n]) l c hl
theorem lline_spec (d:Nat) (b:Id) (hb:b.isIt=false) (hbd:b.isNw d=false) (c0:AV) (hc0:c0= .nilT b 71 3∨c0= .ptr b 0) (l:List UInt8) (n:Nat) (hn:n≤100000) (ws:List (List UInt8)) (hw:ws.length≤1000000) (hl:l.length+(Lib.join ws [32]).length≤100000000000000):
  SpH Tryz.prog gl 65 d ⟨[.ptr b 0,.sl (strRows ws)],[(b,[c0,.sl (byteRows l),i6 n])],[(.b b 1,bk 5)]⟩ ⟨.tup [],[(b,[.ptr b 0,.sl (byteRows (l++(indS n++(Lib.join ws [32]++[10])))),i6 n])],[(.b b 1,bk 5)]⟩:=by
 refine h65 rfl ?_
 have hic:=inn_notNw hbd
 have J:=join_spec ws [32] (by omega) (by omega)
 have hi:=indS_len n
 have RP:=rep_spec [32,32] n (by omega) (by simp;omega)
 rw [show Lib.repeatL [32,32] n=indS n from rfl] at RP
 have W:=fun (e:Nat) (c1:AV) hc=>lws_spec (d:=e) (b:= .up b) hb rfl (c0:=c1) hc l (indS n) n (by omega)
 have W2:=fun (e:Nat)=>lws_spec (d:=e) (b:= .up b) hb rfl (c0:= .ptr (.up b) 0) (.inr rfl) (l++indS n) (Lib.join ws [32]) n (by rw [List.length_append];omega)
 have B:=fun (e:Nat)=>lwb_spec (d:=e) (b:= .up b) hb rfl (l++indS n++Lib.join ws [32]) n 10 (by simp;omega)
 rw [show l++(indS n++(Lib.join ws [32]++[10]))=l++indS n++Lib.join ws [32]++[10] by simp]
 generalize Lib.join ws [32]=j at *
 generalize l++indS n++j++[10]=r2 at *
 generalize l++indS n++j=r3 at *
 simp only [inSt,mpB,mpL,AV.mp,mpP]
 have e10:(10:UInt8).toNat=10:=rfl
 simp only [e10] at B
 rcases hc0 with rfl|rfl
 ·have W1:=fun e=>W e (.nilT (.up b) 71 3) (.inl rfl)
  clear W
  generalize l++indS n=r1 at *
  generalize indS n=r0 at *
  simp -implicitDefEqProofs [c65]
  refine onC_mk _ (RP) ?_
  simp -implicitDefEqProofs
  refine onH_mk _ _ (W1 _) ⟨?_,?_,?_,?_,?_,?_,?_⟩ ?_
  iterate 7 (· simp)
  simp -implicitDefEqProofs
  refine onC_mk _ (J) ?_
  simp -implicitDefEqProofs
  refine onH_mk _ _ (W2 _) ⟨?_,?_,?_,?_,?_,?_,?_⟩ ?_
  iterate 7 (· simp)
  simp -implicitDefEqProofs
  refine onH_mk _ _ (B _) ⟨?_,?_,?_,?_,?_,?_,?_⟩ ?_
  iterate 7 (· simp)
  simp -implicitDefEqProofs
  refine postH_n ⟨?_,?_,?_,?_,?_,?_⟩<;>simp -implicitDefEqProofs [hic,hb]
 ·have W1:=fun e=>W e (.ptr (.up b) 0) (.inr rfl)
  clear W
  generalize l++indS n=r1 at *
  generalize indS n=r0 at *
  simp -implicitDefEqProofs [c65]
  refine onC_mk _ (RP) ?_
  simp -implicitDefEqProofs
  refine onH_mk _ _ (W1 _) ⟨?_,?_,?_,?_,?_,?_,?_⟩ ?_
  iterate 7 (· simp)
  simp -implicitDefEqProofs
  refine onC_mk _ (J) ?_
  simp -implicitDefEqProofs
  refine onH_mk _ _ (W2 _) ⟨?_,?_,?_,?_,?_,?_,?_⟩ ?_
  iterate 7 (· simp)
  simp -implicitDefEqProofs
  refine onH_mk _ _ (B _) ⟨?_,?_,?_,?_,?_,?_,?_⟩ ?_
  iterate 7 (· simp)
  simp -implicitDefEqProofs
  refine postH_n ⟨?_,?_,?_,?_,?_,?_⟩<;>simp -implicitDefEqProofs [hic,hb]
open Go.Proofs
set_option maxHeartbeats 2000000 in
theorem lright_spec (L:List It) (hc:cntL L≤90000) (hd:depL L≤90000) (htx: ∀p∈flatL L 1,txIt p.2∧p.1≤100000) (D:Nat):SpH Tryz.prog gl 19 D ⟨[.sl (itRows L)],[],[]⟩ ⟨.bool (okAll 0 (flatL L 1)),[],[]⟩:=by
 refine h19 rfl ?_
 have W:=fun d=>walk_spec L d
 have IT:=walk_iter L (.nw 8 (.n 1)) rfl (by omega) hd
 have fl:=flatL_len L 1
 rw [toldL_flat] at IT
 have hfl:(flatL L 1).length≤90000:=by omega
 generalize flatL L 1=FL at *
 generalize itRows L=RR at *
 simp only [inSt,mpB,mpL,AV.mp,mpP,Pl.mp,c19,wpF_sq,wpF_c,wpF_bl]
 simp -implicitDefEqProofs [wpF_sq,wpF_c,wpF_bl]
 refine onH_mk _ _ (W _) ⟨?_,?_,?_,?_,?_,?_,?_⟩ ?_
 iterate 7 (· simp)
 simp -implicitDefEqProofs [wpF_sq,wpF_c,wpF_bl]
 refine ⟨by simp -implicitDefEqProofs,62,[.ptr (.nw 8 (.n 1)) 0],[(.nw 8 (.n 1),[.sl RR])],FL.map encF,rfl,?_,IT,?_,?_⟩
 ·intro d cs h
  simp only [lkB] at h
  split at h
  ·rename_i e
   subst e
   cases h
   simp -implicitDefEqProofs [wkB]
  ·cases h
 ·intro x hx
  obtain ⟨p,_,rfl⟩:=List.mem_map.1 hx
  rfl
 ·refine wpRs_inv (fun k τ=>τ=rdST RR k∧okAll 0 FL=okAll k (FL.drop k)∧k≤FL.length) (FL.map encF) 0 _ ⟨rfl,by rw [List.drop_zero],Nat.zero_le _⟩ ?_ ?_
  ·rintro j x τ hx ⟨rfl,h2,h3⟩
   rw [Nat.zero_add] at h2 h3 ⊢
   rw [List.getElem?_map] at hx
   cases hp:FL[j]? with
   |none=>rw [hp] at hx;cases hx
   |some p=>
    rw [hp] at hx
    cases hx
    obtain ⟨hj,he⟩:=List.getElem?_eq_some_iff.1 hp
    obtain ⟨dd,y⟩:=p
    have hq:=htx _ (List.mem_of_getElem? hp)
    have ho:okAll 0 FL=(okIt (j+1) (dd,y)&&okAll (j+1) (FL.drop (j+1))):=by
     rw [h2,List.drop_eq_getElem_cons hj,he];rfl
    refine lright_round RR j (by omega) dd hq.2 y hq.1 _ (fun h=>?_) (fun h=>?_)
    ·refine ⟨rfl,?_,by omega⟩
     rw [ho,h,Bool.true_and]
    ·rw [h,Bool.false_and] at ho
     rw [ho]
     simp only [rdST]
     simp -implicitDefEqProofs [postRF]
     refine postH_r ⟨?_,?_,?_,?_,?_,?_⟩<;>simp -implicitDefEqProofs
  ·rintro τ ⟨rfl,h2,h3⟩
   rw [Nat.zero_add,List.length_map,List.drop_length] at h2
   have h2:okAll 0 FL=true:=h2
   rw [h2]
   simp only [rdST]
   simp -implicitDefEqProofs [wpF_c,postRF]
   refine postH_r ⟨?_,?_,?_,?_,?_,?_⟩<;>simp -implicitDefEqProofs
end Go.Ai
namespace Go.Ai
open Go.Proofs Go.Shelf Go.RowKit Go.Sort Go.Lib
theorem holds_zero0 (w:World) (T:TypeId) (nd:Nat) (hs:nd≤24):Holds (fun (b:UInt8)=>Value.int .u8 (b.toNat:Int)) (w.alloc (.cells Lib.zeros24 T)) w.heap.size 0 (Array.replicate nd (0:UInt8)):=fun j hj=>by
 have hj':j<nd:=by simpa using hj
 refine ⟨?_,World.frozen?_alloc_new _ _ _ _⟩
 rw [World.cell?_alloc_new,zeros24_at _ (by omega),getElem!_pos _ j hj]
 simp
theorem below_grow (w:World) (os:Array Obj) (k:Nat):Below w.heap.size w ((grow w os).drewN k):=by
 refine ⟨rfl,rfl,rfl,?_,fun i hi=>?_⟩
 ·show w.heap.size≤(w.heap++os).size
  simp
 ·show (w.heap++os)[i]?=w.heap[i]?
  exact Array.getElem?_append_left hi
set_option maxHeartbeats 6400000 in
set_option maxRecDepth 100000 in
theorem fmtUint_calls (u:Nat) (hu1:100≤u) (hu64:u<18446744073709551616) (w:World) (htab: ∀q,q<20→w.cell? ⟨2,q,none⟩=some (.int .u64 ((10^q:Nat):Int))):
  Calls Tryz.prog 126 #[.int .u64 u,.int .i64 10] w fun e w'=>e= .returned (.string ⟨(Lib.decDigits u).toArray⟩)∧Below w.heap.size w w':=by
 have hnd20:Lib.nDigits u≤20:=by have:=Lib.numDigits_eq u (by omega) hu64;split at this<;>omega
 have hal:Tryz.prog.arrayLen 206=24:=by kernel_rfl
 have hsl: ∀W,(Instr.sliceAt 206 (.pointer (some ⟨w.heap.size,0,none⟩)) none (some (.int .i64 (Lib.nDigits u:Int))) none).run Tryz.prog W= .ok (.slice (some ⟨w.heap.size,0,none⟩) (Lib.nDigits u) 24) W:=fun W=>by
  rw [run_sliceAt_array_h W 206 ⟨w.heap.size,0,none⟩ (by kernel_rfl) .i64 (Lib.nDigits u:Int) (by omega) (by rw [hal];omega)]
  go_simp
 have hH0:=holds_zero0 w 206 (Lib.nDigits u) (by omega)
 have hfmt:=Any.internal_strconv_formatBase10 laysFmt w.heap.size 0 24 u (Array.replicate (Lib.nDigits u) 0) (w.alloc (.cells Lib.zeros24 206)) hH0 (by rw [Array.size_replicate];exact Lib.lt_pow_nDigits u) hu64 (by rw [Array.size_replicate];omega)
 rw [Array.size_replicate] at hfmt
 have HH0:=Lib.hid hH0
 clear hH0 hal
 have hnd:Calls Tryz.prog 166 #[.int .u64 u] (w.alloc (.cells Lib.zeros24 206)) fun e w'=>e= .returned (.int .i64 (Lib.nDigits u))∧w'=(w.alloc (.cells Lib.zeros24 206)):=
  numDigits_cells laysDig u (by omega) hu64 _ (fun q hq=>by
   have h1:=htab q hq
   have h2:=World.block_lt_of_cell? w _ h1
   exact (World.cell?_alloc_lt w _ _ h2).trans h1)
 go_enter Tryz.func126,Tryz.ntmps126
 go_wp2_with (first
  |(go_at_call 166;refine hnd.mono ?_;rintro e w' ⟨rfl,rfl⟩))
 go_at_call 167
 refine hfmt.mono ?_
 rintro e w' ⟨rfl,k,v',dk,rfl,hF⟩
 have hcv:(convert 67 9 (.slice (some ⟨w.heap.size,0,none⟩) (Lib.nDigits u) 24)).run Tryz.prog ((putRow (fun (b:UInt8)=>Value.int .u8 (b.toNat:Int)) (w.alloc (.cells Lib.zeros24 206)) w.heap.size 0 dk).drewN k)= .ok (.string ⟨(Lib.decDigits u).toArray⟩) ((putRow (fun (b:UInt8)=>Value.int .u8 (b.toNat:Int)) (w.alloc (.cells Lib.zeros24 206)) w.heap.size 0 dk).drewN k):=by
  have h:=run_convert_bytes_back (P:=Tryz.prog) ((putRow (fun (b:UInt8)=>Value.int .u8 (b.toNat:Int)) (w.alloc (.cells Lib.zeros24 206)) w.heap.size 0 dk).drewN k) 67 9 5 ⟨w.heap.size,0,none⟩ 24 (Lib.decDigits u) Tryz.underlying67 Tryz.underlying5 Tryz.underlying9 (fun j hj=>by
   rw [Lib.row_is_numeral hF j hj,Lib.add_plain,World.cell?_drewN]
   exact cell?_putRow (fun (b:UInt8)=>Value.int .u8 (b.toNat:Int)) _ w.heap.size 0 _ dk HH0.out (by rw [hF.size,Array.size_replicate]) j (by rw [hF.size];rw [Lib.decDigits_length] at hj;exact hj))
  rw [Lib.decDigits_length] at h
  exact h
 go_wp2
 go_ret
 refine ⟨rfl,?_⟩
 rw [alloc_eq_grow]
 obtain ⟨os',_,eg⟩:=putRow_grow_new (fun (b:UInt8)=>Value.int .u8 (b.toNat:Int)) w #[.cells Lib.zeros24 206] w.heap.size 0 dk (Nat.le_refl _)
 rw [eg]
 exact below_grow w os' k

theorem small_spec (n:Nat) (h:n<100):Sp Tryz.prog gl 165 [i6 n] (.str (Lib.decDigits n)):=by
 refine shelf_spec Tryz.func165 (by kernel_rfl) (by kernel_rfl) ?_
 intro S gb w vs hvs hag
 simp only [PRlist,PR] at hvs
 obtain ⟨_,_,rfl,rfl,rfl⟩:=hvs
 exact (Any.internal_strconv_small laysSmall n h w).mono fun e w' ⟨he,hw⟩=>⟨_,he,hw▸Below.refl _ _,by simp [PR]⟩
theorem tab_gl:List.lookup 2 gl=some ((List.range 20).map fun q=>Value.int .u64 ((10^q:Nat):Int)):=by kernel_rfl
theorem tab_cells {w:World} (h: ∀i us,List.lookup i gl=some us→ ∀(o:Nat) (u:Value),us[o]?=some u→w.cell? ⟨i,o,none⟩=some u) (q:Nat) (hq:q<20):w.cell? ⟨2,q,none⟩=some (.int .u64 ((10^q:Nat):Int)):=
 h 2 _ tab_gl q _ (by simp [hq])
theorem ifmt_spec (n:Nat) (h:n<18446744073709551616):Sp Tryz.prog gl 126 [u n,i6 10] (.str (Lib.decDigits n)):=by
 by_cases g:n<100
 ·refine s126 rfl rfl ?_
  have S:=small_spec n g
  generalize Lib.decDigits n=R at *
  have t1:IntKind.i64.wrap (n:Int)=n:=by rw [wrap_i64]<;>omega
  have g':(n:Int)<100:=by omega
  simp -implicitDefEqProofs [c126,t1,g,g']
  refine onC_mk _ S ?_
  simp -implicitDefEqProofs
 ·refine shelf_specG Tryz.func126 (by kernel_rfl) (by kernel_rfl) ?_
  intro S gb w vs hvs hag hgl
  simp only [PRlist,PR] at hvs
  obtain ⟨_,_,rfl,rfl,_,_,rfl,rfl,rfl⟩:=hvs
  exact (fmtUint_calls n (by omega) h w (tab_cells hgl)).mono fun e w' ⟨he,hw⟩=>⟨_,he,hw,by simp [PR]⟩
theorem fmt_spec (n:Nat) (h:n<18446744073709551616):Sp Tryz.prog gl 93 [u n,i6 10] (.str (Lib.decDigits n)):=by
 refine s93 rfl rfl ?_
 have S:=ifmt_spec n h
 generalize Lib.decDigits n=R at *
 simp -implicitDefEqProofs [c93]
 refine onC_mk _ S ?_
 simp -implicitDefEqProofs
open Go.Proofs
structure Ky where
 g:List UInt8
 r:List UInt8
 p:Bool
 e:Nat
 f:Bool
 deriving DecidableEq
structure Ms where
 g:List UInt8
 p:Bool
 ks:List Ky
 deriving DecidableEq
def Ky.row (k:Ky):List AV:=[.str k.g,.str k.r,.bool k.p,u k.e,.bool k.f]
def Ms.row (m:Ms):List AV:=[.str m.g,.bool m.p,.sl (m.ks.map Ky.row)]
def goes (m:Ms) (k:Ky):Bool:=m.g==k.g&&m.p==k.p&&decide (m.ks.length<8)
open Go.Proofs
end Go.Ai
namespace Go.Ai
theorem decDigits_eq (n:Nat):Lib.decDigits n=dec n:=by
 induction n using Nat.strongRecOn with
 |_ n ih=>
  by_cases h:n<10
  ·rw [Lib.decDigits,dif_pos h,dec_lt h]
  ·rw [Lib.decDigits,dif_neg h,dec_ge h,ih _ (by omega)]
open Go.Proofs
def fl (b:Bool):Int:=if b=true then 1 else 0
end Go.Ai
