/- P21: a part of the proof: the rules, or what functions compute. Conditions: as each theorem says. -/
import Derived.Test.YtidcomakahbepaaGreatDoorP19
import Derived.Test.YtidcomakahbepaaGreatDoorP20
import Derived.Test.YtidcomakahbepaaGreatDoorP17
import Derived.Test.YtidcomakahbepaaGreatDoorP10
set_option linter.unusedSimpArgs false
set_option linter.unusedVariables false
set_option maxRecDepth 20000
namespace Go.Ai
open Go.Proofs
def cntOk (c:Int) (st:RS):Prop:=mhG c st≤mhT c st∧mhT c st≤9223372036854775807
def ringsOk (x:Gl) (t:Nat) (st:RS) (i:Nat):Prop:=RingOk (kN x i) (t / wN x i) (mrS (kN x) (mhS x.c st) i)
theorem pc_nil (c:Int) (t:Nat):pcG c t []=0∧pcT c t []=0:=by unfold pcG pcT;split<;>exact ⟨rfl,rfl⟩
theorem nwR_free {s:Nat} (hs:s≠13) (i:Nat):(Id.nw 13 (R0 i)).isNw s=false:=by
 have hs': ¬13=s:=fun e=>hs e.symm
 simp [R0,Id.isNw,hs']
theorem nwB_free {s:Nat} (hs:s≠13) (i:Nat):(Id.nw 13 (B0 i)).isNw s=false:=by
 have hs': ¬13=s:=fun e=>hs e.symm
 simp [B0,Id.isNw,hs']
set_option maxHeartbeats 1000000 in
theorem mget_any (x:Gl) (hf:x.Fit) (hl':x.ru.length≤10) (hx:goalP x=true) (t:Nat) (ht:t≤253402300799) (st:RS) (hl:rsLe st 1000000) (d:Nat) (c:Id) (hc:c.isIt=false) (hd:c.isNw d=false) (O:Out)
  (h0: ¬cntOk x.c st→O=rgX c)
  (h1:cntOk x.c st→(∀i,i<(winP x).length→ringsOk x t st i)→O=mgO d c x (winP x).length (intRows (winP x)) (pF x.c t) (pT x.c t) (mhG x.c st) (mhT x.c st) t (flagN st).2 (kN x) (wN x) (mhS x.c st))
  (h2:cntOk x.c st→ ∀i,i<(winP x).length→ ¬ringsOk x t st i→O=rgX c):
  SpH Tryz.prog gl 29 d ⟨[.ptr c 0,.agg x.row,i6 t],[(c,rdv st)],[]⟩ O:=by
 refine h29 rfl ?_
 have hi:=inn_notNw hd
 have hw:=goal_wd hx hl'
 have hn:=goal_n hl'
 have hn1:=goal_n1 hx
 have hk:=goal_k hx hl'
 have NW:SpH Tryz.prog gl 35 13 ⟨[.agg x.row],[],[]⟩ ⟨.tup [.ptr (.nw 13 (.n 16)) 0,i6 0],mtB (.nw 13 (.n 16)) (.nw 13 (.n 40)) (fun i=> .nw 13 (R0 i)) (fun i=> .nw 13 (B0 i)) x (winP x).length (intRows (winP x)) (kN x) (wN x) 0 [] false,[]⟩:=mnew_spec x hf hl' hx (winP x).length hn hn1 rfl (gN x) hw.gg (wdN x) hw.wd 13
 have MV:=mmove_spec (.nw 13 (.n 16)) (.nw 13 (.n 40)) (fun i=> .nw 13 (R0 i)) (fun i=> .nw 13 (B0 i)) (nms0 13) x (winP x).length hn (intRows (winP x)) (kN x) (wN x) hk 0 t [] ⟨fun e he=>(by cases he),fun e he=>(by cases he),fun i hi=>by simp [sumT,sm]⟩ false (Nat.zero_le _) ht 21 rfl
 have LP:=fun fr tt cg ct sd C D q1 q2 q3 q4 st hl h1 h2 e bx=>mget_loop x (winP x).length hn hn1 (gN x) hw.gg (wdN x) (fun i hi=>(hw.wd i hi).2) (intRows (winP x)) (by rw [intRows_len]) (fun i hi=>by
  have:=(hw.wd i hi).1
  simp only [intRows,List.getElem?_map,this,Option.map_some]) t ht st hl fr tt cg ct sd C D q1 q2 q3 q4 d c hc hd O h1 h2 e bx
 have FL:=wFlag_spec st hl 28 (.up c) hc rfl
 have l1:=flagN_le hl
 have N1:=fun e he=>wNum_spec (flagN st).1 l1 e (.up c) hc he
 have l2:=getN_le l1
 have N2:=fun e he=>wNum_spec (getN (flagN st).1).1 l2 e (.up c) hc he
 have hg:=hw.gg
 have hrow:x.row=[.str x.n,.int .u32 x.t,i6 x.g,i6 x.a,i6 x.o,i6 x.c,.sl (x.lb.map Lb.row),.sl (x.ru.map Ru.row)]:=rfl
 have ids:=rdv_ids
 have idm:=rdv_mp
 have cids:=rgC_ids (kN x) (wN x) t []
 have dids:=rgD_ids (kN x) (wN x) t []
 have cmp:=fun f i b=>rgC_mp f (kN x) (wN x) t [] i b
 have dmp:=fun f i=>rgD_mp f (kN x) (wN x) t [] i
 have tail: ∀(e:List (Nat×AV)) (bx:List (Id×List AV)),lk e 0= .ptr (.up c) 0→lk e 2=i6 t→lk e 4= .ptr (.n 4) 0→lk e 7= .ptr (.nw 13 (.n 16)) 0→lkB bx (.up c)=some (rdv (mhS x.c st))→
   lkB bx (.n 4)=some [.str x.n,.int .u32 x.t,i6 (gN x),i6 x.a,i6 x.o,i6 x.c,.sl (x.lb.map Lb.row),.sl (x.ru.map Ru.row)]→
   lkB bx (.nw 13 (.n 16))=some [.str x.n,.int .u32 x.t,i6 (gN x),i6 x.a,i6 x.o,i6 x.c,.sl (x.lb.map Lb.row),.sl (x.ru.map Ru.row),.sl (intRows (winP x)),.ms (.nw 13 (.n 40)) 0 (winP x).length 1,i6 (pF x.c t),i6 (pT x.c t),u (mhG x.c st),u (mhT x.c st),i6 t,.bool (flagN st).2]→
   lkB bx (.nw 13 (.n 40))=some (ptrC (fun i=> .nw 13 (R0 i)) (winP x).length)→(∀p∈rgsB (fun i=> .nw 13 (R0 i)) (fun i=> .nw 13 (B0 i)) (rgC (kN x) (wN x) t []) (rgD (kN x) (wN x) t []) (winP x).length,lkB bx p.1=some p.2)→(∀(a:Id) (b:List AV),(a,b)∈bx→a.isNw 65=false)→
   wpA (SpH Tryz.prog gl) (AC.tl 5 c29) (postH d [.t 6] O) ⟨e,bx,[]⟩:=by
  intro e bx e0 e2 e4 e7 b1 b2 b3 b4 b5 bfr
  have SP:=mspoil_spec (mhS x.c st) (mhS_le hl) 65 (.up c) hc rfl
  have LPx:=fun ok=>LP (pF x.c t) (pT x.c t) (mhG x.c st) (mhT x.c st) (flagN st).2 (rgC (kN x) (wN x) t []) (rgD (kN x) (wN x) t []) cids dids cmp dmp (mhS x.c st) (mhS_le hl) (h1 ok) (h2 ok)
  clear LP N1 N2 NW MV FL
  have ec:AC.tl 5 c29=AC.cutAt 1 (AC.tl 6 c29) (AC.tl 5 c29):=rfl
  rw [ec]
  generalize AC.tl 6 c29=t0 at LPx ⊢
  simp only [c29,AC.tl,AC.cutAt]
  unfold cntOk at h0 LPx
  by_cases ok:mhG x.c st≤mhT x.c st∧mhT x.c st≤9223372036854775807
  ·have L:=LPx ok
   have g1: ¬mhT x.c st<mhG x.c st:=by omega
   have g2: ¬(9223372036854775807:Int)<(mhT x.c st:Nat):=by omega
   have g3: ¬9223372036854775807<mhT x.c st:=by omega
   clear LPx h0 h1 h2
   simp -implicitDefEqProofs [e0,e2,e4,e7,b1,b2,b3,g1,g2,g3]
   refine L _ _ ?_ ?_ ?_ ?_ b1 b2 b3 b4 b5<;>simp -implicitDefEqProofs [e0,e2,e4,e7]
  ·rw [h0 ok]
   clear LPx h0 h1 h2
   unfold rgX
   have m2:=idm none
   have i2:=ids none
   by_cases g1:mhT x.c st<mhG x.c st
   ·simp [e0,e2,e4,e7,b1,b2,b3,g1]
    refine onH_mk _ _ (SP) ⟨?_,?_,?_,?_,?_,?_,?_⟩ ?_
    iterate 6 (· simp [b1])
    ·simp;exact bfr
    simp -implicitDefEqProofs
    refine postH_r ⟨?_,?_,?_,?_,?_,?_⟩<;>simp -implicitDefEqProofs [hi,hc,m2,i2]
   ·have g2:(9223372036854775807:Int)<(mhT x.c st:Nat):=by omega
    have g3:9223372036854775807<mhT x.c st:=by omega
    simp -implicitDefEqProofs [e0,e2,e4,e7,b1,b2,b3,g1,g2,g3]
    refine onH_mk _ _ (SP) ⟨?_,?_,?_,?_,?_,?_,?_⟩ ?_
    iterate 6 (· simp [b1])
    ·simp;exact bfr
    simp -implicitDefEqProofs
    refine postH_r ⟨?_,?_,?_,?_,?_,?_⟩<;>simp -implicitDefEqProofs [hi,hc,m2,i2]
 clear LP h0 h1 h2
 have ec:c29=AC.cutAt 5 (AC.tl 5 c29) c29:=rfl
 rw [ec]
 generalize AC.tl 5 c29=t0 at tail ⊢
 have uq:=mt_uq (nms0 13) x (winP x).length (intRows (winP x)) (kN x) (wN x) 0 [] false
 have ks:=mt_ks (M:= .nw 13 (.n 16)) (A:= .nw 13 (.n 40)) (R:=fun i=> .nw 13 (R0 i)) (B:=fun i=> .nw 13 (B0 i)) x x (winP x).length (intRows (winP x)) (kN x) (wN x) 0 t [] [] false false
 have nn:=fun y q1 q2 q3 q4=>mt_n (M:= .nw 13 (.n 16)) (A:= .nw 13 (.n 40)) (R:=fun i=> .nw 13 (R0 i)) (B:=fun i=> .nw 13 (B0 i)) x (winP x).length (intRows (winP x)) (kN x) (wN x) 0 [] false y q1 q2 q3 q4
 have n4:=nn (.n 4) (by simp) (by simp) (fun i e=>by cases e) (fun i e=>by cases e)
 have nc:=nn (.up c) (by simp) (by simp) (fun i e=>by cases e) (fun i e=>by cases e)
 have fr1: ∀s,s≠13→ ∀(a:Id) (b:List AV),(a,b)∈mtB (.nw 13 (.n 16)) (.nw 13 (.n 40)) (fun i=> .nw 13 (R0 i)) (fun i=> .nw 13 (B0 i)) x (winP x).length (intRows (winP x)) (kN x) (wN x) 0 [] false→a.isNw s=false:=by
  intro s hs a b hp
  have hs': ¬13=s:=fun e=>hs e.symm
  unfold mtB at hp
  rcases List.mem_cons.1 hp with e|hp
  ·cases e;simp [Id.isNw,hs']
  ·rcases List.mem_cons.1 hp with e|hp
   ·cases e;simp [Id.isNw,hs']
   ·obtain ⟨i,_,e|e⟩:=mem_rgsB.1 hp
    ·cases e;simp [R0,Id.isNw,hs']
    ·cases e;simp [B0,Id.isNw,hs']
 have nw1: ∀(a:Id) (b:List AV),(a,b)∈mtB (.nw 13 (.n 16)) (.nw 13 (.n 40)) (fun i=> .nw 13 (R0 i)) (fun i=> .nw 13 (B0 i)) x (winP x).length (intRows (winP x)) (kN x) (wN x) 0 [] false→a.isNw 13=true∧a.isIt=false:=by
  intro a b hp
  unfold mtB at hp
  rcases List.mem_cons.1 hp with e|hp
  ·cases e;exact ⟨rfl,rfl⟩
  ·rcases List.mem_cons.1 hp with e|hp
   ·cases e;exact ⟨rfl,rfl⟩
   ·obtain ⟨i,_,e|e⟩:=mem_rgsB.1 hp
    ·cases e;exact ⟨rfl,rfl⟩
    ·cases e;exact ⟨rfl,rfl⟩
 have m1:=idm st
 simp only [hrow,hg] at NW ⊢
 generalize mtB (.nw 13 (.n 16)) (.nw 13 (.n 40)) (fun i=> .nw 13 (R0 i)) (fun i=> .nw 13 (B0 i)) x (winP x).length (intRows (winP x)) (kN x) (wN x) 0 [] false=MB at *
 simp only [inSt,mpL,mpB,mpP,AV.mp,m1]
 simp only [c29,AC.cutAt]
 simp -implicitDefEqProofs
 refine onH_mk _ _ NW ⟨?_,?_,?_,?_,?_,?_,?_⟩ ?_
 iterate 5 (· simp)
 ·intro p hp
  right
  exact nw1 p.1 p.2 hp
 ·simp
 simp -implicitDefEqProofs
 refine onH_ps (pre:=[]) (suf:=[(.n 4,[.str x.n,.int .u32 x.t,i6 (gN x),i6 x.a,i6 x.o,i6 x.c,.sl (x.lb.map Lb.row),.sl (x.ru.map Ru.row)]),(.up c,rdv st)]) MV rfl (fun p hp=>by cases hp) ?_ uq ks ?_ ?_ ?_ ?_
 ·simp [n4,nc]
 ·simp
  intro a b hp
  rcases hp with h|⟨rfl,-⟩|⟨rfl,-⟩
  ·exact fr1 21 (by decide) _ _ h
  ·rfl
  ·rfl
 ·simp
 ·simp
 simp -implicitDefEqProofs
 have hpc:=pc_nil x.c t
 have MC:=mcal_spec (.nw 13 (.n 16)) (.nw 13 (.n 40)) (nms0 13).pa x (winP x).length (intRows (winP x)) (pF x.c t) (pT x.c t) 0 0 t (flagN st).2 32 rfl
 simp only [mtB,mtC,hg,hpc.1,hpc.2] at MC ⊢
 have gu:lkB (rgsB (fun i=> .nw 13 (R0 i)) (fun i=> .nw 13 (B0 i)) (rgC (kN x) (wN x) t []) (rgD (kN x) (wN x) t []) (winP x).length) (.up c)=none:=rgsB_none (fun i e=>by cases e) (fun i e=>by cases e) _
 have gn:lkB (rgsB (fun i=> .nw 13 (R0 i)) (fun i=> .nw 13 (B0 i)) (rgC (kN x) (wN x) t []) (rgD (kN x) (wN x) t []) (winP x).length) (.n 4)=none:=rgsB_none (fun i e=>by cases e) (fun i e=>by cases e) _
 have gru:rmB (rgsB (fun i=> .nw 13 (R0 i)) (fun i=> .nw 13 (B0 i)) (rgC (kN x) (wN x) t []) (rgD (kN x) (wN x) t []) (winP x).length) (.up c)=rgsB (fun i=> .nw 13 (R0 i)) (fun i=> .nw 13 (B0 i)) (rgC (kN x) (wN x) t []) (rgD (kN x) (wN x) t []) (winP x).length:=rgsB_rm (fun i e=>by cases e) (fun i e=>by cases e) _
 have grm:rmB (rgsB (fun i=> .nw 13 (R0 i)) (fun i=> .nw 13 (B0 i)) (rgC (kN x) (wN x) t []) (rgD (kN x) (wN x) t []) (winP x).length) (.nw 13 (.n 16))=rgsB (fun i=> .nw 13 (R0 i)) (fun i=> .nw 13 (B0 i)) (rgC (kN x) (wN x) t []) (rgD (kN x) (wN x) t []) (winP x).length:=rgsB_rm (nms0 13).mr (nms0 13).mb _
 have gp: ∀p∈rgsB (fun i=> .nw 13 (R0 i)) (fun i=> .nw 13 (B0 i)) (rgC (kN x) (wN x) t []) (rgD (kN x) (wN x) t []) (winP x).length,lkB (rgsB (fun i=> .nw 13 (R0 i)) (fun i=> .nw 13 (B0 i)) (rgC (kN x) (wN x) t []) (rgD (kN x) (wN x) t []) (winP x).length) p.1=some p.2∧(¬Id.nw 13 (.n 16)=p.1∧ ¬Id.nw 13 (.n 40)=p.1∧ ¬Id.up c=p.1)∧ ∀s,s≠13→p.1.isNw s=false:=by
  intro p hp
  obtain ⟨i,hi',e|e⟩:=mem_rgsB.1 hp
  ·subst e
   exact ⟨rgsB_R (nms0 13) _ hi',⟨(nms0 13).mr i,(nms0 13).ar i,fun e=>by cases e⟩,fun s hs=>nwR_free hs i⟩
  ·subst e
   exact ⟨rgsB_B (nms0 13) _ hi',⟨(nms0 13).mb i,(nms0 13).ab i,fun e=>by cases e⟩,fun s hs=>nwB_free hs i⟩
 have gf: ∀s,s≠13→ ∀(a:Id) (b:List AV),(a,b)∈rgsB (fun i=> .nw 13 (R0 i)) (fun i=> .nw 13 (B0 i)) (rgC (kN x) (wN x) t []) (rgD (kN x) (wN x) t []) (winP x).length→a.isNw s=false:=fun s hs a b hm=>(gp _ hm).2.2 s hs
 clear uq ks nn n4 nc fr1 nw1 NW MV cids dids cmp dmp
 generalize rgsB (fun i=> .nw 13 (R0 i)) (fun i=> .nw 13 (B0 i)) (rgC (kN x) (wN x) t []) (rgD (kN x) (wN x) t []) (winP x).length=RG at *
 refine onH_mk _ _ (FL) ⟨?_,?_,?_,?_,?_,?_,?_⟩ ?_
 iterate 6 (· simp [lkB_app,gu,gn])
 ·simp;exact fun a b hm=>by (rcases hm with h|h|h)<;>first|exact gf 28 (by decide) _ _ h|(obtain ⟨rfl,-⟩:=h;rfl)
 simp -implicitDefEqProofs [rmB_app,gru,lkB_app,gu,gn]
 have MC':SpH Tryz.prog gl 63 32 _ _:=MC
 refine onH_mk _ _ (MC') ⟨?_,?_,?_,?_,?_,?_,?_⟩ ?_
 iterate 6 (· simp)
 ·simp;exact fun a b hm=>by (rcases hm with h|h)<;>first|exact gf 32 (by decide) _ _ h|(obtain ⟨rfl,-⟩:=h;rfl)
 by_cases hcz:x.c=0
 ·have hb:(x.c !=0)=false:=by rw [hcz];rfl
  have e1:mhG x.c st=0:=if_pos hcz
  have e2:mhT x.c st=0:=if_pos hcz
  have e3:mhS x.c st=(flagN st).1:=if_pos hcz
  rw [e1,e2,e3] at tail
  rw [hb]
  simp -implicitDefEqProofs [grm,rmB_app]
  refine tail _ _ ?_ ?_ ?_ ?_ ?_ ?_ ?_ ?_ ?_ ?_
  iterate 8 (· simp [lkB_app,gu,gn])
  ·intro p hp
   obtain ⟨g1,⟨g2,g3,g4⟩,g5⟩:=gp p hp
   simp -implicitDefEqProofs [g1,g2,g3,g4,lkB_app]
  ·simp
   exact fun a b hm=>by (rcases hm with h|h|h|h|h)<;>first|exact gf 65 (by decide) _ _ h|(obtain ⟨rfl,-⟩:=h;rfl)
 ·have hb:(x.c !=0)=true:=by rw [bne_iff_ne];exact hcz
  have e1:mhG x.c st=(getN (flagN st).1).2:=if_neg hcz
  have e2:mhT x.c st=(getN (getN (flagN st).1).1).2:=if_neg hcz
  have e3:mhS x.c st=(getN (getN (flagN st).1).1).1:=if_neg hcz
  rw [e1,e2,e3] at tail
  rw [hb]
  have N1:=N1 35 rfl
  have N2:=N2 41 rfl
  simp -implicitDefEqProofs [grm,rmB_app]
  refine onH_mk _ _ (N1) ⟨?_,?_,?_,?_,?_,?_,?_⟩ ?_
  iterate 6 (· simp [lkB_app,gu,gn])
  ·simp;exact fun a b hm=>by (rcases hm with h|h)<;>first|exact gf 35 (by decide) _ _ h|(obtain ⟨rfl,-⟩:=h;rfl)
  simp -implicitDefEqProofs [gru,rmB_app]
  refine onH_mk _ _ (N2) ⟨?_,?_,?_,?_,?_,?_,?_⟩ ?_
  iterate 6 (· simp [lkB_app,gu,gn])
  ·simp;exact fun a b hm=>by (rcases hm with h|h)<;>first|exact gf 41 (by decide) _ _ h|(obtain ⟨rfl,-⟩:=h;rfl)
  simp -implicitDefEqProofs [gru,rmB_app]
  refine tail _ _ ?_ ?_ ?_ ?_ ?_ ?_ ?_ ?_ ?_ ?_
  iterate 8 (· simp [lkB_app,gu,gn])
  ·intro p hp
   obtain ⟨g1,⟨g2,g3,g4⟩,g5⟩:=gp p hp
   simp -implicitDefEqProofs [g1,g2,g3,g4,lkB_app]
  ·simp
   exact fun a b hm=>by (rcases hm with h|h|h|h|h)<;>first|exact gf 65 (by decide) _ _ h|(obtain ⟨rfl,-⟩:=h;rfl)
open Go.Proofs
def AtP (B:List UInt8) (st:RS):Prop:= ∃p,st=some (B.drop p)∧p≤B.length∧posN B st=p
theorem atP_mk {B:List UInt8} {p:Nat} (h:p≤B.length):AtP B (some (B.drop p)):=⟨p,rfl,h,by simp only [posN,List.length_drop];omega⟩
theorem getN_pos {B:List UInt8} {st:RS} (h:AtP B st):(getN st).1=none∨AtP B (getN st).1:=by
 obtain ⟨p,rfl,hp,_⟩:=h
 rcases num_pos hp with ⟨n,nx,_,h2,_,h4⟩|⟨_,h4⟩
 ·rw [h4];exact .inr (atP_mk h2)
 ·rw [h4];exact .inl rfl
theorem rdS_pos {B:List UInt8} {st:RS} (h:AtP B st): ∀i,rdS st i=none∨AtP B (rdS st i)
 |0=> .inr h
 |i+1=>by
  rcases rdS_pos h i with e|e
  ·left;rw [rdS,e];rfl
  ·rw [rdS]
   rcases getN_pos e with f|f
   ·left;rw [f];rfl
   ·exact getN_pos f
theorem ring_pos {B:List UInt8} {st:RS} {K N:Nat} (hK:1≤K) (h:AtP B st) (ok:RingOk K N st):AtP B (rdS st K):=by
 rcases rdS_pos h K with e|e
 ·obtain ⟨j,rfl⟩: ∃j,K=j+1:=⟨K - 1,by omega⟩
  have:=(ok j (by omega)).sm
  rw [e] at this;cases this
 ·exact e
def readOk (x:Gl) (t:Nat) (st:RS):Prop:=cntOk x.c st∧ ∀i,i<(winP x).length→ringsOk x t st i
def rdEnd (x:Gl) (B:List UInt8):Nat:=posN B (mrS (kN x) (mhS x.c (some B)) (winP x).length)
theorem read_none {x:Gl} (hx:goalP x=true) (hl:x.ru.length≤10) {t:Nat} {st:RS} (h:mhS x.c st=none): ¬readOk x t st:=fun q=>by
 have h1:=q.2 0 (goal_n1 hx)
 unfold ringsOk at h1
 rw [h] at h1
 exact rok_none ((goal_k hx hl).k1 0 (goal_n1 hx)) h1
set_option maxHeartbeats 1000000 in
theorem rread_loop (x:Gl) (hx:goalP x=true) (hl:x.ru.length≤10) (B:List UInt8) (hB:B.length≤1000000) (t:Nat) (ht:t≤253402300799) (s1:RS) (hs1:AtP B s1) (r:AV)
  (h1:(∀i,i<(winP x).length→RingOk (kN x i) (t / wN x i) (mrS (kN x) s1 i))→r= .tup [i6 (posN B (mrS (kN x) s1 (winP x).length)),.bool true])
  (h2: ∀i,i<(winP x).length→ ¬RingOk (kN x i) (t / wN x i) (mrS (kN x) s1 i)→r= .tup [i6 0,.bool false])
  (e:List (Nat×AV)) (e0:lk e 0= .sl (byteRows B)) (e2:lk e 2=i6 t) (e4:lk e 4= .ptr (.n 4) 0) (e8:lk e 8=i6 (posN B s1)):
  wpA (SpH Tryz.prog gl) (AC.tl 4 c30) (postA [.t 6,.t 7] r) ⟨e,[(.n 4,x.row)],[]⟩:=by
 have hw:=goal_wd hx hl
 have hn:=goal_n hl
 have WS:=rwin_spec x hl
 have hg:=hw.gg
 obtain ⟨hWl,hW1⟩:=hw.rows
 have hWa:=hw.at
 have hk:=goal_k hx hl
 have RG:=fun k (hk':k<(winP x).length) p (hp:p≤B.length) O=>ryget_any B hB p hp (wdN x k) (gN x) (hw.wd k hk').2 t ht 83 O
 have hrow:x.row=[.str x.n,.int .u32 x.t,i6 x.g,i6 x.a,i6 x.o,i6 x.c,.sl (x.lb.map Lb.row),.sl (x.ru.map Ru.row)]:=rfl
 rw [hrow,hg] at WS ⊢
 generalize intRows (winP x)=W at *
 generalize byteRows B=R at *
 simp only [c30,AC.tl]
 simp -implicitDefEqProofs [e0,e4]
 refine onC_mk _ WS ?_
 simp -implicitDefEqProofs
 refine wp_lpk (α:=Nat) (fun k=>⟨[(0,.sl R),(2,i6 t),(4,.ptr (.n 4) 0),(8,i6 (posN B (mrS (kN x) s1 k))),(15,.sl W),(16,i6 k)],[(.n 4,[.str x.n,.int .u32 x.t,i6 (gN x),i6 x.a,i6 x.o,i6 x.c,.sl (x.lb.map Lb.row),.sl (x.ru.map Ru.row)])],[]⟩)
  (fun k=>k≤(winP x).length∧(∀i,i<k→RingOk (kN x i) (t / wN x i) (mrS (kN x) s1 i))∧AtP B (mrS (kN x) s1 k)) (fun k=>(winP x).length - k) ?_ 0 ?_ ?_
 ·rintro K k hK ⟨k1,k2,k3⟩
  by_cases c:k<(winP x).length
  ·have c':(k:Int)<(winP x).length:=by omega
   have w1:IntKind.i64.wrap ((k:Int)+1)=(k+1:Nat):=by rw [wrap_i64]<;>omega
   have kl:k<W.length:=by omega
   have ew0:=hWa k c
   have ew:W[k]'kl=[i6 ((wdN x k:Nat):Int)]:=by rw [List.getElem?_eq_getElem kl] at ew0;exact Option.some.inj ew0
   obtain ⟨p,p1,p2,p3⟩:=id k3
   rw [p3]
   have RGk:=RG k c p p2
   by_cases ok:RingOk (kN x k) (t / wN x k) (mrS (kN x) s1 k)
   ·have k2': ∀i,i<k+1→RingOk (kN x i) (t / wN x i) (mrS (kN x) s1 i):=fun i hi=>by
     by_cases e:i=k
     ·rw [e];exact ok
     ·exact k2 i (by omega)
    have k3':AtP B (mrS (kN x) s1 (k+1)):=ring_pos (hk.k1 k c) k3 ok
    have fin:=fun σ' hσ=>hK (k+1) σ' ⟨by omega,k2',k3'⟩ (by omega) hσ
    have RGo:=RGk _ (fun _=>rfl) (fun i hi q=>absurd (by rw [←p1];exact ok i hi) q)
    have em:mrS (kN x) s1 (k+1)=rdS (some (B.drop p)) (wK (wdN x k) (gN x)):=by rw [mrS,p1];rfl
    rw [em] at fin
    unfold rgO19 at RGo
    clear hK RG RGk k2 k2' k3 k3' ok h1 h2 hWa p1 p3
    generalize evR (wK (wdN x k) (gN x)) (t / wW (wdN x k) (gN x)) (wW (wdN x k) (gN x)) (some (B.drop p)) (wK (wdN x k) (gN x))=EV at *
    generalize posN B (rdS (some (B.drop p)) (wK (wdN x k) (gN x)))=p' at *
    simp -implicitDefEqProofs [c,c',kl,ew,ew0,hWl,hW1]
    refine onQ_mk _ _ (RGo) ⟨?_,?_,?_,?_,?_,?_,?_⟩ ⟨?_,?_,?_⟩ ?_
    iterate 10 (· simp [Pl.isB,Pl.isF])
    simp -implicitDefEqProofs [w1]
    refine fin _ ?_
    refine weak_mk ?_ ?_ ?_ ?_ ?_ ?_<;>simp -implicitDefEqProofs [w1]
   ·rw [h2 k c ok]
    obtain ⟨i,hi,hno⟩: ∃i,i<wK (wdN x k) (gN x)∧ ¬ROk (wK (wdN x k) (gN x)) (t / wW (wdN x k) (gN x)) (some (B.drop p)) i:=by
     refine Classical.byContradiction fun q=>ok fun i hi=>?_
     rw [p1]
     exact Classical.byContradiction fun q2=>q ⟨i,hi,q2⟩
    have RGx:=RGk rgX19 (fun q=>absurd (q i hi) hno) (fun _ _ _=>rfl)
    unfold rgX19 at RGx
    clear hK RG RGk k2 k3 ok h1 h2 hWa p1 p3 hno
    simp -implicitDefEqProofs [c,c',kl,ew,ew0,hWl,hW1]
    refine onQ_mk _ _ (RGx) ⟨?_,?_,?_,?_,?_,?_,?_⟩ ⟨?_,?_,?_⟩ ?_
    iterate 10 (· simp [Pl.isB,Pl.isF])
    simp -implicitDefEqProofs
  ·obtain rfl:k=(winP x).length:=by omega
   have c': ¬(((winP x).length:Int)<(winP x).length):=by omega
   rw [h1 k2]
   clear hK RG h1 h2 hWa
   generalize posN B (mrS (kN x) s1 (winP x).length)=P at *
   simp -implicitDefEqProofs [hWl,c']
 ·exact ⟨Nat.zero_le _,fun i hi=>by omega,hs1⟩
 ·have m0:mrS (kN x) s1 0=s1:=rfl
  rw [m0]
  refine weak_mk ?_ ?_ ?_ ?_ ?_ ?_<;>simp -implicitDefEqProofs [e0,e2,e4,e8]
open Go.Proofs
theorem mhS_none {c:Int} {st:RS} (h:(flagN st).1=none):mhS c st=none:=by
 unfold mhS;split
 ·exact h
 ·rw [h];rfl
set_option maxHeartbeats 1000000 in
theorem xread20_spec (x:Gl) (hx:goalP x=true) (hl:x.ru.length≤10) (B:List UInt8) (hB:B.length≤1000000) (now:Int) (r:AV) (h0: ¬(0≤now∧now≤253402300799)→r= .tup [i6 0,.bool false])
  (h1: ∀t:Nat,now=t→t≤253402300799→readOk x t (some B)→r= .tup [i6 (rdEnd x B),.bool true]) (h2: ∀t:Nat,now=t→t≤253402300799→ ¬readOk x t (some B)→r= .tup [i6 0,.bool false]):
  Sp Tryz.prog gl 30 [.sl (byteRows B),.agg x.row,i6 now] r:=by
 refine s30 rfl rfl ?_
 have TK:=rtick19_spec now
 have hcc:0≤x.c:=(goal_parts hx).2.2.2.2.1.1
 have ec:c30=AC.cutAt 4 (AC.tl 4 c30) c30:=rfl
 rw [ec]
 have LP:=fun t ht s1 hs1 h1 h2 e=>rread_loop x hx hl B hB t ht s1 hs1 r h1 h2 e
 have hrow:x.row=[.str x.n,.int .u32 x.t,i6 x.g,i6 x.a,i6 x.o,i6 x.c,.sl (x.lb.map Lb.row),.sl (x.ru.map Ru.row)]:=rfl
 have NB:=fun p (hp:p≤B.length)=>number_spec B p hB (by omega)
 have bl:=byteRows_len B
 generalize AC.tl 4 c30=t0 at LP ⊢
 rw [hrow] at LP ⊢
 simp only [c30,AC.cutAt]
 by_cases hn:0≤now∧now≤253402300799
 ·have tk:(decide (0≤now)&&decide (now≤253402300799))=true:=by
   rw [Bool.and_eq_true,decide_eq_true_eq,decide_eq_true_eq];exact hn
  rw [tk] at TK
  obtain ⟨t,rfl⟩:=Int.eq_ofNat_of_zero_le hn.1
  have ht:t≤253402300799:=by omega
  have h1:=h1 t rfl ht
  have h2:=h2 t rfl ht
  have LP:=LP t ht
  clear h0 tk
  cases B with
  |nil=>
   have no:=read_none (t:=t) hx hl (mhS_none (c:=x.c) (st:=some []) rfl)
   rw [h2 no]
   clear h1 h2 LP NB
   simp -implicitDefEqProofs [byteRows]
   refine onC_mk _ (TK) ?_
   simp -implicitDefEqProofs
  |cons b B'=>
   have hb0:byteRows (b::B')=[.int .u8 b.toNat]::byteRows B':=rfl
   rw [hb0] at LP NB bl ⊢
   by_cases hb:b.toNat≤1
   ·have hb': ¬(1:Int)<b.toNat:=by omega
    have hb2: ¬1<b.toNat:=by omega
    have fl:(flagN (some (b::B'))).1=some ((b::B').drop 1):=by simp only [flagN,if_pos hb];rfl
    have ap:AtP (b::B') (some ((b::B').drop 1)):=atP_mk (by simp)
    have px: ∀q,q≤(b::B').length→posN (b::B') (some ((b::B').drop q))=q:=fun q hq=>by simp only [posN,List.length_drop];omega
    have n1:(1:Nat)≤(b::B').length:=by simp
    generalize hBB:b::B'=BB at *
    generalize byteRows B'=R at *
    have bn: ¬((R.length:Int)+1=0):=by omega
    have bn':(((R.length:Int)+1)==0)=false:=by rw [beq_eq_false_iff_ne];omega
    by_cases c0:x.c=0
    ·have g1: ¬0<x.c:=by omega
     have e3:mhS x.c (some BB)=some (BB.drop 1):=by unfold mhS;rw [if_pos c0,fl]
     have e1:cntOk x.c (some BB):=by unfold cntOk mhG mhT;rw [if_pos c0,if_pos c0];omega
     have L:=LP (some (BB.drop 1)) ap (fun h=>by rw [h1 ⟨e1,fun i hi=>by unfold ringsOk;rw [e3];exact h i hi⟩];unfold rdEnd;rw [e3]) (fun i hi h=>h2 fun q=>h (by have:=q.2 i hi;unfold ringsOk at this;rw [e3] at this;exact this))
     rw [px 1 n1] at L
     clear h1 h2 LP NB
     generalize b.toNat=bt at *
     simp -implicitDefEqProofs
     refine onC_mk _ (TK) ?_
     simp -implicitDefEqProofs [hb',hb2,bn',g1]
     refine L _ ?_ ?_ ?_ ?_<;>simp -implicitDefEqProofs
    ·have g1:0<x.c:=by omega
     have e3:mhS x.c (some BB)=(getN (getN (some (BB.drop 1))).1).1:=by unfold mhS;rw [if_neg c0,fl]
     have eg:mhG x.c (some BB)=(getN (some (BB.drop 1))).2:=by unfold mhG;rw [if_neg c0,fl]
     have et:mhT x.c (some BB)=(getN (getN (some (BB.drop 1))).1).2:=by unfold mhT;rw [if_neg c0,fl]
     have N1:=NB 1 n1
     unfold numAt at N1
     rcases num_pos n1 with ⟨v1,x1,f1,f2,f3,f4⟩|⟨f1,f4⟩
     ·rw [f1] at N1
      rw [f4] at e3 eg et
      have N2:=NB x1 f2
      unfold numAt at N2
      have b1:v1<18446744073709551616:=by have:=getN_lt (some (BB.drop 1));rw [f4] at this;exact this
      rcases num_pos f2 with ⟨v2,x2,q1,q2,q3,q4⟩|⟨q1,q4⟩
      ·rw [q1] at N2
       simp only [q4] at e3 et
       simp only at eg
       by_cases ok:v1≤v2∧v2≤9223372036854775807
       ·have e1:cntOk x.c (some BB):=by unfold cntOk;rw [eg,et];exact ok
        have L:=LP (some (BB.drop x2)) (atP_mk q2) (fun h=>by rw [h1 ⟨e1,fun i hi=>by unfold ringsOk;rw [e3];exact h i hi⟩];unfold rdEnd;rw [e3]) (fun i hi h=>h2 fun q=>h (by have:=q.2 i hi;unfold ringsOk at this;rw [e3] at this;exact this))
        rw [px x2 q2] at L
        have o1: ¬(v2:Int)<v1:=by omega
        have o1': ¬v2<v1:=by omega
        have o2: ¬(9223372036854775807:Int)<v2:=by omega
        have o2': ¬9223372036854775807<v2:=by omega
        clear h1 h2 LP NB
        generalize b.toNat=bt at *
        simp -implicitDefEqProofs
        refine onC_mk _ (TK) ?_
        simp -implicitDefEqProofs [hb',hb2,bn',g1]
        refine onC_mk _ (N1) ?_
        simp -implicitDefEqProofs
        refine onC_mk _ (N2) ?_
        simp -implicitDefEqProofs [o1,o1',o2,o2']
        refine L _ ?_ ?_ ?_ ?_<;>simp -implicitDefEqProofs
       ·have no: ¬readOk x t (some BB):=fun q=>ok (by have:=q.1;unfold cntOk at this;rw [eg,et] at this;exact this)
        rw [h2 no]
        clear h1 h2 LP NB
        generalize b.toNat=bt at *
        by_cases o1:v2<v1
        ·have o1':(v2:Int)<v1:=by omega
         simp -implicitDefEqProofs
         refine onC_mk _ (TK) ?_
         simp -implicitDefEqProofs [hb',hb2,bn',g1]
         refine onC_mk _ (N1) ?_
         simp -implicitDefEqProofs
         refine onC_mk _ (N2) ?_
         simp -implicitDefEqProofs [o1,o1']
        ·have o1': ¬(v2:Int)<v1:=by omega
         have o2:(9223372036854775807:Int)<v2:=by omega
         have o2':9223372036854775807<v2:=by omega
         simp -implicitDefEqProofs
         refine onC_mk _ (TK) ?_
         simp -implicitDefEqProofs [hb',hb2,bn',g1]
         refine onC_mk _ (N1) ?_
         simp -implicitDefEqProofs
         refine onC_mk _ (N2) ?_
         simp -implicitDefEqProofs [o1,o1',o2,o2']
      ·rw [q1] at N2
       have no: ¬readOk x t (some BB):=read_none hx hl (by rw [e3];simp only [q4])
       rw [h2 no]
       clear h1 h2 LP NB
       generalize b.toNat=bt at *
       simp -implicitDefEqProofs
       refine onC_mk _ (TK) ?_
       simp -implicitDefEqProofs [hb',hb2,bn',g1]
       refine onC_mk _ (N1) ?_
       simp -implicitDefEqProofs
       refine onC_mk _ (N2) ?_
       simp -implicitDefEqProofs
     ·rw [f1] at N1
      have no: ¬readOk x t (some BB):=read_none hx hl (by rw [e3,f4];rfl)
      rw [h2 no]
      clear h1 h2 LP NB
      generalize b.toNat=bt at *
      simp -implicitDefEqProofs
      refine onC_mk _ (TK) ?_
      simp -implicitDefEqProofs [hb',hb2,bn',g1]
      refine onC_mk _ (N1) ?_
      simp -implicitDefEqProofs
   ·have hb':(1:Int)<b.toNat:=by omega
    have hb2:1<b.toNat:=by omega
    have no:=read_none (t:=t) hx hl (mhS_none (c:=x.c) (st:=some (b::B')) (by simp only [flagN,if_neg hb]))
    rw [h2 no]
    clear h1 h2 LP NB
    generalize byteRows B'=R at *
    generalize b.toNat=bt at *
    have bn: ¬((R.length:Int)+1=0):=by omega
    have bn':(((R.length:Int)+1)==0)=false:=by rw [beq_eq_false_iff_ne];omega
    simp -implicitDefEqProofs
    refine onC_mk _ (TK) ?_
    simp -implicitDefEqProofs [hb',hb2,bn']
 ·have tk:(decide (0≤now)&&decide (now≤253402300799))=false:=by
   rw [Bool.and_eq_false_iff,decide_eq_false_iff_not,decide_eq_false_iff_not];omega
  rw [tk] at TK
  rw [h0 hn]
  clear h0 h1 h2 LP NB
  generalize byteRows B=R at *
  simp -implicitDefEqProofs
  refine onC_mk _ (TK) ?_
  simp -implicitDefEqProofs
open Go.Proofs
theorem rmB_no {j:Id}: ∀ {l:List (Id×List AV)},lkB l j=none→rmB l j=l
 |[],_=>rfl
 |(d,c)::r,h=>by
  simp only [lkB] at h
  simp only [rmB]
  by_cases e:d=j
  ·rw [if_pos e] at h;cases h
  ·rw [if_neg e] at h
   rw [if_neg e,rmB_no h]
theorem inF_nw {fr:List Nat} {t:Nat} (hf:fr.contains t=false): ∀ {a:Id},a.isNw t=true→inF fr a=false
 | .nw k i,h=>by
  simp only [Id.isNw,Bool.and_eq_true,beq_iff_eq] at h
  simp only [inF,h.1,hf]
 | .n _,h=>by cases h
 | .up _,h=>by cases h
 | .ix _ _,h=>by cases h
 | .it _,h=>by cases h
theorem lkB_nw {j:Id} {t:Nat}: ∀ {l:List (Id×List AV)},(∀(a:Id) (b:List AV),(a,b)∈l→a.isNw t=true)→j.isNw t=false→lkB l j=none
 |[],_,_=>rfl
 |(d,c)::r,h,hj=>by
  simp only [lkB]
  rw [if_neg (fun e=>by have:=h d c (List.mem_cons_self ..);rw [e,hj] at this;cases this),lkB_nw (fun a b hm=>h a b (List.mem_cons_of_mem _ hm)) hj]
open Go.Proofs
theorem getN_some {st:RS} {r:List UInt8} (h:(getN st).1=some r): ∃b,st=some b∧b=numB (getN st).2++r:=by
 cases st with
 |none=>cases h
 |some b=>exact ⟨b,rfl,getN_bytes (by rw [←h])⟩
theorem rd_bytes {st:RS} {b:List UInt8} (hst:st=some b): ∀i,(rdS st i).isNone=false→ ∃r,rdS st i=some r∧b=cntB (rdG st) (rdT st) i++r
 |0,_=>⟨b,hst,rfl⟩
 |i+1,h=>by
  obtain ⟨r,hr⟩: ∃r,rdS st (i+1)=some r:=by
   cases hs:rdS st (i+1) with
   |none=>rw [hs] at h;cases h
   |some r=>exact ⟨r,rfl⟩
  obtain ⟨m,h1,h2⟩:=getN_some (show (getN (getN (rdS st i)).1).1=some r from hr)
  obtain ⟨b',h3,h4⟩:=getN_some h1
  obtain ⟨r',q1,q2⟩:=rd_bytes hst i (by rw [h3];rfl)
  rw [h3] at q1
  cases q1
  refine ⟨r,hr,?_⟩
  rw [q2,cntB,h4,h2]
  simp only [List.append_assoc]
  rfl
theorem ring_bytes {K N:Nat} {st:RS} {b:List UInt8} (hK:1≤K) (hst:st=some b) (ok:RingOk K N st): ∃r,rdS st K=some r∧b=cntB (bkI K N (bkG K N (rdG st) K)) (bkI K N (bkG K N (rdT st) K)) K++r:=by
 obtain ⟨r,h1,h2⟩:=rd_bytes hst K (by
  obtain ⟨j,rfl⟩: ∃j,K=j+1:=⟨K - 1,by omega⟩
  exact (ok j (by omega)).sm)
 refine ⟨r,h1,?_⟩
 rw [h2]
 congr 1
 refine cntB_congr fun i hi=>?_
 rw [bkI_bkG hK hi,bkI_bkG hK hi]
 by_cases c:K≤N+1+i
 ·rw [if_pos c,if_pos c];exact ⟨rfl,rfl⟩
 ·rcases (ok i hi).z with q|q
  ·exact absurd q c
  ·rw [if_neg c,if_neg c];exact q
theorem rings_bytes {K N:Nat→Nat} {st:RS} {b:List UInt8} {n:Nat} (hK: ∀i,i<n→1≤K i) (hst:st=some b) (ok: ∀i,i<n→RingOk (K i) (N i) (mrS K st i)): ∀k,k≤n→ ∃r,mrS K st k=some r∧b=ringsB K N (qF K N st) (qH K N st) k++r
 |0,_=>⟨b,hst,rfl⟩
 |k+1,hk=>by
  obtain ⟨r,h1,h2⟩:=rings_bytes hK hst ok k (by omega)
  obtain ⟨r',h3,h4⟩:=ring_bytes (hK k (by omega)) h1 (ok k (by omega))
  refine ⟨r',h3,?_⟩
  rw [ringsB,List.append_assoc]
  exact h2.trans (congrArg _ h4)
theorem head_bytes {c:Int} {B b1:List UInt8} (h:mhS c (some B)=some b1):B=flagB (flagN (some B)).2++(calB c (mhG c (some B)) (mhT c (some B))++b1):=by
 have key: ∀s,(flagN (some B)).1=some s→B=flagB (flagN (some B)).2++s:=by
  intro s hs
  rcases B with _|⟨b,r⟩
  ·cases hs
  ·simp only [flagN] at hs ⊢
   split at hs
   ·rename_i hb
    rw [if_pos hb]
    cases hs
    have e:b=0∨b=1:=by
     rcases Nat.le_one_iff_eq_zero_or_eq_one.1 hb with e|e
     ·left;exact UInt8.toNat_inj.1 e
     ·right;exact UInt8.toNat_inj.1 e
    rcases e with rfl|rfl<;>rfl
   ·cases hs
 unfold mhS at h
 unfold mhG mhT calB
 by_cases hc:c=0
 ·simp only [if_pos hc] at h ⊢
  rw [List.nil_append];exact key b1 h
 ·simp only [if_neg hc] at h ⊢
  obtain ⟨m,h1,h2⟩:=getN_some h
  obtain ⟨s,h3,h4⟩:=getN_some h1
  have:=key s h3
  rw [List.append_assoc,←h2,←h4];exact this
theorem read_bytes {x:Gl} (hx:goalP x=true) (hl:x.ru.length≤10) {t:Nat} {B:List UInt8} (h:readOk x t (some B)):
  ∃r,mrS (kN x) (mhS x.c (some B)) (winP x).length=some r∧B=metB x.c (flagN (some B)).2 (mhG x.c (some B)) (mhT x.c (some B)) (kN x) (fun i=>t / wN x i) (qF (kN x) (fun i=>t / wN x i) (mhS x.c (some B))) (qH (kN x) (fun i=>t / wN x i) (mhS x.c (some B))) (winP x).length++r:=by
 cases hs:mhS x.c (some B) with
 |none=>exact absurd h (read_none hx hl hs)
 |some b1=>
  have ok:=h.2
  unfold ringsOk at ok
  rw [hs] at ok
  obtain ⟨r,h1,h2⟩:=rings_bytes (N:=fun i=>t / wN x i) (goal_k hx hl).k1 rfl ok (winP x).length (Nat.le_refl _)
  refine ⟨r,h1,?_⟩
  have hb:=head_bytes hs
  unfold metB
  rw [List.append_assoc,List.append_assoc,←h2];exact hb
theorem read_take {x:Gl} (hx:goalP x=true) (hl:x.ru.length≤10) {t:Nat} {B:List UInt8} (h:readOk x t (some B)):
  ∃r,mrS (kN x) (mhS x.c (some B)) (winP x).length=some r∧rdEnd x B≤B.length∧r.length=B.length - rdEnd x B∧B.take (rdEnd x B)=metB x.c (flagN (some B)).2 (mhG x.c (some B)) (mhT x.c (some B)) (kN x) (fun i=>t / wN x i) (qF (kN x) (fun i=>t / wN x i) (mhS x.c (some B))) (qH (kN x) (fun i=>t / wN x i) (mhS x.c (some B))) (winP x).length:=by
 obtain ⟨r,h1,h2⟩:=read_bytes hx hl h
 generalize metB x.c (flagN (some B)).2 (mhG x.c (some B)) (mhT x.c (some B)) (kN x) (fun i=>t / wN x i) (qF (kN x) (fun i=>t / wN x i) (mhS x.c (some B))) (qH (kN x) (fun i=>t / wN x i) (mhS x.c (some B))) (winP x).length=M at *
 have hl':B.length=M.length+r.length:=by rw [h2,List.length_append]
 have e:rdEnd x B=M.length:=by unfold rdEnd;rw [h1];simp only [posN];omega
 refine ⟨r,h1,by omega,by omega,?_⟩
 rw [e]
 conv=>lhs;rw [h2]
 simp
theorem gk_read {x:Gl} (hx:goalP x=true) (hl:x.ru.length≤10) {t:Nat} (ht:t≤253402300799) (st:RS):GkOk (winP x).length (kN x) (fun i=>t / wN x i) (qF (kN x) (fun i=>t / wN x i) st) (qH (kN x) (fun i=>t / wN x i) st):=by
 have hk:=goal_k hx hl
 refine ⟨hk.k1,hk.k2,fun i _=>Nat.le_trans (Nat.div_le_self _ _) ht,fun k hk' i hi=>?_⟩
 unfold qF qH
 rw [bkI_bkG (hk.k1 k hk') hi,bkI_bkG (hk.k1 k hk') hi]
 have a:=getN_lt (rdS (mrS (kN x) st k) i)
 have b:=getN_lt (getN (rdS (mrS (kN x) st k) i)).1
 constructor
 ·split
  ·exact a
  ·omega
 ·split
  ·exact b
  ·omega
theorem mh_lt (c:Int) (st:RS):mhG c st<18446744073709551616∧mhT c st<18446744073709551616:=by
 unfold mhG mhT
 have a:=getN_lt (flagN st).1
 have b:=getN_lt (getN (flagN st).1).1
 constructor
 ·split<;>omega
 ·split<;>omega
theorem mget_no (x:Gl) (hf:x.Fit) (hl':x.ru.length≤10) (now:Int) (hb:goalP x=false∨ ¬(0≤now∧now≤253402300799)) (st:RS) (hl:rsLe st 1000000) (d:Nat) (c:Id) (hc:c.isIt=false) (hd:c.isNw d=false):
  SpH Tryz.prog gl 29 d ⟨[.ptr c 0,.agg x.row,i6 now],[(c,rdv st)],[]⟩ (rgX c):=by
 refine h29 rfl ?_
 have hi:=inn_notNw hd
 have SP:=mspoil_spec st hl 25 (.up c) hc rfl
 have m1:=rdv_mp st
 have m2:=rdv_mp none
 have i2:=rdv_ids none
 unfold rgX
 cases hx:goalP x with
 |false=>
  have NW:=mnew_bad x hf hx 13
  have hrow:x.row=[.str x.n,.int .u32 x.t,i6 x.g,i6 x.a,i6 x.o,i6 x.c,.sl (x.lb.map Lb.row),.sl (x.ru.map Ru.row)]:=rfl
  rw [hrow] at NW ⊢
  generalize rdv none=B2 at *
  generalize rdv st=B1 at *
  simp only [inSt,mpL,mpB,mpP,AV.mp,m1]
  simp -implicitDefEqProofs [c29]
  refine onH_mk _ _ (NW) ⟨?_,?_,?_,?_,?_,?_,?_⟩ ?_
  iterate 7 (· simp)
  simp -implicitDefEqProofs
  refine onH_mk _ _ (SP) ⟨?_,?_,?_,?_,?_,?_,?_⟩ ?_
  iterate 7 (· simp)
  simp -implicitDefEqProofs
  refine postH_r ⟨?_,?_,?_,?_,?_,?_⟩<;>simp -implicitDefEqProofs [hi,hc,m2,i2]
 |true=>
  have hn: ¬(0≤now∧now≤253402300799):=by rcases hb with q|q;rw [hx] at q;cases q;exact q
  have hw:=goal_wd hx hl'
  have NW:SpH Tryz.prog gl 35 13 ⟨[.agg x.row],[],[]⟩ ⟨.tup [.ptr (.nw 13 (.n 16)) 0,i6 0],mtB (.nw 13 (.n 16)) (.nw 13 (.n 40)) (fun i=> .nw 13 (R0 i)) (fun i=> .nw 13 (B0 i)) x (winP x).length (intRows (winP x)) (kN x) (wN x) 0 [] false,[]⟩:=mnew_spec x hf hl' hx (winP x).length (goal_n hl') (goal_n1 hx) rfl (gN x) hw.gg (wdN x) hw.wd 13
  have MV:=mmove_bad (.nw 13 (.n 16)) (.nw 13 (.n 40)) (nms0 13).pa x (winP x).length (intRows (winP x)) (pF x.c 0) (pT x.c 0) (pcG x.c 0 []) (pcT x.c 0 []) 0 false now (.inl hn) 21 rfl
  rw [if_neg hn] at MV
  have nw1: ∀(a:Id) (b:List AV),(a,b)∈rgsB (fun i=> .nw 13 (R0 i)) (fun i=> .nw 13 (B0 i)) (rgC (kN x) (wN x) 0 []) (rgD (kN x) (wN x) 0 []) (winP x).length→(a.isNw 13=true∧a.isIt=false)∧a.isNw 21=false∧a.isNw 25=false:=by
   intro a b hp
   obtain ⟨i,_,e|e⟩:=mem_rgsB.1 hp
   ·cases e;exact ⟨⟨rfl,rfl⟩,rfl,rfl⟩
   ·cases e;exact ⟨⟨rfl,rfl⟩,rfl,rfl⟩
  have gu:lkB (rgsB (fun i=> .nw 13 (R0 i)) (fun i=> .nw 13 (B0 i)) (rgC (kN x) (wN x) 0 []) (rgD (kN x) (wN x) 0 []) (winP x).length) (.up c)=none:=rgsB_none (fun i e=>by cases e) (fun i e=>by cases e) _
  have gm:rmB (rgsB (fun i=> .nw 13 (R0 i)) (fun i=> .nw 13 (B0 i)) (rgC (kN x) (wN x) 0 []) (rgD (kN x) (wN x) 0 []) (winP x).length) (.nw 13 (.n 16))=rgsB (fun i=> .nw 13 (R0 i)) (fun i=> .nw 13 (B0 i)) (rgC (kN x) (wN x) 0 []) (rgD (kN x) (wN x) 0 []) (winP x).length:=rgsB_rm (nms0 13).mr (nms0 13).mb _
  have hrow:x.row=[.str x.n,.int .u32 x.t,i6 x.g,i6 x.a,i6 x.o,i6 x.c,.sl (x.lb.map Lb.row),.sl (x.ru.map Ru.row)]:=rfl
  rw [hrow] at NW ⊢
  simp only [mtB] at NW
  simp only [mtC] at NW MV
  generalize rgsB (fun i=> .nw 13 (R0 i)) (fun i=> .nw 13 (B0 i)) (rgC (kN x) (wN x) 0 []) (rgD (kN x) (wN x) 0 []) (winP x).length=RG at *
  generalize ptrC (fun i=> .nw 13 (R0 i)) (winP x).length=PC at *
  generalize rdv none=B2 at *
  generalize rdv st=B1 at *
  simp only [inSt,mpL,mpB,mpP,AV.mp,m1]
  simp -implicitDefEqProofs [c29]
  refine onH_mk _ _ NW ⟨?_,?_,?_,?_,?_,?_,?_⟩ ?_
  iterate 5 (· simp)
  ·simp
   exact fun a b hp=>(nw1 a b hp).1
  ·simp
  simp -implicitDefEqProofs
  refine onH_mk _ _ (MV) ⟨?_,?_,?_,?_,?_,?_,?_⟩ ?_
  iterate 6 (· simp)
  ·simp;exact fun a b hm=>by (rcases hm with h|h|h)<;>first|exact (nw1 _ _ h).2.1|(obtain ⟨rfl,-⟩:=h;rfl)
  simp -implicitDefEqProofs [gm,rmB_app]
  refine onH_mk _ _ (SP) ⟨?_,?_,?_,?_,?_,?_,?_⟩ ?_
  iterate 6 (· simp [lkB_app,gu])
  ·simp;exact fun a b hm=>by (rcases hm with h|h|h)<;>first|exact (nw1 _ _ h).2.2|(obtain ⟨rfl,-⟩:=h;rfl)
  simp -implicitDefEqProofs
  refine postH_r ⟨?_,?_,?_,?_,?_,?_⟩<;>simp -implicitDefEqProofs [hi,hc,m2,i2]
open Go.Proofs
def xa:Gl:=⟨[97],5,10,10,0,0,[],[⟨[114],false,100,10,1,0,0⟩]⟩
theorem xa_goal:goalP xa=true:=by decide+kernel
theorem xa_win:winP xa=[10,100]:=by
 refine rising_ext (winP_rising xa) (by unfold Rising;decide) fun z=>?_
 rw [winP_mem]
 have e:allW xa=[100,10]:=by decide+kernel
 rw [e]
 simp only [List.mem_cons,List.not_mem_nil,or_false]
 exact or_comm
theorem xa_k:kN xa 0=1∧kN xa 1=10∧wN xa 0=10∧wN xa 1=10:=by
 unfold kN wN wdN gN
 rw [xa_win]
 decide+kernel
theorem xa_fit:xa.Fit:=⟨by decide,by decide,by decide,fun y hy=>by simp [xa] at hy,fun y hy=>by
 simp only [xa,List.mem_singleton] at hy
 subst hy;simp [ruFit]⟩
theorem xa_room:roomB 0 2 (kN xa) (wN xa) 100 [] 90 2=true:=by
 obtain ⟨k0,k1,w0,w1⟩:=xa_k
 have e:List.range 2=[0,1]:=rfl
 unfold roomB okW
 rw [e]
 simp only [List.all_cons,List.all_nil,k0,k1,w0,w1]
 decide+kernel
theorem xa_see:wndV (winP xa) (kN xa) (wN xa) 100 [(90,1,2)] false 100= .tup [.agg [u 1,u 2],i6 0]:=by
 obtain ⟨k0,k1,w0,w1⟩:=xa_k
 have b:bsI [10,100] 100=1:=by decide+kernel
 have m:(100:Int)∈([10,100]:List Int):=by decide
 have g:sumG 10 10 (100 / 10) [(90,1,2)]=1:=by decide+kernel
 have t:sumT 10 10 (100 / 10) [(90,1,2)]=2:=by decide+kernel
 unfold wndV
 rw [xa_win,b,k1,w1,if_pos m,if_neg (by simp),g,t]
theorem xa_ok0:MtOk xa 2 (kN xa) (wN xa) ⟨100,[],false⟩ 0:=by
 have:=mvT_ok (mt0_ok xa 2 (kN xa) (wN xa)) 100
 exact this
end Go.Ai
