/- P11: a part of the proof. Conditions: as each theorem says. -/
import Derived.Test.YtojgeamhdkphaaaGreatDoorP10
set_option maxHeartbeats 4000000
set_option linter.unusedSimpArgs false
set_option linter.unusedVariables false
set_option maxRecDepth 20000
namespace Go.Ai
open Go.Proofs
def qT (n:List UInt8) (pg:Bool) (C:List It):List AV:=[.str n,.bool pg,i6 (ah C fX 0),i6 (ah C fY 0),u (ah C eZ 0),i6 (ah C lH 0),i6 (ah C lI 0)]
theorem kI {q:Int} {K:List (List UInt8)} {x:It} {lo hi:Nat} (h:m5 q K x lo hi=0) (b:Nat) (hb:hi<b):n1 x<b:=by
 unfold m5 at h;split at h
 ·cases h
 ·unfold jb at h;split at h
  ·cases h
  ·split at h
   ·cases h
   ·omega
theorem Gt (C M R:Id) (x:It) (Cs:List It) (n:List UInt8) (pg:Bool) (f:List Ft) (d:Nat) (hx: ∀t∈x.ws,1<=t.k/\t.k<=6) (hm:M.isIt=true) (hmd:M.isNw d=false) (hr:R.isIt=false) (hrd:R.isNw d=false) (hc0:C.isIt=false) (hcd:C.isNw d=false) (nCR:C≠R) (h0:aV 2 Cs x=0):
  bh Tryz.prog gl 76 d ⟨[b9 C M,.agg x.row,.ptr R 0],[(C,bY f),(M,ba (ar Cs)),(R,qT n pg Cs)],[(.b C 0,3)]⟩ ⟨.tup [],[(C,bY f),(M,ba (ar (Cs++[x]))),(R,qT n pg (Cs++[x]))],[(.b C 0,3)]⟩:=by
 refine UV rfl ?_;have hmi:=ai hmd;have hri:=ai hrd;have hci:=ai hcd;have ne1:M≠R:=fun e=>by rw[e,hr] at hm;cases hm
 have ne2:R≠M:=fun e=>ne1 e.symm
 have ne3:M≠C:=fun e=>by rw[e,hc0] at hm;cases hm
 have ne4:C≠M:=fun e=>ne3 e.symm
 have ne5:=nCR.symm;unfold bY;generalize List.map Ft.row f=FL at*;by_cases e0:x.nm=fX
 ·have hf:bK 2 x.nm=some ⟨fX,[6],false,1,1,34560000⟩:=by rw[e0];rfl
  have hc:=cf (C:=Cs) hf rfl rfl rfl (by decide) (by decide) (by decide);have gs:=cP hf rfl h0 0;have g2:=fun m (h:x.nm≠m)=>dF (C:=Cs) h 0
  rw[hc] at h0;have S:=fun h=>iq C.up M.up x (ar Cs) 1 34560000 12 hm h h0 (kI h0 _ (by decide))
  rw[fV (by rw[e0];decide),e0] at gs;rw[dh (by rw[e0];rfl)];unfold qT;rw[gs,g2 fY (by rw[e0];decide),g2 eZ (by rw[e0];decide),g2 lH (by rw[e0];decide),g2 lI (by rw[e0];decide)];unfold ba b9 at*;rw[au] at*;rw[e0] at*;generalize aI kS (aB (ar Cs++[fX]))=G2 at*;generalize aI kS (aB (ar Cs))=G,n1 x=v,ah Cs fX 0=vsLo,ah Cs fY 0=vsSh,ah Cs eZ 0=vsFa,ah Cs lH 0=vsFo,ah Cs lI 0=vsKe,ae x.kd=KR,List.map Tk.row x.ws=WR at*;simp only[aw,aW,aO,AV.mp,aX,Pl.mp] at*;clear h0 hc hx hf gs g2;unfold fX at*;simp[BT];refine a6 _ _ (S rfl) (by constructor<;>simp[hm,hc0,nCR,ne1,ne2,ne3,ne4,ne5]) ?_
  simp[hm,hr,hc0,nCR,ne1,ne2,ne3,ne4,ne5];refine bz ?_;constructor<;>simp[hmi,hri,hci,hm,hr,hc0,nCR,ne1,ne2,ne3,ne4,ne5]
 by_cases e1:x.nm=fY
 ·have hf:bK 2 x.nm=some ⟨fY,[6],false,1,1,34560000⟩:=by rw[e1];rfl
  have hc:=cf (C:=Cs) hf rfl rfl rfl (by decide) (by decide) (by decide);have gs:=cP hf rfl h0 0;have g2:=fun m (h:x.nm≠m)=>dF (C:=Cs) h 0
  rw[hc] at h0;have S:=fun h=>iq C.up M.up x (ar Cs) 1 34560000 18 hm h h0 (kI h0 _ (by decide))
  rw[fV (by rw[e1];decide),e1] at gs;rw[dh (by rw[e1];rfl)];unfold qT;rw[gs,g2 fX (by rw[e1];decide),g2 eZ (by rw[e1];decide),g2 lH (by rw[e1];decide),g2 lI (by rw[e1];decide)];unfold ba b9 at*;rw[au] at*;rw[e1] at*;generalize aI kS (aB (ar Cs++[fY]))=G2 at*;generalize aI kS (aB (ar Cs))=G,n1 x=v,ah Cs fX 0=vsLo,ah Cs fY 0=vsSh,ah Cs eZ 0=vsFa,ah Cs lH 0=vsFo,ah Cs lI 0=vsKe,ae x.kd=KR,List.map Tk.row x.ws=WR at*;simp only[aw,aW,aO,AV.mp,aX,Pl.mp] at*;clear h0 hc hx hf gs g2;unfold fY at*;simp[BT];refine a6 _ _ (S rfl) (by constructor<;>simp[hm,hc0,nCR,ne1,ne2,ne3,ne4,ne5]) ?_
  simp[hm,hr,hc0,nCR,ne1,ne2,ne3,ne4,ne5];refine bz ?_;constructor<;>simp[hmi,hri,hci,hm,hr,hc0,nCR,ne1,ne2,ne3,ne4,ne5]
 by_cases e2:x.nm=eZ
 ·have hf:bK 2 x.nm=some ⟨eZ,[4],false,1,1,1000000⟩:=by rw[e2];rfl
  have hc:=CM (C:=Cs) hf rfl rfl rfl rfl rfl rfl;have gs:=cP hf rfl h0 0;have g2:=fun m (h:x.nm≠m)=>dF (C:=Cs) h 0
  rw[hc] at h0;have S:=fun h=>DY C.up M.up x (ar Cs) 24 hm h h0
  rw[<-LF e2 h0,e2] at gs;rw[dh (by rw[e2];rfl)];unfold qT;rw[gs,g2 fX (by rw[e2];decide),g2 fY (by rw[e2];decide),g2 lH (by rw[e2];decide),g2 lI (by rw[e2];decide)];unfold ba b9 at*;rw[au] at*;rw[e2] at*;generalize aI kS (aB (ar Cs++[eZ]))=G2 at*;generalize aI kS (aB (ar Cs))=G,mS x=v,ah Cs fX 0=vsLo,ah Cs fY 0=vsSh,ah Cs eZ 0=vsFa,ah Cs lH 0=vsFo,ah Cs lI 0=vsKe,ae x.kd=KR,List.map Tk.row x.ws=WR at*;simp only[aw,aW,aO,AV.mp,aX,Pl.mp] at*;clear h0 hc hx hf gs g2;unfold eZ at*;simp[BT];refine a6 _ _ (S rfl) (by constructor<;>simp[hm,hc0,nCR,ne1,ne2,ne3,ne4,ne5]) ?_
  simp[hm,hr,hc0,nCR,ne1,ne2,ne3,ne4,ne5];refine bz ?_;constructor<;>simp[hmi,hri,hci,hm,hr,hc0,nCR,ne1,ne2,ne3,ne4,ne5]
 by_cases e3:x.nm=lH
 ·have hf:bK 2 x.nm=some ⟨lH,[6],false,1,0,604800⟩:=by rw[e3];rfl
  have hc:=cf (C:=Cs) hf rfl rfl rfl (by decide) (by decide) (by decide);have gs:=cP hf rfl h0 0;have g2:=fun m (h:x.nm≠m)=>dF (C:=Cs) h 0
  rw[hc] at h0;have S:=fun h=>iq C.up M.up x (ar Cs) 0 604800 30 hm h h0 (kI h0 _ (by decide))
  rw[fV (by rw[e3];decide),e3] at gs;rw[dh (by rw[e3];rfl)];unfold qT;rw[gs,g2 fX (by rw[e3];decide),g2 fY (by rw[e3];decide),g2 eZ (by rw[e3];decide),g2 lI (by rw[e3];decide)];unfold ba b9 at*;rw[au] at*;rw[e3] at*;generalize aI kS (aB (ar Cs++[lH]))=G2 at*;generalize aI kS (aB (ar Cs))=G,n1 x=v,ah Cs fX 0=vsLo,ah Cs fY 0=vsSh,ah Cs eZ 0=vsFa,ah Cs lH 0=vsFo,ah Cs lI 0=vsKe,ae x.kd=KR,List.map Tk.row x.ws=WR at*;simp only[aw,aW,aO,AV.mp,aX,Pl.mp] at*;clear h0 hc hx hf gs g2;unfold lH at*;simp[BT];refine a6 _ _ (S rfl) (by constructor<;>simp[hm,hc0,nCR,ne1,ne2,ne3,ne4,ne5]) ?_
  simp[hm,hr,hc0,nCR,ne1,ne2,ne3,ne4,ne5];refine bz ?_;constructor<;>simp[hmi,hri,hci,hm,hr,hc0,nCR,ne1,ne2,ne3,ne4,ne5]
 by_cases e4:x.nm=lI
 ·have hf:bK 2 x.nm=some ⟨lI,[6],false,1,0,604800⟩:=by rw[e4];rfl
  have hc:=cf (C:=Cs) hf rfl rfl rfl (by decide) (by decide) (by decide);have gs:=cP hf rfl h0 0;have g2:=fun m (h:x.nm≠m)=>dF (C:=Cs) h 0
  rw[hc] at h0;have S:=fun h=>iq C.up M.up x (ar Cs) 0 604800 36 hm h h0 (kI h0 _ (by decide))
  rw[fV (by rw[e4];decide),e4] at gs;rw[dh (by rw[e4];rfl)];unfold qT;rw[gs,g2 fX (by rw[e4];decide),g2 fY (by rw[e4];decide),g2 eZ (by rw[e4];decide),g2 lH (by rw[e4];decide)];unfold ba b9 at*;rw[au] at*;rw[e4] at*;generalize aI kS (aB (ar Cs++[lI]))=G2 at*;generalize aI kS (aB (ar Cs))=G,n1 x=v,ah Cs fX 0=vsLo,ah Cs fY 0=vsSh,ah Cs eZ 0=vsFa,ah Cs lH 0=vsFo,ah Cs lI 0=vsKe,ae x.kd=KR,List.map Tk.row x.ws=WR at*;simp only[aw,aW,aO,AV.mp,aX,Pl.mp] at*;clear h0 hc hx hf gs g2;unfold lI at*;simp[BT];refine a6 _ _ (S rfl) (by constructor<;>simp[hm,hc0,nCR,ne1,ne2,ne3,ne4,ne5]) ?_
  simp[hm,hr,hc0,nCR,ne1,ne2,ne3,ne4,ne5];refine bz ?_;constructor<;>simp[hmi,hri,hci,hm,hr,hc0,nCR,ne1,ne2,ne3,ne4,ne5]
 ·exfalso;rw[go (by simp[bK,fZ,Ne.symm e0,Ne.symm e1,Ne.symm e2,Ne.symm e3,Ne.symm e4])] at h0;cases h0
theorem Gu (C M R:Id) (x:It) (Cs:List It) (n:List UInt8) (pg:Bool) (f:List Ft) (d:Nat) (hx: ∀t∈x.ws,1<=t.k/\t.k<=6) (hm:M.isIt=true) (hmd:M.isNw d=false) (hr:R.isIt=false) (hrd:R.isNw d=false) (hc0:C.isIt=false) (hcd:C.isNw d=false) (nCR:C≠R) (h0:aV 2 Cs x≠0):
  dK Tryz.prog gl 76 d ⟨[b9 C M,.agg x.row,.ptr R 0],[(C,bY f),(M,ba (ar Cs)),(R,qT n pg Cs)],[(.b C 0,3)]⟩ ⟨bN (aV 2 Cs x),[(C,bY f),(M,ba (ar Cs)),(R,qT n pg Cs)],[(.b C 0,3)]⟩:=by
 refine UU rfl ?_;have hmi:=ai hmd;have hri:=ai hrd;have hci:=ai hcd;have ne1:M≠R:=fun e=>by rw[e,hr] at hm;cases hm
 have ne2:R≠M:=fun e=>ne1 e.symm
 have ne3:M≠C:=fun e=>by rw[e,hc0] at hm;cases hm
 have ne4:C≠M:=fun e=>ne3 e.symm
 have ne5:=nCR.symm;unfold bY;generalize List.map Ft.row f=FL at*;by_cases e0:x.nm=fX
 ·have hf:bK 2 x.nm=some ⟨fX,[6],false,1,1,34560000⟩:=by rw[e0];rfl
  have hc:=cf (C:=Cs) hf rfl rfl rfl (by decide) (by decide) (by decide);rw[hc] at h0 ⊢;have S:=fun h=>ir C.up M.up x (ar Cs) 1 34560000 12 hx hm h h0
  generalize m5 6 (ar Cs) x 1 34560000=e at*;unfold qT ba b9 bN at*;rw[au] at*;rw[e0] at*;generalize aI kS (aB (ar Cs))=G,ah Cs fX 0=vsLo,ah Cs fY 0=vsSh,ah Cs eZ 0=vsFa,ah Cs lH 0=vsFo,ah Cs lI 0=vsKe,ae x.kd=KR,List.map Tk.row x.ws=WR at*;simp only[aw,aW,aO,AV.mp,aX,Pl.mp] at*;clear h0 hc hx hf;unfold fX at*;simp[BT];refine bC _ _ (S rfl) (by constructor<;>simp[hm,hc0,nCR,ne1,ne2,ne3,ne4,ne5]) rfl ?_
  refine ⟨rfl,by simp,?_⟩;constructor<;>simp[hmi,hri,hci,hm,hr,hc0,nCR,ne1,ne2,ne3,ne4,ne5]
 by_cases e1:x.nm=fY
 ·have hf:bK 2 x.nm=some ⟨fY,[6],false,1,1,34560000⟩:=by rw[e1];rfl
  have hc:=cf (C:=Cs) hf rfl rfl rfl (by decide) (by decide) (by decide);rw[hc] at h0 ⊢;have S:=fun h=>ir C.up M.up x (ar Cs) 1 34560000 18 hx hm h h0
  generalize m5 6 (ar Cs) x 1 34560000=e at*;unfold qT ba b9 bN at*;rw[au] at*;rw[e1] at*;generalize aI kS (aB (ar Cs))=G,ah Cs fX 0=vsLo,ah Cs fY 0=vsSh,ah Cs eZ 0=vsFa,ah Cs lH 0=vsFo,ah Cs lI 0=vsKe,ae x.kd=KR,List.map Tk.row x.ws=WR at*;simp only[aw,aW,aO,AV.mp,aX,Pl.mp] at*;clear h0 hc hx hf;unfold fY at*;simp[BT];refine bC _ _ (S rfl) (by constructor<;>simp[hm,hc0,nCR,ne1,ne2,ne3,ne4,ne5]) rfl ?_
  refine ⟨rfl,by simp,?_⟩;constructor<;>simp[hmi,hri,hci,hm,hr,hc0,nCR,ne1,ne2,ne3,ne4,ne5]
 by_cases e2:x.nm=eZ
 ·have hf:bK 2 x.nm=some ⟨eZ,[4],false,1,1,1000000⟩:=by rw[e2];rfl
  have hc:=CM (C:=Cs) hf rfl rfl rfl rfl rfl rfl;rw[hc] at h0 ⊢;have S:=fun h=>DZ C.up M.up x (ar Cs) 24 hx hm h h0
  generalize DX (ar Cs) x=e at*;unfold qT ba b9 bN at*;rw[au] at*;rw[e2] at*;generalize aI kS (aB (ar Cs))=G,ah Cs fX 0=vsLo,ah Cs fY 0=vsSh,ah Cs eZ 0=vsFa,ah Cs lH 0=vsFo,ah Cs lI 0=vsKe,ae x.kd=KR,List.map Tk.row x.ws=WR at*;simp only[aw,aW,aO,AV.mp,aX,Pl.mp] at*;clear h0 hc hx hf;unfold eZ at*;simp[BT];refine bC _ _ (S rfl) (by constructor<;>simp[hm,hc0,nCR,ne1,ne2,ne3,ne4,ne5]) rfl ?_
  refine ⟨rfl,by simp,?_⟩;constructor<;>simp[hmi,hri,hci,hm,hr,hc0,nCR,ne1,ne2,ne3,ne4,ne5]
 by_cases e3:x.nm=lH
 ·have hf:bK 2 x.nm=some ⟨lH,[6],false,1,0,604800⟩:=by rw[e3];rfl
  have hc:=cf (C:=Cs) hf rfl rfl rfl (by decide) (by decide) (by decide);rw[hc] at h0 ⊢;have S:=fun h=>ir C.up M.up x (ar Cs) 0 604800 30 hx hm h h0
  generalize m5 6 (ar Cs) x 0 604800=e at*;unfold qT ba b9 bN at*;rw[au] at*;rw[e3] at*;generalize aI kS (aB (ar Cs))=G,ah Cs fX 0=vsLo,ah Cs fY 0=vsSh,ah Cs eZ 0=vsFa,ah Cs lH 0=vsFo,ah Cs lI 0=vsKe,ae x.kd=KR,List.map Tk.row x.ws=WR at*;simp only[aw,aW,aO,AV.mp,aX,Pl.mp] at*;clear h0 hc hx hf;unfold lH at*;simp[BT];refine bC _ _ (S rfl) (by constructor<;>simp[hm,hc0,nCR,ne1,ne2,ne3,ne4,ne5]) rfl ?_
  refine ⟨rfl,by simp,?_⟩;constructor<;>simp[hmi,hri,hci,hm,hr,hc0,nCR,ne1,ne2,ne3,ne4,ne5]
 by_cases e4:x.nm=lI
 ·have hf:bK 2 x.nm=some ⟨lI,[6],false,1,0,604800⟩:=by rw[e4];rfl
  have hc:=cf (C:=Cs) hf rfl rfl rfl (by decide) (by decide) (by decide);rw[hc] at h0 ⊢;have S:=fun h=>ir C.up M.up x (ar Cs) 0 604800 36 hx hm h h0
  generalize m5 6 (ar Cs) x 0 604800=e at*;unfold qT ba b9 bN at*;rw[au] at*;rw[e4] at*;generalize aI kS (aB (ar Cs))=G,ah Cs fX 0=vsLo,ah Cs fY 0=vsSh,ah Cs eZ 0=vsFa,ah Cs lH 0=vsFo,ah Cs lI 0=vsKe,ae x.kd=KR,List.map Tk.row x.ws=WR at*;simp only[aw,aW,aO,AV.mp,aX,Pl.mp] at*;clear h0 hc hx hf;unfold lI at*;simp[BT];refine bC _ _ (S rfl) (by constructor<;>simp[hm,hc0,nCR,ne1,ne2,ne3,ne4,ne5]) rfl ?_
  refine ⟨rfl,by simp,?_⟩;constructor<;>simp[hmi,hri,hci,hm,hr,hc0,nCR,ne1,ne2,ne3,ne4,ne5]
 ·rw[go (by simp[bK,fZ,Ne.symm e0,Ne.symm e1,Ne.symm e2,Ne.symm e3,Ne.symm e4])];clear h0;have b0:(x.nm==fX)=false:=bJ.2 e0;have b1:(x.nm==fY)=false:=bJ.2 e1;have b2:(x.nm==eZ)=false:=bJ.2 e2;have b3:(x.nm==lH)=false:=bJ.2 e3;have b4:(x.nm==lI)=false:=bJ.2 e4;unfold qT ba b9 bN at*;rw[au] at*;generalize aI kS (aB (ar Cs))=G,ah Cs fX 0=vsLo,ah Cs fY 0=vsSh,ah Cs eZ 0=vsFa,ah Cs lH 0=vsFo,ah Cs lI 0=vsKe,x.nm=nm,ae x.kd=KR,List.map Tk.row x.ws=WR at*;simp only[aw,aW,aO,AV.mp,aX,Pl.mp] at*;unfold fX fY eZ lH lI at*;simp[BT,b0,b1,b2,b3,b4];refine ⟨rfl,by simp,?_⟩;constructor<;>simp[hmi,hri,hci,hm,hr,hc0,nCR,ne1,ne2,ne3,ne4,ne5]
theorem qU (a b:Id) (dm:Nat):EV Tryz.prog gl 74 dm ⟨[.ptr a 0,.ptr b 0],[],[]⟩ .nili ⟨.tup [],[],[]⟩:=by
 refine Tc rfl rfl ?_;simp only[aw,aW,aO,AV.mp,aX,Pl.mp];simp[Ob,Oc];refine bz ?_;constructor<;>simp
theorem qV (a b C M0:Id) (n:List UInt8) (WR KR:List (List AV)) (bk:Bool) (l c e:Int) (f:List Ft) (dm:Nat) (ha:a.isIt=false) (had:a.isNw dm=false) (hb:b.isIt=false) (hbd:b.isNw dm=false) (hc:C.isIt=false) (hcd:C.isNw dm=false)
  (hm:M0.isIt=true) (nab:a≠b) (nac:a≠C) (nbc:b≠C) (hl:f.length<=10000000):
  EV Tryz.prog gl 74 dm ⟨[.ptr a 0,.ptr b 0],[(a,[.ptr C 0,.mref (.up M0)]),(b,[.str n,.sl WR,.bool bk,.sl KR,i6 l,i6 c]),(C,bY f)],[(.b C 0,3)]⟩ (bN e) ⟨.tup [],[(a,[.ptr C 0,.mref (.up M0)]),(b,[.str n,.sl WR,.bool bk,.sl KR,i6 l,i6 c]),(C,bY (f++[⟨e,l,c⟩]))],[(.b C 0,3)]⟩:=by
 refine Tc rfl rfl ?_;have hai:=ai had;have hbi:=ai hbd;have hci:=ai hcd;have nba:=nab.symm;have nca:=nac.symm;have ncb:=nbc.symm;have S:=fun h=>ib C.up e l c f 12 hc h hl
 unfold bN bY at*;generalize List.map Ft.row (f++[⟨e,l,c⟩])=F2,List.map Ft.row f=F at*;simp only[aw,aW,aO,AV.mp,aX,Pl.mp] at*;simp[Ob,Oc,nab,nac,nbc,nba,nca,ncb];refine aF _ _ (S rfl) (by constructor<;>simp[hm,nab,nac,nbc,nba,nca,ncb]) ?_
 simp;refine bz ?_;constructor<;>simp[hai,hbi,hci,ha,hb,hc,hm,nab,nac,nbc,nba,nca,ncb]
theorem za:(List.range 11).map X.s=[.s 0,.s 1,.s 2,.s 3,.s 4,.s 5,.s 6,.s 7,.s 8,.s 9,.s 10]:=rfl
theorem Jz (C M R:Id) (x:It) (K K':List (List UInt8)) (f f':List Ft) (cs cs':List AV) (d:Nat) (hC:C.isIt=false) (hCd:C.isNw d=false) (hR:R.isIt=false) (hRd:R.isNw d=false) (hM:M.isIt=true) (hMd:M.isNw d=false) (nCR:C≠R)
  (hid:bR cs=[]) (hid':bR cs'=[])
  (S:C.up.up.isNw 10=false->M.up.up.isNw 10=false->R.up.up.isNw 10=false->bh Tryz.prog gl 76 10 ⟨[b9 C.up.up M.up.up,.agg x.row,.ptr R.up.up 0],[(C.up.up,bY f),(M.up.up,ba K),(R.up.up,cs)],[(.b C.up.up 0,3)]⟩ ⟨.tup [],[(C.up.up,bY f'),(M.up.up,ba K'),(R.up.up,cs')],[(.b C.up.up 0,3)]⟩):
  bh Tryz.prog gl 44 d ⟨[b9 C M,.agg x.row,.fn (76) [.ptr R 0]],[(C,bY f),(M,ba K),(R,cs)],[(.b C 0,3)]⟩ ⟨.tup [],[(C,bY f'),(M,ba K'),(R,cs')],[(.b C 0,3)]⟩:=by
 refine Ky 1 1 (by decide) (by decide) rfl ?_;have iC:=ai hCd;have iR:=ai hRd;have iM:=ai hMd;have nRC:=nCR.symm;have nMC:M≠C:=fun e=>by rw[e,hC] at hM;cases hM
 have nCM:=nMC.symm;have nMR:M≠R:=fun e=>by rw[e,hR] at hM;cases hM
 have nRM:=nMR.symm;have hmp:=fun g=>aT (f:=g) hid
 have hmp':=fun g=>aT (f:=g) hid'
 have q0:=a7 cs;have q1:=a7 cs';have S:=S rfl rfl rfl;have RN:=qU (.up (.n 3)) (.up (.n 4)) 1;unfold b9 bY ba at*;rw[au] at*;generalize aI kS (aB K)=G at*;generalize aI kS (aB K')=G',List.map Ft.row f'=FL' at*;generalize List.map Ft.row f=FL,ae x.kd=KR,List.map Tk.row x.ws=WR,x.nm=nm,x.bk=bk,x.pl.1=pl,x.pl.2=pc at*;simp only[aw,aW,aO,AV.mp,aX,Pl.mp,hmp,Iv,jd];simp;rw[iu,za];simp;refine ⟨⟨[.agg [.ptr C.up 0,.mref M.up],.agg [.str nm,.sl WR,.bool bk,.sl KR,i6 pl,i6 pc],.fn (76) [.ptr R.up 0],.ptr (.n 3) 0,.ptr (.n 4) 0,.undef,.fn 74 [.ptr (.n 3) 0,.ptr (.n 4) 0],.undef,.undef,.undef,.undef],[(.n 3,[.ptr C.up 0,.mref M.up]),(.n 4,[.str nm,.sl WR,.bool bk,.sl KR,i6 pl,i6 pc]),(C.up,[.sl FL]),(M.up,[.mpv G]),(R.up,cs)],[(.b C.up 0,3)]⟩,rfl,⟨.tup [],[(.n 3,[.ptr C.up 0,.mref M.up]),(.n 4,[.str nm,.sl WR,.bool bk,.sl KR,i6 pl,i6 pc]),(C.up,[.sl FL']),(M.up,[.mpv G']),(R.up,cs')],[(.b C.up 0,3)]⟩,⟨?_,?_,?_,?_,?_,?_,?_⟩,?_,?_⟩;iterate 7 (· simp[iC,hC,iR,hR,iM,hM,nRC,nCR,nMC,nCM,nMR,nRM,hmp,hmp',hid,hid',q0,q1])
 ·apply am<;>simp[iC,hC,iR,hR,iM,hM,nRC,nCR,nMC,nCM,nMR,nRM,hmp,hmp',hid,hid',q0,q1]
 ·simp[iC,hC,iR,hR,iM,hM,nRC,nCR,nMC,nCM,nMR,nRM,hmp,hmp',hid,hid',q0,q1];refine a6 _ _ (S) (by constructor<;>simp[iC,hC,iR,hR,iM,hM,nRC,nCR,nMC,nCM,nMR,nRM,hmp,hmp',hid,hid',q0,q1]) ?_
  simp[iC,hC,iR,hR,iM,hM,nRC,nCR,nMC,nCM,nMR,nRM,hmp,hmp',hid,hid',q0,q1];refine ⟨_,_,RN,⟨?_,?_,?_,?_,?_,?_,?_⟩,?_⟩;iterate 7 (· simp[iC,hC,iR,hR,iM,hM,nRC,nCR,nMC,nCM,nMR,nRM,hmp,hmp',hid,hid',q0,q1])
  apply am<;>simp[iC,hC,iR,hR,iM,hM,nRC,nCR,nMC,nCM,nMR,nRM,hmp,hmp',hid,hid',q0,q1]
theorem JA (C M R:Id) (x:It) (K K':List (List UInt8)) (f f':List Ft) (cs cs':List AV) (e:Int) (d:Nat) (hC:C.isIt=false) (hCd:C.isNw d=false) (hR:R.isIt=false) (hRd:R.isNw d=false) (hM:M.isIt=true) (hMd:M.isNw d=false) (nCR:C≠R)
  (hid:bR cs=[]) (hid':bR cs'=[]) (hl:f'.length<=10000000)
  (S:C.up.up.isNw 10=false->M.up.up.isNw 10=false->R.up.up.isNw 10=false->dK Tryz.prog gl 76 10 ⟨[b9 C.up.up M.up.up,.agg x.row,.ptr R.up.up 0],[(C.up.up,bY f),(M.up.up,ba K),(R.up.up,cs)],[(.b C.up.up 0,3)]⟩ ⟨bN e,[(C.up.up,bY f'),(M.up.up,ba K'),(R.up.up,cs')],[(.b C.up.up 0,3)]⟩):
  bh Tryz.prog gl 44 d ⟨[b9 C M,.agg x.row,.fn (76) [.ptr R 0]],[(C,bY f),(M,ba K),(R,cs)],[(.b C 0,3)]⟩ ⟨.tup [],[(C,bY (f'++[x.ft e])),(M,ba K'),(R,cs')],[(.b C 0,3)]⟩:=by
 refine Ky 1 1 (by decide) (by decide) rfl ?_;have iC:=ai hCd;have iR:=ai hRd;have iM:=ai hMd;have nRC:=nCR.symm;have nMC:M≠C:=fun e=>by rw[e,hC] at hM;cases hM
 have nCM:=nMC.symm;have nMR:M≠R:=fun e=>by rw[e,hR] at hM;cases hM
 have nRM:=nMR.symm;have hmp:=fun g=>aT (f:=g) hid
 have hmp':=fun g=>aT (f:=g) hid'
 have q0:=a7 cs;have q1:=a7 cs';have S:=S rfl rfl rfl;have RF:=qV (.up (.n 3)) (.up (.n 4)) C.up.up M.up x.nm (x.ws.map Tk.row) (ae x.kd) x.bk x.pl.1 x.pl.2 e f' 1 rfl rfl rfl rfl hC rfl hM (by decide) (by simp) (by simp) hl;rw[show (⟨e,x.pl.1,x.pl.2⟩:Ft)=x.ft e from rfl] at RF;unfold b9 bY ba bN at*;rw[au] at*;generalize aI kS (aB K)=G at*;generalize aI kS (aB K')=G',List.map Ft.row (f'++[x.ft e])=FL2,List.map Ft.row f'=FL' at*;generalize List.map Ft.row f=FL,ae x.kd=KR,List.map Tk.row x.ws=WR,x.nm=nm,x.bk=bk,x.pl.1=pl,x.pl.2=pc at*;simp only[aw,aW,aO,AV.mp,aX,Pl.mp,hmp,Iv,jd];simp;rw[iu,za];simp;refine ⟨⟨[.agg [.ptr C.up 0,.mref M.up],.agg [.str nm,.sl WR,.bool bk,.sl KR,i6 pl,i6 pc],.fn (76) [.ptr R.up 0],.ptr (.n 3) 0,.ptr (.n 4) 0,.undef,.fn 74 [.ptr (.n 3) 0,.ptr (.n 4) 0],.undef,.undef,.undef,.undef],[(.n 3,[.ptr C.up 0,.mref M.up]),(.n 4,[.str nm,.sl WR,.bool bk,.sl KR,i6 pl,i6 pc]),(C.up,[.sl FL]),(M.up,[.mpv G]),(R.up,cs)],[(.b C.up 0,3)]⟩,rfl,⟨.tup [],[(.n 3,[.ptr C.up 0,.mref M.up]),(.n 4,[.str nm,.sl WR,.bool bk,.sl KR,i6 pl,i6 pc]),(C.up,[.sl FL2]),(M.up,[.mpv G']),(R.up,cs')],[(.b C.up 0,3)]⟩,⟨?_,?_,?_,?_,?_,?_,?_⟩,?_,?_⟩;iterate 7 (· simp[iC,hC,iR,hR,iM,hM,nRC,nCR,nMC,nCM,nMR,nRM,hmp,hmp',hid,hid',q0,q1])
 ·apply am<;>simp[iC,hC,iR,hR,iM,hM,nRC,nCR,nMC,nCM,nMR,nRM,hmp,hmp',hid,hid',q0,q1]
 ·simp[iC,hC,iR,hR,iM,hM,nRC,nCR,nMC,nCM,nMR,nRM,hmp,hmp',hid,hid',q0,q1];refine bC _ _ (S) (by constructor<;>simp[iC,hC,iR,hR,iM,hM,nRC,nCR,nMC,nCM,nMR,nRM,hmp,hmp',hid,hid',q0,q1]) rfl ?_
  refine ⟨⟨_,_,rfl⟩,_,_,RF,⟨?_,?_,?_,?_,?_,?_,?_⟩,?_⟩;iterate 7 (· simp[iC,hC,iR,hR,iM,hM,nRC,nCR,nMC,nCM,nMR,nRM,hmp,hmp',hid,hid',q0,q1])
  apply am<;>simp[iC,hC,iR,hR,iM,hM,nRC,nCR,nMC,nCM,nMR,nRM,hmp,hmp',hid,hid',q0,q1]
theorem Ny (C R:Id) (L:List It) (K:Nat->List (List UInt8)) (f:Nat->List Ft) (cs:Nat->List AV) (d:Nat) (hC:C.isIt=false) (hCd:C.isNw d=false) (hR:R.isIt=false) (hRd:R.isNw d=false) (nCR:C≠R)
  (hid: ∀i,bR (cs i)=[]) (hK:K 0=[]) (hlen:L.length<=100000)
  (S: ∀(i:Nat) (h:i<L.length),C.up.isNw 21=false->R.up.isNw 21=false->bh Tryz.prog gl 44 21 ⟨[b9 C.up (.it 10),.agg L[i].row,.fn (76) [.ptr R.up 0]],[(C.up,bY (f (i))),(.it 10,ba (K (i))),(R.up,cs (i))],[(.b C.up 0,3)]⟩ ⟨.tup [],[(C.up,bY (f (i+1))),(.it 10,ba (K (i+1))),(R.up,cs (i+1))],[(.b C.up 0,3)]⟩):
  bh Tryz.prog gl 23 d ⟨[.ptr C 0,.sl (ae L),.fn (76) [.ptr R 0]],[(C,bY (f 0)),(R,cs 0)],[(.b C 0,3)]⟩ ⟨.tup [],[(C,bY (f L.length)),(R,cs L.length)],[(.b C 0,3)]⟩:=by
 refine N0 rfl ?_;have iC:=ai hCd;have iR:=ai hRd;have nRC:=nCR.symm;have rl:=a8 L;have rat:=cp L;have r6:=nr L;have hmp:=fun i g=>aT (f:=g) (hid i)
 have q0:=fun i=>a7 (cs i)
 have hki: ∀K,bR (ba K)=[]:=fun _=>rfl
 have k0:ba (K 0)=[.mpv []]:=by rw[hK];rfl
 simp only[aw,aW,aO,AV.mp,aX,Pl.mp,hmp];unfold bY b9 at*;simp only[aw,aW,aO,AV.mp,aX,Pl.mp,hmp];generalize ae L=RR at*;simp[MF];refine aY (α:=Nat) (fun i=>⟨[(0,.ptr C.up 0),(2,.fn (76) [.ptr R.up 0]),(6,.ptr (.n 6) 0),(12,.sl RR),(13,i6 L.length),(14,i6 i)],[(.n 6,[.ptr C.up 0,.mref (.it 10)]),(C.up,[.sl ((f i).map Ft.row)]),(.it 10,ba (K i)),(R.up,cs i)],[(.b C.up 0,3)]⟩) (fun i=>i<=L.length) (fun i=>L.length - i) ?_ 0 (gN _) ?_
 ·rintro k i hk h1;by_cases g:i<L.length
  ·have t1:IntKind.i64.wrap ((i:Int)+1)=(i+1:Nat):=by rw[ay]<;>omega
   have g':(i:Int)<L.length:=by omega
   have gR:i<RR.length:=by omega
   have rai:=rat i g gR;have fin:=fun σ' hσ=>hk (i+1) σ' (by omega) (by omega) hσ
   have S:=S i g rfl rfl;have ra6:=r6 RR[i] (o9 gR);rw[<-rai] at S;clear hk rat rai r6;obtain ⟨row,hrow⟩: ∃row,row=RR[i]:=⟨_,rfl⟩;rw[<-hrow] at S ra6;have hat: ∀h,RR[i]'h=row:=fun _=>hrow.symm
   have ht:List.take 6 row=row:=List.take_of_length_le (by omega);simp[g,g',gR,rl,hat,ra6,ht,iC,hC,iR,hR,nRC,nCR,hmp,hid,q0,hki];refine aF _ _ (S) (by constructor<;>simp[iC,hC,iR,hR,nRC,nCR,hmp,hid,q0,hki]) ?_
   simp[iC,hC,iR,hR,nRC,nCR,hmp,hid,q0,hki];refine fin _ ?_;apply aj<;>simp[t1,iC,hC,iR,hR,nRC,nCR,hmp,hid,q0,hki]
  ·obtain rfl:i=L.length:=by omega
   clear hk;simp[rl];refine bz ?_;constructor<;>simp[iC,hC,iR,hR,nRC,nCR,hmp,hid,q0,hki]
 ·apply aj<;>simp[rl,k0,iC,hC,iR,hR,nRC,nCR,hmp,hid,q0,hki]
theorem pQ (lk:Lk) (g:Nat): ∀k:List It,(cO lk g k).length<=k.length
 |[]=>gp _
 |y::k=>by
  have:=pQ lk g k
  unfold cO at this ⊢;rw[List.flatMap_cons,gJ,jG];split
  ·rw[EO];omega
  ·rw[vz];omega
theorem Bf (lk:Lk) (g:Nat) (A:List It) (y:It):cO lk g (A++[y])=cO lk g A++(if y.nm=du/\(ah (lk 2 y.kd).1 fX 0%g≠0\/ah (lk 2 y.kd).1 fY 0%g≠0) then [y.ft 8] else []):=by
 unfold cO;rw[List.flatMap_append];congr 1
 simp
theorem ww (lk:Lk) (x:It) (k:List It) (hl:k.length<=10000) (hg:ah k fC 60≠0) (hlk: ∀y∈k,jR lk 2 y.kd/\(lk 2 y.kd).1.length<=100000):Sp Tryz.prog gl 56 [i6 1,.agg x.row,.sl (ae k)] (.sl ((bu lk 1 x k).map Ft.row)):=by
 rw[au];refine Pp rfl rfl ?_;have hlim:iQ=140737488355328:=rfl;have H1:=kQ k gv (by omega);have H2:=kQ k du (by omega);have G1:=dA k fC 60 (by omega);have G2:=dA k iv 0 (by omega);have rl:=a8 k;have rat:=cp k;obtain ⟨A,hA⟩: ∃A:List Ft,A=if cR k gv=false\/cR k du=false then [x.ft 6] else []:=⟨_,rfl⟩
 obtain ⟨Z,hZ⟩: ∃Z:List Ft,Z=if ah k iv 0%ah k fC 60≠0 then [x.ft 8] else []:=⟨_,rfl⟩
 have e:bu lk 1 x k=A++(cO lk (ah k fC 60) k++Z):=by
  unfold bu;rw[if_pos rfl,<-hA,<-hZ]
 rw[e];clear e;have ef: ∀c,(x.ft c).row=[i6 c,i6 x.pl.1,i6 x.pl.2]:=fun c=>rfl
 have e6:[x.ft 6].map Ft.row=[[i6 6,i6 x.pl.1,i6 x.pl.2]]:=rfl;have e8: ∀l:List Ft,(l++[x.ft 8]).map Ft.row=l.map Ft.row++[[i6 8,i6 x.pl.1,i6 x.pl.2]]:=fun l=>by rw[List.map_append];rfl
 have RL:=fun i=>pQ lk (ah k fC 60) (k.take i)
 have RS:=Bf lk (ah k fC 60);generalize hgr:ah k fC 60=gr,ah k iv 0=ro,ae x.kd=KR,x.ws.map Tk.row=XW,x.nm=xn,x.bk=xb,x.pl.1=p1,x.pl.2=p2,ae k=KK at*;have gr1: ¬(gr:Int)=0:=by omega
 have grn: ¬gr=0:=hg;obtain ⟨AR,hAR⟩: ∃AR,AR=A.map Ft.row:=⟨_,rfl⟩;have hA1:AR.length<=1:=by
  rw[hAR,hA];split<;>simp
 have hA3: ∀r∈AR,r.length=3:=by rw[hAR];exact eW A
 have fin0:(A++(cO lk gr k++Z)).map Ft.row=(AR++(cO lk gr k).map Ft.row)++Z.map Ft.row:=by rw[List.map_append,List.map_append,hAR,BU]
 rw[fin0];clear fin0;have hcase:(cR k gv=false/\AR=[[i6 6,i6 p1,i6 p2]])\/(cR k gv=true/\cR k du=false/\AR=[[i6 6,i6 p1,i6 p2]])\/(cR k gv=true/\cR k du=true/\AR=[]):=by
  cases h1:cR k gv with
  |false=>left;exact ⟨rfl,by rw[hAR,hA,if_pos (.inl h1)];exact e6⟩
  |true=>
   cases h2:cR k du with
   |false=>right;left;exact ⟨rfl,rfl,by rw[hAR,hA,if_pos (.inr h2)];exact e6⟩
   |true=>right;right;exact ⟨rfl,rfl,by rw[hAR,hA,if_neg (by simp[h1,h2])];rfl⟩
 have hZ':Z.map Ft.row=if ro%gr≠0 then [[i6 8,i6 p1,i6 p2]] else []:=by
  rw[hZ];split
  ·exact e8 []
  ·rfl
 rw[hZ'];clear hA hAR hZ hZ' e6 ef;generalize cR k gv=b1,cR k du=b2 at*;simp only[gv,du,fC,iv] at H1 H2 G1 G2;have l24:(24:Nat)<=iQ:=by decide
 rcases hcase with ⟨rfl,hq⟩|⟨rfl,rfl,hq⟩|⟨rfl,rfl,hq⟩
 all_goals
  first
   |(simp[E2]
     apply ab H1;simp[l24];apply ab G1;simp)
   |(simp[E2]
     apply ab H1;simp;apply ab H2;simp[l24];apply ab G1;simp)
  refine aY (α:=Nat) (fun i=>⟨[(2,.sl KK),(4,.ptr (.n 4) 0),(7,.sl (AR++(cO lk gr (k.take i)).map Ft.row)),(8,u gr),(9,i6 i)],[(.n 4,[.str xn,.sl XW,.bool xb,.sl KR,i6 p1,i6 p2])],[(.s 7,3)]⟩) (fun i=>i<=k.length) (fun i=>k.length - i) ?_ 0 (gN _) ?_
  ·rintro K i hK h1;by_cases g:i<k.length
   ·have t1:IntKind.i64.wrap ((i:Int)+1)=(i+1:Nat):=by rw[ay]<;>omega
    have g':(i:Int)<k.length:=by omega
    have gR:i<KK.length:=by omega
    have rai:=rat i g gR;obtain ⟨LS,ll⟩:=hlk _ (o9 g);have rs:cO lk gr (k.take (i+1))=cO lk gr (k.take i)++(if k[i].nm=du/\(ah (lk 2 k[i].kd).1 fX 0%gr≠0\/ah (lk 2 k[i].kd).1 fY 0%gr≠0) then [k[i].ft 8] else []):=by
      rw[Am g,RS]
    have rli:=RL i;have kti:(k.take i).length<=k.length:=by rw[An];omega
    have fin:=fun σ' hσ=>hK (i+1) σ' (by omega) (by omega) hσ
    rw[rs,List.map_append] at fin;have h3:=eW (cO lk gr (k.take i));have hL:((cO lk gr (k.take i)).map Ft.row).length=(cO lk gr (k.take i)).length:=kp _;generalize (cO lk gr (k.take i)).map Ft.row=QR at*;clear hK rat rs RL RS hlk;generalize k[i]=y at*;have L1:=dA (lk 2 y.kd).1 fX 0 ll;have L2:=dA (lk 2 y.kd).1 fY 0 ll;unfold jR at LS;have fy:[y.ft 8].map Ft.row=[[i6 8,i6 y.pl.1,i6 y.pl.2]]:=rfl;rw[au] at rai;generalize ae (lk 2 y.kd).1=LR,ah (lk 2 y.kd).1 fX 0=lo,ah (lk 2 y.kd).1 fY 0=sh,(lk 2 y.kd).2.map Ft.row=FR,y.ws.map Tk.row=YW,ae y.kd=YK,y.nm=yn,y.bk=yb,y.pl.1=r1,y.pl.2=r2 at*;simp only[fX,fY] at L1 L2;have hap:(AR.length+QR.length+1)*24<=iQ:=by omega
    have hr3: ∀r,r∈AR\/r∈QR->r.length=3:=fun r hr=>by
      rcases hr with hr|hr
      ·exact hA3 r hr
      ·exact h3 r hr
    by_cases e:yn=du
    · have e':(yn==[114,117,108,101])=true:=by rw[e];rfl
      by_cases c1:lo%gr=0
      ·have c1':((lo:Int)%(gr:Int)!=0)=false:=by rw[<-Int.natCast_emod];simp[c1]
       by_cases c2:sh%gr=0
       ·have c2':((sh:Int)%(gr:Int)!=0)=false:=by rw[<-Int.natCast_emod];simp[c2]
        rw[if_neg (by simp[c1,c2])] at fin;simp[g,g',gR,rai,rl,e',gr1];apply ab LS;simp;apply ab L1;simp[gr1,grn,iI,c1'];apply ab L2;simp[gr1,grn,iI,c2'];refine fin _ ?_;apply aj<;>simp[t1]
       ·have c2':((sh:Int)%(gr:Int)!=0)=true:=by rw[<-Int.natCast_emod,bne_iff_ne];omega
        rw[if_pos ⟨e,.inr c2⟩,fy] at fin;simp[g,g',gR,rai,rl,e',gr1];apply ab LS;simp;apply ab L1;simp[gr1,grn,iI,c1'];apply ab L2;simp[g,g',gR,rai,rl,gr1,grn,iI,c2',hap];refine ⟨hr3,fin _ ?_⟩;apply aj<;>simp[t1]
      ·have c1':((lo:Int)%(gr:Int)!=0)=true:=by rw[<-Int.natCast_emod,bne_iff_ne];omega
       rw[if_pos ⟨e,.inl c1⟩,fy] at fin;simp[g,g',gR,rai,rl,e',gr1];apply ab LS;simp;apply ab L1;simp[g,g',gR,rai,rl,gr1,grn,iI,c1',hap];refine ⟨hr3,fin _ ?_⟩;apply aj<;>simp[t1]
    · have e':(yn==[114,117,108,101])=false:=bJ.2 e;rw[if_neg (fun q=>e q.1)] at fin;simp[g,g',gR,rai,rl,e'];refine fin _ ?_;apply aj<;>simp[t1]
   ·obtain rfl:i=k.length:=by omega
    have h3:=eW (cO lk gr k);have rli:=RL k.length;rw[pr] at rli;have hL:((cO lk gr k).map Ft.row).length=(cO lk gr k).length:=kp _;rw[pr];generalize (cO lk gr k).map Ft.row=QR at*;clear hK rat RL RS hlk;have hap:(AR.length+QR.length+1)*24<=iQ:=by omega
    have hr3: ∀r,r∈AR\/r∈QR->r.length=3:=fun r hr=>by
      rcases hr with hr|hr
      ·exact hA3 r hr
      ·exact h3 r hr
    by_cases c1:ro%gr=0
    · have c1':((ro:Int)%(gr:Int)!=0)=false:=by rw[<-Int.natCast_emod];simp[c1]
      simp[rl];apply ab G2;simp[gr1,grn,iI,c1,c1']
    · have c1':((ro:Int)%(gr:Int)!=0)=true:=by rw[<-Int.natCast_emod,bne_iff_ne];omega
      simp[rl];apply ab G2;simp[gr1,grn,iI,c1,c1',hap];exact hr3
  ·apply aj<;>simp[hq,cO]
theorem Gv (lk:Lk) (w:Nat) (s:List It×List Ft) (x:It): ∀y∈(aG lk w s x).1,y∈s.1\/y=x:=by
 intro y hy;unfold aG at hy;split at hy
 ·exact .inl hy
 ·split at hy
  ·rcases lN.1 hy with h|h
   ·exact .inl h
   ·exact .inr (by simpa using h)
  ·rcases lN.1 hy with h|h
   ·exact .inl h
   ·exact .inr (by simpa using h)
theorem zb (lk:Lk) (w:Nat): ∀(L:List It) (s:List It×List Ft),∀y∈(L.foldl (aG lk w) s).1,y∈s.1\/y∈L
 |[],s,y,h=> .inl h
 |x::L,s,y,h=>by
  rcases zb lk w L (aG lk w s x) y h with h|h
  ·rcases Gv lk w s x y h with h|h
   ·exact .inl h
   ·exact .inr (by simp[h])
  ·exact .inr (by simp[h])
theorem oC (f w:Nat) (L:List It): ∀y∈(ag f w L).1,y∈L:=by
 cases f with
 |zero=>intro y h;cases h
 |succ f=>
  intro y h;rcases zb (ag f) w L ([],[]) y h with h|h
  ·cases h
  ·exact h
theorem Gw (lk:Lk) (w:Nat) (s:List It×List Ft) (x:It):(aG lk w s x).1.length<=s.1.length+1:=by
 unfold aG;split
 ·exact Nat.le_succ _
 ·split<;>simp
theorem sx (lk:Lk) (w:Nat): ∀(L:List It) (s:List It×List Ft),(L.foldl (aG lk w) s).1.length<=s.1.length+L.length
 |[],s=>gp _
 |x::L,s=>by
  have:=sx lk w L (aG lk w s x)
  have:=Gw lk w s x
  rw[List.foldl_cons,jG];omega
theorem eX (f w:Nat) (L:List It):(ag f w L).1.length<=L.length:=by
 cases f with
 |zero=>exact gN _
 |succ f=>
  have:=sx (ag f) w L ([],[])
  rw[vz,mm] at this;exact this
theorem D0 (lk:Lk) (i:Nat) (x:It) (k:List It):(bu lk i x k).length<=2+k.length:=by
 have:=pQ lk (ah k fC 60) k
 unfold bu;split
 ·rw[gJ,gJ];split<;>split<;>simp only[vz,EO]<;>omega
 split
 ·split
  ·simp only[EO];omega
  ·split<;>simp only[vz,EO]<;>omega
 split
 ·split<;>simp only[vz,EO]<;>omega
 ·simp
theorem sy (x:It):iU x=1+bg x.kd:=by obtain ⟨n,ws,b,ks,l,c⟩:=x;rw[iU];rfl
theorem pR (x:It):mR x=1+dz x.kd:=by obtain ⟨n,ws,b,ks,l,c⟩:=x;rw[mR];rfl
theorem kJ: ∀ {L:List It} {x:It},x∈L->mR x<=dz L
 |y::L,x,h=>by
  rw[dz];rcases o8.1 h with rfl|h
  ·omega
  ·have:=kJ h;omega
theorem kK: ∀(f w:Nat) (L:List It),(ag f w L).2.length<=2*f*bg L
 |0,w,L=>gN _
 |f+1,w,L=>by
  have one: ∀(s:List It×List Ft) (x:It),(aG (ag f) w s x).2.length<=s.2.length+2*(f+1)*iU x:=fun s x=>by
   have hk:=sy x;have h1:=kK f (bQ x.nm) x.kd;have h2:=D0 (ag f) (bQ x.nm) x (ag f (bQ x.nm) x.kd).1;have h3:=eX f (bQ x.nm) x.kd;have h4:=fm x.kd;have e:2*(f+1)*iU x=2*f*bg x.kd+2*bg x.kd+2*f+2:=by rw[hk];simp only[Nat.mul_add,Nat.add_mul,Nat.mul_one];omega
   unfold aG;split
   ·rw[gJ,EO,e];omega
   ·split
    ·dsimp only;omega
    ·rw[gJ,gJ,e];omega
  have all: ∀(L:List It) (s:List It×List Ft),(L.foldl (aG (ag f) w) s).2.length<=s.2.length+2*(f+1)*bg L:=fun L=>by
   induction L with
   |nil=>intro s;exact Nat.le_add_right _ _
   |cons x L ih=>
    intro s;have a:=ih (aG (ag f) w s x);have b:=one s x;rw[List.foldl_cons,bg,Nat.mul_add];omega
  have:=all L ([],[])
  rw[vz,mm] at this;exact this
theorem zc (f:Nat) (L:List It):ah (ag f 1 L).1 fC 60≠0:=by
 cases f with
 |zero=>exact (show (60:Nat)≠0 by decide)
 |succ f=>
  have:=Io (w:=1) (n:=fC) (p:=⟨fC,[6],false,1,1,86400⟩) rfl rfl (ag f) L 60 (by decide)
  show ah (L.foldl (aG (ag f) 1) ([],[])).1 fC 60≠0;have h:1<=ah (L.foldl (aG (ag f) 1) ([],[])).1 fC 60:=this;omega
theorem zd (f i:Nat) (x:It) (L:List It) (h:i=1\/i=2\/i=3) (hl:L.length<=10000) (hlk: ∀y∈L,jR (ag f) 2 y.kd/\(ag f 2 y.kd).1.length<=100000):Sp Tryz.prog gl 56 [i6 i,.agg x.row,.sl (ae (ag f i L).1)] (.sl ((bu (ag f) i x (ag f i L).1).map Ft.row)):=by
 have hk:=eX f i L;rcases h with rfl|rfl|rfl
 ·exact ww (ag f) x _ (by omega) (zc f L) fun y hy=>hlk y (oC f 1 L y hy)
 ·exact we (ag f) x _ (by omega)
 ·exact wj (ag f) x _ (by omega)
theorem lh: ∀(f w:Nat) (L:List It),w<=3->f<=50->dz L<=f->bg L<=1000->jR (ag f) w L:=by
 intro f;induction f with
 |zero=>
  intro w L hw hf hd hc;cases L with
  |cons x r=>
   rw[dz] at hd
   have:=pR x
   omega
  |nil=>
   unfold jR;refine Si rfl rfl ?_;simp[Pd,ae,ag];refine aY (α:=Unit) (fun _=>⟨[(1,.sl []),(6,.sl []),(7,.sl []),(8,i6 0)],[],[(.s 6,6),(.s 7,3)]⟩) (fun _=>True) (fun _=>0) ?_ () trivial ?_
   ·rintro K x hK _;clear hK;simp
   ·apply aj<;>simp
 |succ f ih=>
  intro w L hw hf hd hc;unfold jR;refine Si rfl rfl ?_;have hlim:iQ=140737488355328:=rfl;have rl:=a8 L;have rat:=cp L;have ll:=fm L;have FLn:=kK (f+1) w;obtain ⟨S,hS⟩: ∃S:Nat->List It×List Ft,∀i,S i=(L.take i).foldl (aG (ag f) w) ([],[]):=⟨_,fun _=>rfl⟩;have S0:S 0=([],[]):=by rw[hS,M5];rfl
  have SE:ag (f+1) w L=S L.length:=by rw[hS,pr];rfl
  have SI: ∀i,kR w (S i).1:=fun i=>by rw[hS];exact mj (ag f) w _ ([],[]) (fun y hy=>by cases hy)
  have SN: ∀i (g:i<L.length),S (i+1)=aG (ag f) w (S i) L[i]:=fun i g=>by rw[hS,hS,Am g,List.foldl_append];rfl
  have Sl: ∀i,(S i).1.length<=L.length:=fun i=>by
   have:=sx (ag f) w (L.take i) ([],[])
   rw[hS];rw[An,vz] at this;omega
  have Sf: ∀i,(S i).2.length<=102000:=fun i=>by
   have h1:=FLn (L.take i);have h2:=pN L i;have e:ag (f+1) w (L.take i)=S i:=by rw[hS];rfl
   rw[e] at h1;have h3:2*(f+1)*bg (L.take i)<=2*51*1000:=Nat.mul_le_mul (by omega) (by omega);omega
  rw[SE];clear FLn hS SE;generalize ae L=RR at*;simp[Pd];refine aY (α:=Nat) (fun i=>⟨[(0,i6 w),(1,.sl RR),(6,.sl (ae (S i).1)),(7,.sl ((S i).2.map Ft.row)),(8,i6 i)],[],[(.s 6,6),(.s 7,3)]⟩) (fun i=>i<=L.length) (fun i=>L.length - i) ?_ 0 (gN _) ?_
  ·rintro K i hK h1;by_cases g:i<L.length
   ·have t1:IntKind.i64.wrap ((i:Int)+1)=(i+1:Nat):=by rw[ay]<;>omega
    have g':(i:Int)<L.length:=by omega
    have gR:i<RR.length:=by omega
    have rai:=rat i g gR;have xm:=o9 g;have sn:=SN i g;have si:=SI i;have sl:=Sl i;have sl2:=Sl (i+1);have sf:=Sf i;have sf2:=Sf (i+1);have fin:=fun σ' hσ=>hK (i+1) σ' (by omega) (by omega) hσ
    rw[sn] at fin sl2 sf2;clear hK rat SN SI Sl Sf sn S0;generalize S i=s at*;obtain ⟨C,F⟩:=s;generalize L[i]=x at*;simp only at si sl sf;have RC:=BP w hw C x si (by omega);have dm:=kJ xm;have cm:=jO xm;have kd:=pR x;have kc:=sy x;have kl:=fm x.kd;have c6:=nr C;have c3:=eW F;have cl:=a8 C;have fl:(F.map Ft.row).length=F.length:=kp _;unfold aG at fin sl2 sf2;dsimp only at fin sl2 sf2;rw[au] at rai RC;by_cases hc0:aV w C x≠0
    ·have hc1:(aV w C x !=0)=true:=by simpa using hc0
     rw[if_pos hc0] at fin;have fr:(F++[x.ft (aV w C x)]).map Ft.row=F.map Ft.row++[[i6 (aV w C x),i6 x.pl.1,i6 x.pl.2]]:=by rw[List.map_append];rfl
     dsimp only at fin;rw[fr] at fin;have hap:(F.length+1)*24<=iQ:=by omega
     clear sl2 sf2 fr ih;generalize aV w C x=cd,ae C=CR,F.map Ft.row=FR,x.ws.map Tk.row=XW,ae x.kd=XK,x.nm=xn,x.bk=xb,x.pl.1=r1,x.pl.2=r2 at*;simp[g,g',gR,rai,rl];apply ab RC;simp[hc0,hc1,g,g',gR,rai,rl,fl,hap];refine ⟨c3,fin _ ?_⟩;apply aj<;>simp[t1]
    ·rw[if_neg hc0] at fin sl2 sf2;have hc0':aV w C x=0:=Decidable.byContradiction hc0;rw[hc0'] at RC;have ap6:ae (C++[x])=ae C++[[.str x.nm,.sl (x.ws.map Tk.row),.bool x.bk,.sl (ae x.kd),i6 x.pl.1,i6 x.pl.2]]:=by rw[nq,ae,ae,au]
     have hap:(C.length+1)*88<=iQ:=by omega
     have INN: ∀j,bQ x.nm=j->(j=1\/j=2\/j=3)->jR (ag f) j x.kd/\Sp Tryz.prog gl 56 [i6 j,.agg x.row,.sl (ae (ag f j x.kd).1)] (.sl ((bu (ag f) j x (ag f j x.kd).1).map Ft.row)):=fun j _ hj=>by
      refine ⟨ih j x.kd (by omega) (by omega) (by omega) (by omega),zd f j x x.kd hj (by omega) fun y hy=>?_⟩;have dy:=kJ hy;have cy:=jO hy;have ky:=pR y;have kcy:=sy y;have kly:=fm y.kd;have lly:=eX f 2 y.kd;exact ⟨ih 2 y.kd (by omega) (by omega) (by omega) (by omega),by omega⟩
     clear ih;have tail: ∀j,bQ x.nm=j->(j=1\/j=2\/j=3)->True:=fun _ _ _=>trivial
     by_cases i0:bQ x.nm=0
     ·rw[if_pos i0] at fin;dsimp only at fin;rw[ap6] at fin;have n1:x.nm≠ly:=fun e=>by rw[e] at i0;revert i0;decide
      have n2:x.nm≠du:=fun e=>by rw[e] at i0;revert i0;decide
      have n3:x.nm≠vb:=fun e=>by rw[e] at i0;revert i0;decide
      have n1':(x.nm==[111,98,106,101,99,116,105,118,101])=false:=bJ.2 n1;have n2':(x.nm==[114,117,108,101])=false:=bJ.2 n2;have n3':(x.nm==[110,111,116,105,102,121])=false:=bJ.2 n3;clear sl2 sf2 ap6 INN;generalize ae C=CR,F.map Ft.row=FR,x.ws.map Tk.row=XW,ae x.kd=XK,x.nm=xn,x.bk=xb,x.pl.1=r1,x.pl.2=r2 at*;simp[g,g',gR,rai,rl];apply ab RC;simp[g,g',gR,rai,rl,cl,hap];refine ⟨c6,?_⟩;simp[g,g',gR,rai,rl,n1',n2',n3'];refine fin _ ?_;apply aj<;>simp[t1]
     ·rw[if_neg i0] at fin sf2;dsimp only at fin;rw[ap6] at fin;have hn:(x.nm=ly/\bQ x.nm=1)\/(x.nm=du/\bQ x.nm=2)\/(x.nm=vb/\bQ x.nm=3):=by
       by_cases a:x.nm=ly
       ·exact .inl ⟨a,by rw[a];decide⟩
       by_cases b:x.nm=du
       ·exact .inr (.inl ⟨b,by rw[b];decide⟩)
       by_cases c:x.nm=vb
       ·exact .inr (.inr ⟨c,by rw[c];decide⟩)
       ·exact absurd (by unfold bQ;rw[if_neg a,if_neg b,if_neg c]) i0
      clear ap6 sl2 tail;rcases hn with ⟨e,ej⟩|⟨e,ej⟩|⟨e,ej⟩
      ·rw[ej] at fin sf2;obtain ⟨LS,WS⟩:=INN 1 ej (by omega);clear INN ej i0;unfold jR at LS;rw[au] at WS;have q1:(x.nm==[111,98,106,101,99,116,105,118,101])=true:=by rw[e];decide
       have q2:(x.nm==[114,117,108,101])=false:=by rw[e];decide
       have q3:(x.nm==[110,111,116,105,102,121])=false:=by rw[e];decide
       have a3:=eW (ag f 1 x.kd).2;have b3:=eW (bu (ag f) 1 x (ag f 1 x.kd).1);have al:((ag f 1 x.kd).2.map Ft.row).length=(ag f 1 x.kd).2.length:=kp _;have bl:((bu (ag f) 1 x (ag f 1 x.kd).1).map Ft.row).length=(bu (ag f) 1 x (ag f 1 x.kd).1).length:=kp _;rw[List.map_append,List.map_append] at fin;rw[gJ,gJ] at sf2;generalize (ag f 1 x.kd).2.map Ft.row=AR,(bu (ag f) 1 x (ag f 1 x.kd).1).map Ft.row=BR at*;have hap2:(F.length+AR.length)*24<=iQ:=by omega
       have hap3:(F.length+AR.length+BR.length)*24<=iQ:=by omega
       have h3: ∀r,r∈F.map Ft.row\/r∈AR->r.length=3:=fun r hr=>hr.elim (c3 r) (a3 r)
       clear sf2;generalize ae C=CR,F.map Ft.row=FR,x.ws.map Tk.row=XW,ae x.kd=XK,ae (ag f 1 x.kd).1=LR at*;clear e;generalize x.nm=xn,x.bk=xb,x.pl.1=r1,x.pl.2=r2 at*;simp[g,g',gR,rai,rl];apply ab RC;simp[g,g',gR,rai,rl,cl,hap];refine ⟨c6,?_⟩;simp[g,g',gR,rai,rl,q1,q2,q3];apply ab LS;simp[g,g',gR,rai,rl,fl,hap2];refine ⟨c3,a3,?_⟩;apply ab WS;simp[g,g',gR,rai,rl,fl,hap3];refine ⟨h3,b3,fin _ ?_⟩;apply aj<;>simp[t1]
      ·rw[ej] at fin sf2;obtain ⟨LS,WS⟩:=INN 2 ej (by omega);clear INN ej i0;unfold jR at LS;rw[au] at WS;have q1:(x.nm==[111,98,106,101,99,116,105,118,101])=false:=by rw[e];decide
       have q2:(x.nm==[114,117,108,101])=true:=by rw[e];decide
       have q3:(x.nm==[110,111,116,105,102,121])=false:=by rw[e];decide
       have a3:=eW (ag f 2 x.kd).2;have b3:=eW (bu (ag f) 2 x (ag f 2 x.kd).1);have al:((ag f 2 x.kd).2.map Ft.row).length=(ag f 2 x.kd).2.length:=kp _;have bl:((bu (ag f) 2 x (ag f 2 x.kd).1).map Ft.row).length=(bu (ag f) 2 x (ag f 2 x.kd).1).length:=kp _;rw[List.map_append,List.map_append] at fin;rw[gJ,gJ] at sf2;generalize (ag f 2 x.kd).2.map Ft.row=AR,(bu (ag f) 2 x (ag f 2 x.kd).1).map Ft.row=BR at*;have hap2:(F.length+AR.length)*24<=iQ:=by omega
       have hap3:(F.length+AR.length+BR.length)*24<=iQ:=by omega
       have h3: ∀r,r∈F.map Ft.row\/r∈AR->r.length=3:=fun r hr=>hr.elim (c3 r) (a3 r)
       clear sf2;generalize ae C=CR,F.map Ft.row=FR,x.ws.map Tk.row=XW,ae x.kd=XK,ae (ag f 2 x.kd).1=LR at*;clear e;generalize x.nm=xn,x.bk=xb,x.pl.1=r1,x.pl.2=r2 at*;simp[g,g',gR,rai,rl];apply ab RC;simp[g,g',gR,rai,rl,cl,hap];refine ⟨c6,?_⟩;simp[g,g',gR,rai,rl,q1,q2,q3];apply ab LS;simp[g,g',gR,rai,rl,fl,hap2];refine ⟨c3,a3,?_⟩;apply ab WS;simp[g,g',gR,rai,rl,fl,hap3];refine ⟨h3,b3,fin _ ?_⟩;apply aj<;>simp[t1]
      ·rw[ej] at fin sf2;obtain ⟨LS,WS⟩:=INN 3 ej (by omega);clear INN ej i0;unfold jR at LS;rw[au] at WS;have q1:(x.nm==[111,98,106,101,99,116,105,118,101])=false:=by rw[e];decide
       have q2:(x.nm==[114,117,108,101])=false:=by rw[e];decide
       have q3:(x.nm==[110,111,116,105,102,121])=true:=by rw[e];decide
       have a3:=eW (ag f 3 x.kd).2;have b3:=eW (bu (ag f) 3 x (ag f 3 x.kd).1);have al:((ag f 3 x.kd).2.map Ft.row).length=(ag f 3 x.kd).2.length:=kp _;have bl:((bu (ag f) 3 x (ag f 3 x.kd).1).map Ft.row).length=(bu (ag f) 3 x (ag f 3 x.kd).1).length:=kp _;rw[List.map_append,List.map_append] at fin;rw[gJ,gJ] at sf2;generalize (ag f 3 x.kd).2.map Ft.row=AR,(bu (ag f) 3 x (ag f 3 x.kd).1).map Ft.row=BR at*;have hap2:(F.length+AR.length)*24<=iQ:=by omega
       have hap3:(F.length+AR.length+BR.length)*24<=iQ:=by omega
       have h3: ∀r,r∈F.map Ft.row\/r∈AR->r.length=3:=fun r hr=>hr.elim (c3 r) (a3 r)
       clear sf2;generalize ae C=CR,F.map Ft.row=FR,x.ws.map Tk.row=XW,ae x.kd=XK,ae (ag f 3 x.kd).1=LR at*;clear e;generalize x.nm=xn,x.bk=xb,x.pl.1=r1,x.pl.2=r2 at*;simp[g,g',gR,rai,rl];apply ab RC;simp[g,g',gR,rai,rl,cl,hap];refine ⟨c6,?_⟩;simp[g,g',gR,rai,rl,q1,q2,q3];apply ab LS;simp[g,g',gR,rai,rl,fl,hap2];refine ⟨c3,a3,?_⟩;apply ab WS;simp[g,g',gR,rai,rl,fl,hap3];refine ⟨h3,b3,fin _ ?_⟩;apply aj<;>simp[t1]
   ·obtain rfl:i=L.length:=by omega
    clear hK rat;simp[rl]
  ·apply aj<;>simp[S0,ae]
end Go.Ai
