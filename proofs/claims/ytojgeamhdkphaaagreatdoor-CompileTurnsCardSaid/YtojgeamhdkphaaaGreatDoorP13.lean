/- P13: a part of the proof. Conditions: as each theorem says. -/
import Derived.Test.YtojgeamhdkphaaaGreatDoorP12
set_option maxHeartbeats 4000000
set_option linter.unusedSimpArgs false
set_option linter.unusedVariables false
set_option maxRecDepth 20000
namespace Go.Ai
open Go.Proofs
def qM (n:List UInt8) (pg:Bool) (C:List It):List AV:=[.str n,.bool pg,i6 (ai C j8 0),i6 (ai C j9 0),u (ai C ij 0),i6 (ai C nf 0),i6 (ai C ng 0)]
theorem km {q:Int} {K:List (List UInt8)} {x:It} {lo hi:Nat} (h:mQ q K x lo hi=0) (b:Nat) (hb:hi<b):n1 x<b:=by
 unfold mQ at h;split at h
 ·cases h
 ·unfold iI at h;split at h
  ·cases h
  ·split at h
   ·cases h
   ·omega
theorem Hu (C M R:Id) (x:It) (Cs:List It) (n:List UInt8) (pg:Bool) (f:List Ft) (d:Nat) (hx: ∀t∈x.ws,1<=t.k/\t.k<=6) (hm:M.isIt=true) (hmd:M.isNw d=false) (hr:R.isIt=false) (hrd:R.isNw d=false) (hc0:C.isIt=false) (hcd:C.isNw d=false) (nCR:C≠R) (h0:aX 2 Cs x=0):
  ba Tryz.prog gl 76 d ⟨[bS C M,.agg x.row,.ptr R 0],[(C,bN f),(M,a8 (am Cs)),(R,qM n pg Cs)],[(.b C 0,3)]⟩ ⟨.tup [],[(C,bN f),(M,a8 (am (Cs++[x]))),(R,qM n pg (Cs++[x]))],[(.b C 0,3)]⟩:=by
 refine Vc rfl ?_;have hmi:=ae hmd;have hri:=ae hrd;have hci:=ae hcd;have ne1:M≠R:=fun e=>by rw[e,hr] at hm;cases hm
 have ne2:R≠M:=fun e=>ne1 e.symm
 have ne3:M≠C:=fun e=>by rw[e,hc0] at hm;cases hm
 have ne4:C≠M:=fun e=>ne3 e.symm
 have ne5:=nCR.symm;unfold bN;generalize List.map Ft.row f=FL at*;by_cases e0:x.nm=j8
 ·have hf:bV 2 x.nm=some ⟨j8,[6],false,1,1,34560000⟩:=by rw[e0];rfl
  have hc:=bT (C:=Cs) hf rfl rfl rfl (by decide) (by decide) (by decide);have gs:=cC hf rfl h0 0;have g2:=fun m (h:x.nm≠m)=>db (C:=Cs) h 0
  rw[hc] at h0;have S:=fun h=>gO C.up M.up x (am Cs) 1 34560000 12 hm h h0 (km h0 _ (by decide))
  rw[fE (by rw[e0];decide),e0] at gs;rw[cS (by rw[e0];rfl)];unfold qM;rw[gs,g2 j9 (by rw[e0];decide),g2 ij (by rw[e0];decide),g2 nf (by rw[e0];decide),g2 ng (by rw[e0];decide)];unfold a8 bS at*;rw[aw] at*;rw[e0] at*;generalize aI kS (aA (am Cs++[j8]))=G2 at*;generalize aI kS (aA (am Cs))=G,n1 x=v,ai Cs j8 0=vsLo,ai Cs j9 0=vsSh,ai Cs ij 0=vsFa,ai Cs nf 0=vsFo,ai Cs ng 0=vsKe,ab x.kd=KR,List.map Tk.row x.ws=WR at*;simp only[ar,aW,aP,AV.mp,aY,Pl.mp] at*;clear h0 hc hx hf gs g2;unfold j8 at*;simp[Cm];refine aZ _ _ (S rfl) (by constructor<;>simp[hm,hc0,nCR,ne1,ne2,ne3,ne4,ne5]) ?_
  simp[hm,hr,hc0,nCR,ne1,ne2,ne3,ne4,ne5];refine bh ?_;constructor<;>simp[hmi,hri,hci,hm,hr,hc0,nCR,ne1,ne2,ne3,ne4,ne5]
 by_cases e1:x.nm=j9
 ·have hf:bV 2 x.nm=some ⟨j9,[6],false,1,1,34560000⟩:=by rw[e1];rfl
  have hc:=bT (C:=Cs) hf rfl rfl rfl (by decide) (by decide) (by decide);have gs:=cC hf rfl h0 0;have g2:=fun m (h:x.nm≠m)=>db (C:=Cs) h 0
  rw[hc] at h0;have S:=fun h=>gO C.up M.up x (am Cs) 1 34560000 18 hm h h0 (km h0 _ (by decide))
  rw[fE (by rw[e1];decide),e1] at gs;rw[cS (by rw[e1];rfl)];unfold qM;rw[gs,g2 j8 (by rw[e1];decide),g2 ij (by rw[e1];decide),g2 nf (by rw[e1];decide),g2 ng (by rw[e1];decide)];unfold a8 bS at*;rw[aw] at*;rw[e1] at*;generalize aI kS (aA (am Cs++[j9]))=G2 at*;generalize aI kS (aA (am Cs))=G,n1 x=v,ai Cs j8 0=vsLo,ai Cs j9 0=vsSh,ai Cs ij 0=vsFa,ai Cs nf 0=vsFo,ai Cs ng 0=vsKe,ab x.kd=KR,List.map Tk.row x.ws=WR at*;simp only[ar,aW,aP,AV.mp,aY,Pl.mp] at*;clear h0 hc hx hf gs g2;unfold j9 at*;simp[Cm];refine aZ _ _ (S rfl) (by constructor<;>simp[hm,hc0,nCR,ne1,ne2,ne3,ne4,ne5]) ?_
  simp[hm,hr,hc0,nCR,ne1,ne2,ne3,ne4,ne5];refine bh ?_;constructor<;>simp[hmi,hri,hci,hm,hr,hc0,nCR,ne1,ne2,ne3,ne4,ne5]
 by_cases e2:x.nm=ij
 ·have hf:bV 2 x.nm=some ⟨ij,[4],false,1,1,1000000⟩:=by rw[e2];rfl
  have hc:=Df (C:=Cs) hf rfl rfl rfl rfl rfl rfl;have gs:=cC hf rfl h0 0;have g2:=fun m (h:x.nm≠m)=>db (C:=Cs) h 0
  rw[hc] at h0;have S:=fun h=>Ev C.up M.up x (am Cs) 24 hm h h0
  rw[<-MG e2 h0,e2] at gs;rw[cS (by rw[e2];rfl)];unfold qM;rw[gs,g2 j8 (by rw[e2];decide),g2 j9 (by rw[e2];decide),g2 nf (by rw[e2];decide),g2 ng (by rw[e2];decide)];unfold a8 bS at*;rw[aw] at*;rw[e2] at*;generalize aI kS (aA (am Cs++[ij]))=G2 at*;generalize aI kS (aA (am Cs))=G,mG x=v,ai Cs j8 0=vsLo,ai Cs j9 0=vsSh,ai Cs ij 0=vsFa,ai Cs nf 0=vsFo,ai Cs ng 0=vsKe,ab x.kd=KR,List.map Tk.row x.ws=WR at*;simp only[ar,aW,aP,AV.mp,aY,Pl.mp] at*;clear h0 hc hx hf gs g2;unfold ij at*;simp[Cm];refine aZ _ _ (S rfl) (by constructor<;>simp[hm,hc0,nCR,ne1,ne2,ne3,ne4,ne5]) ?_
  simp[hm,hr,hc0,nCR,ne1,ne2,ne3,ne4,ne5];refine bh ?_;constructor<;>simp[hmi,hri,hci,hm,hr,hc0,nCR,ne1,ne2,ne3,ne4,ne5]
 by_cases e3:x.nm=nf
 ·have hf:bV 2 x.nm=some ⟨nf,[6],false,1,0,604800⟩:=by rw[e3];rfl
  have hc:=bT (C:=Cs) hf rfl rfl rfl (by decide) (by decide) (by decide);have gs:=cC hf rfl h0 0;have g2:=fun m (h:x.nm≠m)=>db (C:=Cs) h 0
  rw[hc] at h0;have S:=fun h=>gO C.up M.up x (am Cs) 0 604800 30 hm h h0 (km h0 _ (by decide))
  rw[fE (by rw[e3];decide),e3] at gs;rw[cS (by rw[e3];rfl)];unfold qM;rw[gs,g2 j8 (by rw[e3];decide),g2 j9 (by rw[e3];decide),g2 ij (by rw[e3];decide),g2 ng (by rw[e3];decide)];unfold a8 bS at*;rw[aw] at*;rw[e3] at*;generalize aI kS (aA (am Cs++[nf]))=G2 at*;generalize aI kS (aA (am Cs))=G,n1 x=v,ai Cs j8 0=vsLo,ai Cs j9 0=vsSh,ai Cs ij 0=vsFa,ai Cs nf 0=vsFo,ai Cs ng 0=vsKe,ab x.kd=KR,List.map Tk.row x.ws=WR at*;simp only[ar,aW,aP,AV.mp,aY,Pl.mp] at*;clear h0 hc hx hf gs g2;unfold nf at*;simp[Cm];refine aZ _ _ (S rfl) (by constructor<;>simp[hm,hc0,nCR,ne1,ne2,ne3,ne4,ne5]) ?_
  simp[hm,hr,hc0,nCR,ne1,ne2,ne3,ne4,ne5];refine bh ?_;constructor<;>simp[hmi,hri,hci,hm,hr,hc0,nCR,ne1,ne2,ne3,ne4,ne5]
 by_cases e4:x.nm=ng
 ·have hf:bV 2 x.nm=some ⟨ng,[6],false,1,0,604800⟩:=by rw[e4];rfl
  have hc:=bT (C:=Cs) hf rfl rfl rfl (by decide) (by decide) (by decide);have gs:=cC hf rfl h0 0;have g2:=fun m (h:x.nm≠m)=>db (C:=Cs) h 0
  rw[hc] at h0;have S:=fun h=>gO C.up M.up x (am Cs) 0 604800 36 hm h h0 (km h0 _ (by decide))
  rw[fE (by rw[e4];decide),e4] at gs;rw[cS (by rw[e4];rfl)];unfold qM;rw[gs,g2 j8 (by rw[e4];decide),g2 j9 (by rw[e4];decide),g2 ij (by rw[e4];decide),g2 nf (by rw[e4];decide)];unfold a8 bS at*;rw[aw] at*;rw[e4] at*;generalize aI kS (aA (am Cs++[ng]))=G2 at*;generalize aI kS (aA (am Cs))=G,n1 x=v,ai Cs j8 0=vsLo,ai Cs j9 0=vsSh,ai Cs ij 0=vsFa,ai Cs nf 0=vsFo,ai Cs ng 0=vsKe,ab x.kd=KR,List.map Tk.row x.ws=WR at*;simp only[ar,aW,aP,AV.mp,aY,Pl.mp] at*;clear h0 hc hx hf gs g2;unfold ng at*;simp[Cm];refine aZ _ _ (S rfl) (by constructor<;>simp[hm,hc0,nCR,ne1,ne2,ne3,ne4,ne5]) ?_
  simp[hm,hr,hc0,nCR,ne1,ne2,ne3,ne4,ne5];refine bh ?_;constructor<;>simp[hmi,hri,hci,hm,hr,hc0,nCR,ne1,ne2,ne3,ne4,ne5]
 ·exfalso;rw[fM (by simp[bV,gv,Ne.symm e0,Ne.symm e1,Ne.symm e2,Ne.symm e3,Ne.symm e4])] at h0;cases h0
theorem Hv (C M R:Id) (x:It) (Cs:List It) (n:List UInt8) (pg:Bool) (f:List Ft) (d:Nat) (hx: ∀t∈x.ws,1<=t.k/\t.k<=6) (hm:M.isIt=true) (hmd:M.isNw d=false) (hr:R.isIt=false) (hrd:R.isNw d=false) (hc0:C.isIt=false) (hcd:C.isNw d=false) (nCR:C≠R) (h0:aX 2 Cs x≠0):
  di Tryz.prog gl 76 d ⟨[bS C M,.agg x.row,.ptr R 0],[(C,bN f),(M,a8 (am Cs)),(R,qM n pg Cs)],[(.b C 0,3)]⟩ ⟨bE (aX 2 Cs x),[(C,bN f),(M,a8 (am Cs)),(R,qM n pg Cs)],[(.b C 0,3)]⟩:=by
 refine Vb rfl ?_;have hmi:=ae hmd;have hri:=ae hrd;have hci:=ae hcd;have ne1:M≠R:=fun e=>by rw[e,hr] at hm;cases hm
 have ne2:R≠M:=fun e=>ne1 e.symm
 have ne3:M≠C:=fun e=>by rw[e,hc0] at hm;cases hm
 have ne4:C≠M:=fun e=>ne3 e.symm
 have ne5:=nCR.symm;unfold bN;generalize List.map Ft.row f=FL at*;by_cases e0:x.nm=j8
 ·have hf:bV 2 x.nm=some ⟨j8,[6],false,1,1,34560000⟩:=by rw[e0];rfl
  have hc:=bT (C:=Cs) hf rfl rfl rfl (by decide) (by decide) (by decide);rw[hc] at h0 ⊢;have S:=fun h=>gP C.up M.up x (am Cs) 1 34560000 12 hx hm h h0
  generalize mQ 6 (am Cs) x 1 34560000=e at*;unfold qM a8 bS bE at*;rw[aw] at*;rw[e0] at*;generalize aI kS (aA (am Cs))=G,ai Cs j8 0=vsLo,ai Cs j9 0=vsSh,ai Cs ij 0=vsFa,ai Cs nf 0=vsFo,ai Cs ng 0=vsKe,ab x.kd=KR,List.map Tk.row x.ws=WR at*;simp only[ar,aW,aP,AV.mp,aY,Pl.mp] at*;clear h0 hc hx hf;unfold j8 at*;simp[Cm];refine bj _ _ (S rfl) (by constructor<;>simp[hm,hc0,nCR,ne1,ne2,ne3,ne4,ne5]) rfl ?_
  refine ⟨rfl,by simp,?_⟩;constructor<;>simp[hmi,hri,hci,hm,hr,hc0,nCR,ne1,ne2,ne3,ne4,ne5]
 by_cases e1:x.nm=j9
 ·have hf:bV 2 x.nm=some ⟨j9,[6],false,1,1,34560000⟩:=by rw[e1];rfl
  have hc:=bT (C:=Cs) hf rfl rfl rfl (by decide) (by decide) (by decide);rw[hc] at h0 ⊢;have S:=fun h=>gP C.up M.up x (am Cs) 1 34560000 18 hx hm h h0
  generalize mQ 6 (am Cs) x 1 34560000=e at*;unfold qM a8 bS bE at*;rw[aw] at*;rw[e1] at*;generalize aI kS (aA (am Cs))=G,ai Cs j8 0=vsLo,ai Cs j9 0=vsSh,ai Cs ij 0=vsFa,ai Cs nf 0=vsFo,ai Cs ng 0=vsKe,ab x.kd=KR,List.map Tk.row x.ws=WR at*;simp only[ar,aW,aP,AV.mp,aY,Pl.mp] at*;clear h0 hc hx hf;unfold j9 at*;simp[Cm];refine bj _ _ (S rfl) (by constructor<;>simp[hm,hc0,nCR,ne1,ne2,ne3,ne4,ne5]) rfl ?_
  refine ⟨rfl,by simp,?_⟩;constructor<;>simp[hmi,hri,hci,hm,hr,hc0,nCR,ne1,ne2,ne3,ne4,ne5]
 by_cases e2:x.nm=ij
 ·have hf:bV 2 x.nm=some ⟨ij,[4],false,1,1,1000000⟩:=by rw[e2];rfl
  have hc:=Df (C:=Cs) hf rfl rfl rfl rfl rfl rfl;rw[hc] at h0 ⊢;have S:=fun h=>Ew C.up M.up x (am Cs) 24 hx hm h h0
  generalize Eu (am Cs) x=e at*;unfold qM a8 bS bE at*;rw[aw] at*;rw[e2] at*;generalize aI kS (aA (am Cs))=G,ai Cs j8 0=vsLo,ai Cs j9 0=vsSh,ai Cs ij 0=vsFa,ai Cs nf 0=vsFo,ai Cs ng 0=vsKe,ab x.kd=KR,List.map Tk.row x.ws=WR at*;simp only[ar,aW,aP,AV.mp,aY,Pl.mp] at*;clear h0 hc hx hf;unfold ij at*;simp[Cm];refine bj _ _ (S rfl) (by constructor<;>simp[hm,hc0,nCR,ne1,ne2,ne3,ne4,ne5]) rfl ?_
  refine ⟨rfl,by simp,?_⟩;constructor<;>simp[hmi,hri,hci,hm,hr,hc0,nCR,ne1,ne2,ne3,ne4,ne5]
 by_cases e3:x.nm=nf
 ·have hf:bV 2 x.nm=some ⟨nf,[6],false,1,0,604800⟩:=by rw[e3];rfl
  have hc:=bT (C:=Cs) hf rfl rfl rfl (by decide) (by decide) (by decide);rw[hc] at h0 ⊢;have S:=fun h=>gP C.up M.up x (am Cs) 0 604800 30 hx hm h h0
  generalize mQ 6 (am Cs) x 0 604800=e at*;unfold qM a8 bS bE at*;rw[aw] at*;rw[e3] at*;generalize aI kS (aA (am Cs))=G,ai Cs j8 0=vsLo,ai Cs j9 0=vsSh,ai Cs ij 0=vsFa,ai Cs nf 0=vsFo,ai Cs ng 0=vsKe,ab x.kd=KR,List.map Tk.row x.ws=WR at*;simp only[ar,aW,aP,AV.mp,aY,Pl.mp] at*;clear h0 hc hx hf;unfold nf at*;simp[Cm];refine bj _ _ (S rfl) (by constructor<;>simp[hm,hc0,nCR,ne1,ne2,ne3,ne4,ne5]) rfl ?_
  refine ⟨rfl,by simp,?_⟩;constructor<;>simp[hmi,hri,hci,hm,hr,hc0,nCR,ne1,ne2,ne3,ne4,ne5]
 by_cases e4:x.nm=ng
 ·have hf:bV 2 x.nm=some ⟨ng,[6],false,1,0,604800⟩:=by rw[e4];rfl
  have hc:=bT (C:=Cs) hf rfl rfl rfl (by decide) (by decide) (by decide);rw[hc] at h0 ⊢;have S:=fun h=>gP C.up M.up x (am Cs) 0 604800 36 hx hm h h0
  generalize mQ 6 (am Cs) x 0 604800=e at*;unfold qM a8 bS bE at*;rw[aw] at*;rw[e4] at*;generalize aI kS (aA (am Cs))=G,ai Cs j8 0=vsLo,ai Cs j9 0=vsSh,ai Cs ij 0=vsFa,ai Cs nf 0=vsFo,ai Cs ng 0=vsKe,ab x.kd=KR,List.map Tk.row x.ws=WR at*;simp only[ar,aW,aP,AV.mp,aY,Pl.mp] at*;clear h0 hc hx hf;unfold ng at*;simp[Cm];refine bj _ _ (S rfl) (by constructor<;>simp[hm,hc0,nCR,ne1,ne2,ne3,ne4,ne5]) rfl ?_
  refine ⟨rfl,by simp,?_⟩;constructor<;>simp[hmi,hri,hci,hm,hr,hc0,nCR,ne1,ne2,ne3,ne4,ne5]
 ·rw[fM (by simp[bV,gv,Ne.symm e0,Ne.symm e1,Ne.symm e2,Ne.symm e3,Ne.symm e4])];clear h0;have b0:(x.nm==j8)=false:=cH.2 e0;have b1:(x.nm==j9)=false:=cH.2 e1;have b2:(x.nm==ij)=false:=cH.2 e2;have b3:(x.nm==nf)=false:=cH.2 e3;have b4:(x.nm==ng)=false:=cH.2 e4;unfold qM a8 bS bE at*;rw[aw] at*;generalize aI kS (aA (am Cs))=G,ai Cs j8 0=vsLo,ai Cs j9 0=vsSh,ai Cs ij 0=vsFa,ai Cs nf 0=vsFo,ai Cs ng 0=vsKe,x.nm=nm,ab x.kd=KR,List.map Tk.row x.ws=WR at*;simp only[ar,aW,aP,AV.mp,aY,Pl.mp] at*;unfold j8 j9 ij nf ng at*;simp[Cm,b0,b1,b2,b3,b4];refine ⟨rfl,by simp,?_⟩;constructor<;>simp[hmi,hri,hci,hm,hr,hc0,nCR,ne1,ne2,ne3,ne4,ne5]
theorem qN (a b:Id) (dm:Nat):FQ Tryz.prog gl 74 dm ⟨[.ptr a 0,.ptr b 0],[],[]⟩ .nili ⟨.tup [],[],[]⟩:=by
 refine TJ rfl rfl ?_;simp only[ar,aW,aP,AV.mp,aY,Pl.mp];simp[O9,Pa];refine bh ?_;constructor<;>simp
theorem qO (a b C M0:Id) (n:List UInt8) (WR KR:List (List AV)) (bk:Bool) (l c e:Int) (f:List Ft) (dm:Nat) (ha:a.isIt=false) (had:a.isNw dm=false) (hb:b.isIt=false) (hbd:b.isNw dm=false) (hc:C.isIt=false) (hcd:C.isNw dm=false)
  (hm:M0.isIt=true) (nab:a≠b) (nac:a≠C) (nbc:b≠C) (hl:f.length<=10000000):
  FQ Tryz.prog gl 74 dm ⟨[.ptr a 0,.ptr b 0],[(a,[.ptr C 0,.mref (.up M0)]),(b,[.str n,.sl WR,.bool bk,.sl KR,i6 l,i6 c]),(C,bN f)],[(.b C 0,3)]⟩ (bE e) ⟨.tup [],[(a,[.ptr C 0,.mref (.up M0)]),(b,[.str n,.sl WR,.bool bk,.sl KR,i6 l,i6 c]),(C,bN (f++[⟨e,l,c⟩]))],[(.b C 0,3)]⟩:=by
 refine TJ rfl rfl ?_;have hai:=ae had;have hbi:=ae hbd;have hci:=ae hcd;have nba:=nab.symm;have nca:=nac.symm;have ncb:=nbc.symm;have S:=fun h=>gD C.up e l c f 12 hc h hl
 unfold bE bN at*;generalize List.map Ft.row (f++[⟨e,l,c⟩])=F2,List.map Ft.row f=F at*;simp only[ar,aW,aP,AV.mp,aY,Pl.mp] at*;simp[O9,Pa,nab,nac,nbc,nba,nca,ncb];refine aE _ _ (S rfl) (by constructor<;>simp[hm,nab,nac,nbc,nba,nca,ncb]) ?_
 simp;refine bh ?_;constructor<;>simp[hai,hbi,hci,ha,hb,hc,hm,nab,nac,nbc,nba,nca,ncb]
theorem zD:(List.range 11).map X.s=[.s 0,.s 1,.s 2,.s 3,.s 4,.s 5,.s 6,.s 7,.s 8,.s 9,.s 10]:=rfl
theorem Kq (C M R:Id) (x:It) (K K':List (List UInt8)) (f f':List Ft) (cs cs':List AV) (d:Nat) (hC:C.isIt=false) (hCd:C.isNw d=false) (hR:R.isIt=false) (hRd:R.isNw d=false) (hM:M.isIt=true) (hMd:M.isNw d=false) (nCR:C≠R)
  (hid:bm cs=[]) (hid':bm cs'=[])
  (S:C.up.up.isNw 10=false->M.up.up.isNw 10=false->R.up.up.isNw 10=false->ba Tryz.prog gl 76 10 ⟨[bS C.up.up M.up.up,.agg x.row,.ptr R.up.up 0],[(C.up.up,bN f),(M.up.up,a8 K),(R.up.up,cs)],[(.b C.up.up 0,3)]⟩ ⟨.tup [],[(C.up.up,bN f'),(M.up.up,a8 K'),(R.up.up,cs')],[(.b C.up.up 0,3)]⟩):
  ba Tryz.prog gl 44 d ⟨[bS C M,.agg x.row,.fn (76) [.ptr R 0]],[(C,bN f),(M,a8 K),(R,cs)],[(.b C 0,3)]⟩ ⟨.tup [],[(C,bN f'),(M,a8 K'),(R,cs')],[(.b C 0,3)]⟩:=by
 refine Lu 1 1 (by decide) (by decide) rfl ?_;have iC:=ae hCd;have iR:=ae hRd;have iM:=ae hMd;have nRC:=nCR.symm;have nMC:M≠C:=fun e=>by rw[e,hC] at hM;cases hM
 have nCM:=nMC.symm;have nMR:M≠R:=fun e=>by rw[e,hR] at hM;cases hM
 have nRM:=nMR.symm;have hmp:=fun g=>aO (f:=g) hid
 have hmp':=fun g=>aO (f:=g) hid'
 have q0:=a7 cs;have q1:=a7 cs';have S:=S rfl rfl rfl;have RN:=qN (.up (.n 3)) (.up (.n 4)) 1;unfold bS bN a8 at*;rw[aw] at*;generalize aI kS (aA K)=G at*;generalize aI kS (aA K')=G',List.map Ft.row f'=FL' at*;generalize List.map Ft.row f=FL,ab x.kd=KR,List.map Tk.row x.ws=WR,x.nm=nm,x.bk=bk,x.pl.1=pl,x.pl.2=pc at*;simp only[ar,aW,aP,AV.mp,aY,Pl.mp,hmp,Jm,iL];simp;rw[gS,zD];simp;refine ⟨⟨[.agg [.ptr C.up 0,.mref M.up],.agg [.str nm,.sl WR,.bool bk,.sl KR,i6 pl,i6 pc],.fn (76) [.ptr R.up 0],.ptr (.n 3) 0,.ptr (.n 4) 0,.undef,.fn 74 [.ptr (.n 3) 0,.ptr (.n 4) 0],.undef,.undef,.undef,.undef],[(.n 3,[.ptr C.up 0,.mref M.up]),(.n 4,[.str nm,.sl WR,.bool bk,.sl KR,i6 pl,i6 pc]),(C.up,[.sl FL]),(M.up,[.mpv G]),(R.up,cs)],[(.b C.up 0,3)]⟩,rfl,⟨.tup [],[(.n 3,[.ptr C.up 0,.mref M.up]),(.n 4,[.str nm,.sl WR,.bool bk,.sl KR,i6 pl,i6 pc]),(C.up,[.sl FL']),(M.up,[.mpv G']),(R.up,cs')],[(.b C.up 0,3)]⟩,⟨?_,?_,?_,?_,?_,?_,?_⟩,?_,?_⟩;iterate 7 (· simp[iC,hC,iR,hR,iM,hM,nRC,nCR,nMC,nCM,nMR,nRM,hmp,hmp',hid,hid',q0,q1])
 ·apply ah<;>simp[iC,hC,iR,hR,iM,hM,nRC,nCR,nMC,nCM,nMR,nRM,hmp,hmp',hid,hid',q0,q1]
 ·simp[iC,hC,iR,hR,iM,hM,nRC,nCR,nMC,nCM,nMR,nRM,hmp,hmp',hid,hid',q0,q1];refine aZ _ _ (S) (by constructor<;>simp[iC,hC,iR,hR,iM,hM,nRC,nCR,nMC,nCM,nMR,nRM,hmp,hmp',hid,hid',q0,q1]) ?_
  simp[iC,hC,iR,hR,iM,hM,nRC,nCR,nMC,nCM,nMR,nRM,hmp,hmp',hid,hid',q0,q1];refine ⟨_,_,RN,⟨?_,?_,?_,?_,?_,?_,?_⟩,?_⟩;iterate 7 (· simp[iC,hC,iR,hR,iM,hM,nRC,nCR,nMC,nCM,nMR,nRM,hmp,hmp',hid,hid',q0,q1])
  apply ah<;>simp[iC,hC,iR,hR,iM,hM,nRC,nCR,nMC,nCM,nMR,nRM,hmp,hmp',hid,hid',q0,q1]
theorem Kr (C M R:Id) (x:It) (K K':List (List UInt8)) (f f':List Ft) (cs cs':List AV) (e:Int) (d:Nat) (hC:C.isIt=false) (hCd:C.isNw d=false) (hR:R.isIt=false) (hRd:R.isNw d=false) (hM:M.isIt=true) (hMd:M.isNw d=false) (nCR:C≠R)
  (hid:bm cs=[]) (hid':bm cs'=[]) (hl:f'.length<=10000000)
  (S:C.up.up.isNw 10=false->M.up.up.isNw 10=false->R.up.up.isNw 10=false->di Tryz.prog gl 76 10 ⟨[bS C.up.up M.up.up,.agg x.row,.ptr R.up.up 0],[(C.up.up,bN f),(M.up.up,a8 K),(R.up.up,cs)],[(.b C.up.up 0,3)]⟩ ⟨bE e,[(C.up.up,bN f'),(M.up.up,a8 K'),(R.up.up,cs')],[(.b C.up.up 0,3)]⟩):
  ba Tryz.prog gl 44 d ⟨[bS C M,.agg x.row,.fn (76) [.ptr R 0]],[(C,bN f),(M,a8 K),(R,cs)],[(.b C 0,3)]⟩ ⟨.tup [],[(C,bN (f'++[x.ft e])),(M,a8 K'),(R,cs')],[(.b C 0,3)]⟩:=by
 refine Lu 1 1 (by decide) (by decide) rfl ?_;have iC:=ae hCd;have iR:=ae hRd;have iM:=ae hMd;have nRC:=nCR.symm;have nMC:M≠C:=fun e=>by rw[e,hC] at hM;cases hM
 have nCM:=nMC.symm;have nMR:M≠R:=fun e=>by rw[e,hR] at hM;cases hM
 have nRM:=nMR.symm;have hmp:=fun g=>aO (f:=g) hid
 have hmp':=fun g=>aO (f:=g) hid'
 have q0:=a7 cs;have q1:=a7 cs';have S:=S rfl rfl rfl;have RF:=qO (.up (.n 3)) (.up (.n 4)) C.up.up M.up x.nm (x.ws.map Tk.row) (ab x.kd) x.bk x.pl.1 x.pl.2 e f' 1 rfl rfl rfl rfl hC rfl hM (by decide) (by simp) (by simp) hl;rw[show (⟨e,x.pl.1,x.pl.2⟩:Ft)=x.ft e from rfl] at RF;unfold bS bN a8 bE at*;rw[aw] at*;generalize aI kS (aA K)=G at*;generalize aI kS (aA K')=G',List.map Ft.row (f'++[x.ft e])=FL2,List.map Ft.row f'=FL' at*;generalize List.map Ft.row f=FL,ab x.kd=KR,List.map Tk.row x.ws=WR,x.nm=nm,x.bk=bk,x.pl.1=pl,x.pl.2=pc at*;simp only[ar,aW,aP,AV.mp,aY,Pl.mp,hmp,Jm,iL];simp;rw[gS,zD];simp;refine ⟨⟨[.agg [.ptr C.up 0,.mref M.up],.agg [.str nm,.sl WR,.bool bk,.sl KR,i6 pl,i6 pc],.fn (76) [.ptr R.up 0],.ptr (.n 3) 0,.ptr (.n 4) 0,.undef,.fn 74 [.ptr (.n 3) 0,.ptr (.n 4) 0],.undef,.undef,.undef,.undef],[(.n 3,[.ptr C.up 0,.mref M.up]),(.n 4,[.str nm,.sl WR,.bool bk,.sl KR,i6 pl,i6 pc]),(C.up,[.sl FL]),(M.up,[.mpv G]),(R.up,cs)],[(.b C.up 0,3)]⟩,rfl,⟨.tup [],[(.n 3,[.ptr C.up 0,.mref M.up]),(.n 4,[.str nm,.sl WR,.bool bk,.sl KR,i6 pl,i6 pc]),(C.up,[.sl FL2]),(M.up,[.mpv G']),(R.up,cs')],[(.b C.up 0,3)]⟩,⟨?_,?_,?_,?_,?_,?_,?_⟩,?_,?_⟩;iterate 7 (· simp[iC,hC,iR,hR,iM,hM,nRC,nCR,nMC,nCM,nMR,nRM,hmp,hmp',hid,hid',q0,q1])
 ·apply ah<;>simp[iC,hC,iR,hR,iM,hM,nRC,nCR,nMC,nCM,nMR,nRM,hmp,hmp',hid,hid',q0,q1]
 ·simp[iC,hC,iR,hR,iM,hM,nRC,nCR,nMC,nCM,nMR,nRM,hmp,hmp',hid,hid',q0,q1];refine bj _ _ (S) (by constructor<;>simp[iC,hC,iR,hR,iM,hM,nRC,nCR,nMC,nCM,nMR,nRM,hmp,hmp',hid,hid',q0,q1]) rfl ?_
  refine ⟨⟨_,_,rfl⟩,_,_,RF,⟨?_,?_,?_,?_,?_,?_,?_⟩,?_⟩;iterate 7 (· simp[iC,hC,iR,hR,iM,hM,nRC,nCR,nMC,nCM,nMR,nRM,hmp,hmp',hid,hid',q0,q1])
  apply ah<;>simp[iC,hC,iR,hR,iM,hM,nRC,nCR,nMC,nCM,nMR,nRM,hmp,hmp',hid,hid',q0,q1]
theorem OH (C R:Id) (L:List It) (K:Nat->List (List UInt8)) (f:Nat->List Ft) (cs:Nat->List AV) (d:Nat) (hC:C.isIt=false) (hCd:C.isNw d=false) (hR:R.isIt=false) (hRd:R.isNw d=false) (nCR:C≠R)
  (hid: ∀i,bm (cs i)=[]) (hK:K 0=[]) (hlen:L.length<=100000)
  (S: ∀(i:Nat) (h:i<L.length),C.up.isNw 21=false->R.up.isNw 21=false->ba Tryz.prog gl 44 21 ⟨[bS C.up (.it 10),.agg L[i].row,.fn (76) [.ptr R.up 0]],[(C.up,bN (f (i))),(.it 10,a8 (K (i))),(R.up,cs (i))],[(.b C.up 0,3)]⟩ ⟨.tup [],[(C.up,bN (f (i+1))),(.it 10,a8 (K (i+1))),(R.up,cs (i+1))],[(.b C.up 0,3)]⟩):
  ba Tryz.prog gl 23 d ⟨[.ptr C 0,.sl (ab L),.fn (76) [.ptr R 0]],[(C,bN (f 0)),(R,cs 0)],[(.b C 0,3)]⟩ ⟨.tup [],[(C,bN (f L.length)),(R,cs L.length)],[(.b C 0,3)]⟩:=by
 refine O0 rfl ?_;have iC:=ae hCd;have iR:=ae hRd;have nRC:=nCR.symm;have rl:=bQ L;have rat:=iP L;have r6:=jJ L;have hmp:=fun i g=>aO (f:=g) (hid i)
 have q0:=fun i=>a7 (cs i)
 have hki: ∀K,bm (a8 K)=[]:=fun _=>rfl
 have k0:a8 (K 0)=[.mpv []]:=by rw[hK];rfl
 simp only[ar,aW,aP,AV.mp,aY,Pl.mp,hmp];unfold bN bS at*;simp only[ar,aW,aP,AV.mp,aY,Pl.mp,hmp];generalize ab L=RR at*;simp[NH];refine cP (α:=Nat) (fun i=>⟨[(0,.ptr C.up 0),(2,.fn (76) [.ptr R.up 0]),(6,.ptr (.n 6) 0),(12,.sl RR),(13,i6 L.length),(14,i6 i)],[(.n 6,[.ptr C.up 0,.mref (.it 10)]),(C.up,[.sl ((f i).map Ft.row)]),(.it 10,a8 (K i)),(R.up,cs i)],[(.b C.up 0,3)]⟩) (fun i=>i<=L.length) (fun i=>L.length - i) ?_ 0 (jq _) ?_
 ·rintro k i hk h1;by_cases g:i<L.length
  ·have t1:IntKind.i64.wrap ((i:Int)+1)=(i+1:Nat):=by rw[aL]<;>omega
   have g':(i:Int)<L.length:=by omega
   have gR:i<RR.length:=by omega
   have rai:=rat i g gR;have fin:=fun σ' hσ=>hk (i+1) σ' (by omega) (by omega) hσ
   have S:=S i g rfl rfl;have ra6:=r6 RR[i] (xz gR);rw[<-rai] at S;clear hk rat rai r6;obtain ⟨row,hrow⟩: ∃row,row=RR[i]:=⟨_,rfl⟩;rw[<-hrow] at S ra6;have hat: ∀h,RR[i]'h=row:=fun _=>hrow.symm
   have ht:List.take 6 row=row:=List.take_of_length_le (by omega);simp[g,g',gR,rl,hat,ra6,ht,iC,hC,iR,hR,nRC,nCR,hmp,hid,q0,hki];refine aE _ _ (S) (by constructor<;>simp[iC,hC,iR,hR,nRC,nCR,hmp,hid,q0,hki]) ?_
   simp[iC,hC,iR,hR,nRC,nCR,hmp,hid,q0,hki];refine fin _ ?_;apply aC<;>simp[t1,iC,hC,iR,hR,nRC,nCR,hmp,hid,q0,hki]
  ·obtain rfl:i=L.length:=by omega
   clear hk;simp[rl];refine bh ?_;constructor<;>simp[iC,hC,iR,hR,nRC,nCR,hmp,hid,q0,hki]
 ·apply aC<;>simp[rl,k0,iC,hC,iR,hR,nRC,nCR,hmp,hid,q0,hki]
theorem uZ (lk:Lk) (g:Nat): ∀k:List It,(gz lk g k).length<=k.length
 |[]=>eR _
 |y::k=>by
  have:=uZ lk g k
  unfold gz at this ⊢;rw[List.flatMap_cons,fT,e7];split
  ·rw[Cp];omega
  ·rw[tO];omega
theorem Hw (lk:Lk) (w:Nat) (s:List It×List Ft) (x:It): ∀y∈(aB lk w s x).1,y∈s.1\/y=x:=by
 intro y hy;unfold aB at hy;split at hy
 ·exact .inl hy
 ·split at hy
  ·rcases jD.1 hy with h|h
   ·exact .inl h
   ·exact .inr (by simpa using h)
  ·rcases jD.1 hy with h|h
   ·exact .inl h
   ·exact .inr (by simpa using h)
theorem zE (lk:Lk) (w:Nat): ∀(L:List It) (s:List It×List Ft),∀y∈(L.foldl (aB lk w) s).1,y∈s.1\/y∈L
 |[],s,y,h=> .inl h
 |x::L,s,y,h=>by
  rcases zE lk w L (aB lk w s x) y h with h|h
  ·rcases Hw lk w s x y h with h|h
   ·exact .inl h
   ·exact .inr (by simp[h])
  ·exact .inr (by simp[h])
theorem Hx (f w:Nat) (L:List It): ∀y∈(au f w L).1,y∈L:=by
 cases f with
 |zero=>intro y h;cases h
 |succ f=>
  intro y h;rcases zE (au f) w L ([],[]) y h with h|h
  ·cases h
  ·exact h
theorem Hy (lk:Lk) (w:Nat) (s:List It×List Ft) (x:It):(aB lk w s x).1.length<=s.1.length+1:=by
 unfold aB;split
 ·exact Nat.le_succ _
 ·split<;>simp
theorem zF (lk:Lk) (w:Nat): ∀(L:List It) (s:List It×List Ft),(L.foldl (aB lk w) s).1.length<=s.1.length+L.length
 |[],s=>eR _
 |x::L,s=>by
  have:=zF lk w L (aB lk w s x)
  have:=Hy lk w s x
  rw[List.foldl_cons,e7];omega
theorem lV (f w:Nat) (L:List It):(au f w L).1.length<=L.length:=by
 cases f with
 |zero=>exact jq _
 |succ f=>
  have:=zF (au f) w L ([],[])
  rw[tO,l5] at this;exact this
theorem Ex (lk:Lk) (i:Nat) (x:It) (k:List It):(cV lk i x k).length<=2+k.length:=by
 have:=uZ lk (ai k iq 60) k
 unfold cV;split
 ·rw[fT,fT];split<;>split<;>simp only[tO,Cp]<;>omega
 split
 ·split
  ·simp only[Cp];omega
  ·split<;>simp only[tO,Cp]<;>omega
 split
 ·split<;>simp only[tO,Cp]<;>omega
 ·simp
theorem BK (x:It):jh x=1+bJ x.kd:=by obtain ⟨n,ws,b,ks,l,c⟩:=x;rw[jh];rfl
theorem mm: ∀(f w:Nat) (L:List It),(au f w L).2.length<=2*f*bJ L
 |0,w,L=>jq _
 |f+1,w,L=>by
  have one: ∀(s:List It×List Ft) (x:It),(aB (au f) w s x).2.length<=s.2.length+2*(f+1)*jh x:=fun s x=>by
   have hk:=BK x;have h1:=mm f (bR x.nm) x.kd;have h2:=Ex (au f) (bR x.nm) x (au f (bR x.nm) x.kd).1;have h3:=lV f (bR x.nm) x.kd;have h4:=kL x.kd;have e:2*(f+1)*jh x=2*f*bJ x.kd+2*bJ x.kd+2*f+2:=by rw[hk];simp only[Nat.mul_add,Nat.add_mul,Nat.mul_one];omega
   unfold aB;split
   ·rw[fT,Cp,e];omega
   ·split
    ·dsimp only;omega
    ·rw[fT,fT,e];omega
  have all: ∀(L:List It) (s:List It×List Ft),(L.foldl (aB (au f) w) s).2.length<=s.2.length+2*(f+1)*bJ L:=fun L=>by
   induction L with
   |nil=>intro s;exact Nat.le_add_right _ _
   |cons x L ih=>
    intro s;have a:=ih (aB (au f) w s x);have b:=one s x;rw[List.foldl_cons,bJ,Nat.mul_add];omega
  have:=all L ([],[])
  rw[tO,l5] at this;exact this
theorem Hz (f:Nat) (L:List It):ai (au f 1 L).1 iq 60≠0:=by
 cases f with
 |zero=>exact (show (60:Nat)≠0 by decide)
 |succ f=>
  have:=MD (w:=1) (n:=iq) (p:=⟨iq,[6],false,1,1,86400⟩) rfl rfl (au f) L 60 (by decide)
  show ai (L.foldl (aB (au f) 1) ([],[])).1 iq 60≠0;have h:1<=ai (L.foldl (aB (au f) 1) ([],[])).1 iq 60:=this;omega
theorem HC (lk:Lk) (w:Nat) (C:List It) (f0 g:List Ft) (x:It):aB lk w (C,f0++g) x=((aB lk w (C,g) x).1,f0++(aB lk w (C,g) x).2):=by
 unfold aB;dsimp only;split
 ·rw[xv]
 ·split
  ·rfl
  ·rw[xv]
theorem sx (lk:Lk) (w:Nat) (f0:List Ft): ∀(L:List It) (s:List It×List Ft),L.foldl (aB lk w) (s.1,f0++s.2)=((L.foldl (aB lk w) s).1,f0++(L.foldl (aB lk w) s).2)
 |[],s=>rfl
 |x::L,s=>by
  rw[List.foldl_cons,List.foldl_cons,HC,sx lk w f0 L (aB lk w s x)]
def hZ (lk:Lk) (w:Nat) (L:List It) (f0:List Ft) (i:Nat):List It×List Ft:=(L.take i).foldl (aB lk w) ([],f0)
theorem oh (lk:Lk) (w:Nat) (L:List It) (f0:List Ft) (i:Nat) (h:i<L.length):hZ lk w L f0 (i+1)=aB lk w (hZ lk w L f0 i) L[i]:=by
 unfold hZ;rw[Jo h,List.foldl_append];rfl
theorem Dg (lk:Lk) (w:Nat) (L:List It) (f0:List Ft):hZ lk w L f0 L.length=((L.foldl (aB lk w) ([],[])).1,f0++(L.foldl (aB lk w) ([],[])).2):=by
 unfold hZ;rw[tJ,<-sx lk w f0 L ([],[]),xJ]
theorem Dh (lk:Lk) (w:Nat) (L:List It) (f0:List Ft) (i:Nat):jk w (hZ lk w L f0 i).1:=oz lk w _ _ (fun y hy=>by cases hy)
theorem BL {w:Nat} (hw:2<=w) {n:List UInt8} {p:pu} (hp:bV w n=some p):bR n=0:=by
 obtain ⟨hm,hn⟩:=iu hp;have h2: ∀p∈gv 2,bR p.nm=0:=by decide
 have h3: ∀p∈gv 3,bR p.nm=0:=by decide
 rw[<-hn];unfold gv at hm h2 h3;rw[if_neg (by omega),if_neg (by omega)] at hm;by_cases e2:w=2
 ·rw[if_pos e2] at hm;exact h2 p hm
 ·rw[if_neg e2] at hm;exact h3 p hm
theorem py {lk:Lk} {w:Nat} (hw:2<=w) (s:List It×List Ft) (x:It):aB lk w s x=if aX w s.1 x≠0 then (s.1,s.2++[x.ft (aX w s.1 x)]) else (s.1++[x],s.2):=by
 unfold aB;split
 ·rfl
 ·rename_i hc;have hc:aX w s.1 x=0:=by omega
  obtain ⟨p,hp,_⟩:=gQ hc;rw[if_pos (BL hw hp)]
theorem oi {lk:Lk} {w:Nat} (hw:2<=w): ∀(L:List It) (s:List It×List Ft),(L.foldl (aB lk w) s).2.length<=s.2.length+L.length
 |[],s=>eR _
 |x::L,s=>by
  rw[List.foldl_cons];refine mu (oi hw L _) ?_;rw[py hw,e7];split
  ·rw[fT,Cp];omega
  ·dsimp only;omega
theorem Di {lk:Lk} {w:Nat} (hw:2<=w) (L:List It) (f0:List Ft) (i:Nat):(hZ lk w L f0 i).2.length<=f0.length+L.length:=by
 refine mu (oi hw _ _) ?_
 have:=List.length_take_le' i L
 dsimp only;omega
theorem oo (n:List UInt8) (pg:Bool) (C:List It):bm (qM n pg C)=[]:=rfl
theorem Ey (C R:Id) (L:List It) (n:List UInt8) (pg:Bool) (f0:List Ft) (lk:Lk) (d:Nat) (hC:C.isIt=false) (hCd:C.isNw d=false) (hR:R.isIt=false) (hRd:R.isNw d=false) (nCR:C≠R) (hx: ∀x∈L,∀t∈x.ws,1<=t.k/\t.k<=6) (hl:L.length<=100000) (hf:f0.length<=1000000):
  ba Tryz.prog gl 23 d ⟨[.ptr C 0,.sl (ab L),.fn 76 [.ptr R 0]],[(C,bN f0),(R,qM n pg [])],[(.b C 0,3)]⟩
   ⟨.tup [],[(C,bN (f0++(L.foldl (aB lk 2) ([],[])).2)),(R,qM n pg (L.foldl (aB lk 2) ([],[])).1)],[(.b C 0,3)]⟩:=by
 have E:=OH C R L (fun i=>am (hZ lk 2 L f0 i).1) (fun i=>(hZ lk 2 L f0 i).2) (fun i=>qM n pg (hZ lk 2 L f0 i).1) d hC hCd hR hRd nCR (fun i=>oo _ _ _) rfl hl ?_
 ·have e:=Dg lk 2 L f0;have e1:=congrArg Prod.fst e;have e2:=congrArg Prod.snd e;dsimp only at e1 e2;rw[e1,e2] at E;exact E
 ·intro i h h1 h2;have hs:=oh lk 2 L f0 i h;have hlen:=Di (lk:=lk) (eR 2) L f0 i;have hxi:=hx L[i] (xz h);rw[hs,py (eR 2)];generalize hZ lk 2 L f0 i=s at*;have hn:C.up≠R.up:=fun e=>nCR (by injection e)
  by_cases c:aX 2 s.1 L[i]=0
  ·rw[if_neg (by omega)];exact Kq C.up (.it 10) R.up L[i] _ _ _ _ _ _ 21 hC h1 hR h2 rfl rfl hn (oo _ _ _) (oo _ _ _) (fun g1 g2 g3=>Hu _ _ _ _ _ _ _ _ _ hxi rfl g2 hR g3 hC g1 (fun e=>nCR (by injection e with e;injection e with e;injection e)) c)
  ·rw[if_pos c];exact Kr C.up (.it 10) R.up L[i] _ _ _ _ _ _ _ 21 hC h1 hR h2 rfl rfl hn (oo _ _ _) (oo _ _ _) (by omega) (fun g1 g2 g3=>Hv _ _ _ _ _ _ _ _ _ hxi rfl g2 hR g3 hC g1 (fun e=>nCR (by injection e with e;injection e with e;injection e)) c)
def zG:pu:=⟨dU,[1,1],true,4,0,0⟩
theorem Dj {x:It} (h:cE zG x=true):x.bk=true/\ ∃a b,x.ws=[a,b]/\a.k=1/\b.k=1/\(b.t=wv\/b.t=MC):=by
 unfold cE zG at h;simp only[aJ,show (dU !=dU)=false from rfl,Bool.false_or,AG,cI] at h;obtain ⟨h1,h2,-,h4⟩:=h;refine ⟨h1,?_⟩
 match hw:x.ws with
 |[]=>rw[hw] at h2;simp[iH] at h2
 |[a]=>rw[hw] at h2;simp[iH] at h2
 |[a,b]=>
  rw[hw] at h2 h4;have e:(dU==ij)=false:=rfl;simp[iH,e] at h2;exact ⟨a,b,rfl,h2.1,h2.2,h4⟩
 |_::_::_::_=>rw[hw] at h2;simp[iH] at h2
theorem zH {x:It} (h:cE zG x=false):x.bk=false\/(x.bk=true/\(x.ws.map Tk.k==[1,1])=false)\/(x.bk=true/\ ∃a b,x.ws=[a,b]/\(x.ws.map Tk.k==[1,1])=true/\(b.t==wv)=false/\(b.t==MC)=false):=by
 cases hb:x.bk with
 |false=>exact .inl rfl
 |true=>
  refine .inr ?_;cases hk:(x.ws.map Tk.k==[1,1]) with
  |false=>exact .inl ⟨rfl,rfl⟩
  |true=>
   refine .inr ⟨rfl,?_⟩
   match hw:x.ws with
   |[]=>rw[hw] at hk;simp at hk
   |[a]=>rw[hw] at hk;simp at hk
   |[a,b]=>
    rw[hw] at hk;simp at hk;refine ⟨a,b,rfl,rfl,?_⟩;unfold cE zG at h;rw[hb,hw] at h;have e:(dU==ij)=false:=rfl;have e2:(dU !=dU)=false:=rfl;have e3:(dU !=kN)=true:=rfl;simp[iH,e,e2,e3,hk.1,hk.2,w1] at h;simpa using h
   |_::_::_::_=>rw[hw] at hk;simp at hk
theorem Ks (C M:Id) (x:It) (Cs:List It) (f:List Ft) (lk lk':Lk) (d:Nat) (hn:x.nm=dU) (hIC:jk 1 Cs) (hx: ∀y∈x.kd,∀t∈y.ws,1<=t.k/\t.k<=6) (hl:x.kd.length<=100000) (hw0:(w0 x.ws).length<=10000000) (hf:f.length<=1000000)
  (hM:M.isIt=true) (hMd:M.isNw d=false) (hC:C.isIt=false) (hCd:C.isNw d=false) (h0:aX 1 Cs x=0):
  ba Tryz.prog gl 49 d ⟨[bS C M,.agg x.row],[(C,bN f),(M,a8 (am Cs))],[(.b C 0,3)]⟩
   ⟨.agg (qM (w0 x.ws) (w1 x.ws==wv) (x.kd.foldl (aB lk 2) ([],[])).1),[(C,bN (f++((x.kd.foldl (aB lk 2) ([],[])).2++cV lk' 2 x (x.kd.foldl (aB lk 2) ([],[])).1))),(M,a8 (am (Cs++[x])))],[(.b C 0,3)]⟩:=by
 refine UN rfl ?_;have iC:=ae hCd;have iM:=ae hMd;have nMC:M≠C:=fun e=>by rw[e,hC] at hM;cases hM
 have nCM:=nMC.symm;have hp:bV 1 x.nm=some zG:=by rw[hn];rfl
 obtain ⟨q,hq,hfm⟩:=gQ h0;rw[hp] at hq;cases hq;rw[gG hIC hp hfm (by decide)] at h0;obtain ⟨hbk,a,b,hws,hak,hbk1,hbt⟩:=Dj hfm;have ew0:w0 x.ws=a.t:=by rw[hws];rfl
 have ew1:w1 x.ws=b.t:=by rw[hws];rfl
 rw[ew0] at h0 hw0;have NM:=fun h=>sj C.up M.up x a [b] (am Cs) 4 32 hM h hws hak h0 (by decide) (by rw[hn];show 4+_<=_;omega)
 have WO:=gE x [1,1] (by decide) (by rw[hws];simp);have hkk:(x.ws.map Tk.k==[1,1])=true:=by rw[hws];simp[hak,hbk1]
 rw[hkk] at WO;have U:=fun e d=>bZ e d
 have kk:am (Cs++[x])=am Cs++[de x.nm a.t]++[x.nm]:=by
  rw[kO];unfold lj;rw[hn,if_pos (show lR dU=true from rfl),ew0];simp
 have ER:=fun h h2=>Ey C.up (.n 5) x.kd a.t (b.t==wv) f lk 45 hC h rfl h2 (by simp) hx hl hf
 have wh:=ME lk lk' x x.kd;have hlen2:=oi (lk:=lk) (eR 2) x.kd ([],[]);have e0:qM a.t (b.t==wv) []=[.str a.t,.bool (b.t==wv),i6 0,i6 0,u 0,i6 0,i6 0]:=rfl;rw[e0] at ER;rw[kk,wh,ew0,ew1,aw] at*;unfold qM at*;have hA: ∀e,f++(x.kd.foldl (aB lk 2) ([],[])).2++[x.ft e]=f++((x.kd.foldl (aB lk 2) ([],[])).2++[x.ft e]):=fun e=>xv _ _ _
 have SA:=fun e h=>gD C.up e x.pl.1 x.pl.2 (f++(x.kd.foldl (aB lk 2) ([],[])).2) 63 hC h (by simp only[fT,tO,l5] at*;omega)
 have SB:=fun e h=>gD C.up e x.pl.1 x.pl.2 (f++(x.kd.foldl (aB lk 2) ([],[])).2) 73 hC h (by simp only[fT,tO,l5] at*;omega)
 have hft: ∀e,(⟨e,x.pl.1,x.pl.2⟩:Ft)=x.ft e:=fun e=>rfl
 simp only[hft,hA] at SA SB;generalize x.kd.foldl (aB lk 2) ([],[])=k at*;generalize ai k.1 j8 0=vl,ai k.1 j9 0=vs,ai k.1 ij 0=vf,ai k.1 nf 0=vo,ai k.1 ng 0=ve,k.2=k2 at*;rw[hws,hbk] at*;obtain ⟨ak,at',an,al,ac⟩:=a;obtain ⟨bk',bt,bn,bl,bc⟩:=b;simp only[fZ,l6,Tk.row] at*;unfold a8 bS bN at*;have hft2: ∀e,x.ft e=⟨e,x.pl.1,x.pl.2⟩:=fun e=>rfl
 generalize aI kS (aA (am Cs++[de x.nm at']++[x.nm]))=G2 at*;generalize aI kS (aA (am Cs))=G,hFA:(fun e=>List.map Ft.row (f++(k2++[x.ft e])))=FA at*;have hFA': ∀e,List.map Ft.row (f++(k2++[x.ft e]))=FA e:=fun e=>by rw[<-hFA]
 simp only[hFA'] at SA SB;have hC1:C.up≠(Id.n 5):=by simp
 clear hA wh hlen2 kk hft hft2 hkk hfm hp hIC h0 ew0 ew1 hn hx hw0;have final: ∀(F:List (List AV)),F=List.map Ft.row (f++(k2++(if vl=0\/vs=0\/vf=0 then [x.ft 6] else if vl<vs then [x.ft 8] else [])))->F=F:=fun _ _=>rfl
 have t6:(vl=0\/vs=0\/vf=0)->List.map Ft.row (f++(k2++(if vl=0\/vs=0\/vf=0 then [x.ft 6] else if vl<vs then [x.ft 8] else [])))=FA 6:=fun h=>by rw[if_pos h,hFA']
 have t8: ¬(vl=0\/vs=0\/vf=0)->vl<vs->List.map Ft.row (f++(k2++(if vl=0\/vs=0\/vf=0 then [x.ft 6] else if vl<vs then [x.ft 8] else [])))=FA 8:=fun h h2=>by rw[if_neg h,if_pos h2,hFA']
 have t0: ¬(vl=0\/vs=0\/vf=0)-> ¬vl<vs->List.map Ft.row (f++(k2++(if vl=0\/vs=0\/vf=0 then [x.ft 6] else if vl<vs then [x.ft 8] else [])))=List.map Ft.row (f++k2):=fun h h2=>by rw[if_neg h,if_neg h2,xJ]
 generalize hFR:List.map Ft.row (f++(k2++(if vl=0\/vs=0\/vf=0 then [x.ft 6] else if vl<vs then [x.ft 8] else [])))=FR,List.map Ft.row (f++k2)=FK,List.map Ft.row f=FL at*;clear final hFA hFA' hFR;generalize x.nm=nm,ab x.kd=KR,x.pl.1=pl,x.pl.2=pc at*;simp only[ar,aW,aP,AV.mp,aY,Pl.mp] at*;have hpg:(bt=wv/\(bt==wv)=true)\/(bt=MC/\(bt==wv)=false):=by
  rcases hbt with rfl|rfl
  ·exact .inl ⟨rfl,rfl⟩
  ·exact .inr ⟨rfl,rfl⟩
 clear hbt;generalize (bt==wv)=pg at*;unfold wv MC at hpg;have hvl:((vl:Int)==0)=decide (vl=0):=by
  by_cases h:vl=0
  ·rw[h];rfl
  ·rw[lm h,cH];omega
 have hvs:((vs:Int)==0)=decide (vs=0):=by
  by_cases h:vs=0
  ·rw[h];rfl
  ·rw[lm h,cH];omega
 have hvf:((vf:Int)==0)=decide (vf=0):=by
  by_cases h:vf=0
  ·rw[h];rfl
  ·rw[lm h,cH];omega
 rcases hpg with ⟨rfl,rfl⟩|⟨rfl,rfl⟩
 all_goals
  simp[Lv];apply ag WO;simp;refine aZ _ _ (U 6 _) (by constructor<;>simp[hM,hC,nMC,nCM]) ?_
  simp;refine .inl ?_;refine eU _ _ (NM rfl) ⟨?_,?_,?_,?_,?_,?_,?_⟩ ⟨?_,?_,?_⟩ ?_;iterate 10 (· simp[Pl.isB,Pl.isF,mJ,KF,AV.pid,hM,hC,nMC,nCM])
  simp[hM,hC,nMC,nCM];refine aE _ _ (ER rfl rfl) (by constructor<;>simp[hM,hC,nMC,nCM]) ?_
  simp[hM,hC,nMC,nCM];by_cases z1:vl=0
  ·have z1':((vl:Int)==0)=true:=by rw[hvl,z1];rfl
   have t6:=t6 (.inl z1);simp[hM,hC,nMC,nCM,z1,z1'];refine aE _ _ (SA 6 rfl) (by constructor<;>simp[hM,hC,nMC,nCM]) ?_
   simp[hM,hC,nMC,nCM];apply ah<;>simp[hM,hC,nMC,nCM,iC,iM,t6]
  have z1':((vl:Int)==0)=false:=by rw[hvl,lm z1]
  by_cases z2:vs=0
  ·have z2':((vs:Int)==0)=true:=by rw[hvs,z2];rfl
   have t6:=t6 (.inr (.inl z2));simp[hM,hC,nMC,nCM,z1,z1',z2,z2'];refine aE _ _ (SA 6 rfl) (by constructor<;>simp[hM,hC,nMC,nCM]) ?_
   simp[hM,hC,nMC,nCM];apply ah<;>simp[hM,hC,nMC,nCM,iC,iM,t6]
  have z2':((vs:Int)==0)=false:=by rw[hvs,lm z2]
  by_cases z3:vf=0
  ·have z3':((vf:Int)==0)=true:=by rw[hvf,z3];rfl
   have t6:=t6 (.inr (.inr z3));simp[hM,hC,nMC,nCM,z1,z1',z2,z2',z3,z3'];refine aE _ _ (SA 6 rfl) (by constructor<;>simp[hM,hC,nMC,nCM]) ?_
   simp[hM,hC,nMC,nCM];apply ah<;>simp[hM,hC,nMC,nCM,iC,iM,t6]
  have z3':((vf:Int)==0)=false:=by rw[hvf,lm z3]
  have hz: ¬(vl=0\/vs=0\/vf=0):=by omega
  by_cases z4:vl<vs
  ·have t8:=t8 hz z4;simp[hM,hC,nMC,nCM,z1,z1',z2,z2',z3,z3',z4];refine aE _ _ (SB 8 rfl) (by constructor<;>simp[hM,hC,nMC,nCM]) ?_
   simp[hM,hC,nMC,nCM];apply ah<;>simp[hM,hC,nMC,nCM,iC,iM,t8]
  have t0:=t0 hz z4;simp[hM,hC,nMC,nCM,z1,z1',z2,z2',z3,z3',z4];apply ah<;>simp[hM,hC,nMC,nCM,iC,iM,t0]
theorem fF {d:Nat} {O:bO} {v:AV} {σ τ:St} (hb:τ.bx=σ.bx) (hp: ∀p:Pl,p.isB=true->aH τ.pm p=aH σ.pm p) (h:dM d O v σ):dM d O v τ:=by
 obtain ⟨h1,h2,h3⟩:=h;refine ⟨h1,h2,⟨?_,h3.ids,fun p hp'=>?_,h3.bi,fun p hp'=>?_,h3.nd⟩⟩
 ·have:=h3.r
  simpa only[gh] using this
 ·have:=h3.bx p hp'
  unfold Ny at*;rw[hb];exact this
 ·have:=h3.pm p hp'
  obtain ⟨q,k⟩:=p;cases q with
  |s t=>exact absurd this (by simp[nX])
  |t t i=>exact absurd this (by simp[nX])
  |b i o=>
   unfold nX at*;refine ⟨this.1,?_⟩;rw[hp (.b _ o) rfl];refine this.2.imp id fun g=>?_
   unfold iX at*;rw[hb];exact g
theorem kT {P:Program} {GL:List (Nat×List Value)} {R:AV->St->Prop} {os:List bv} {d f:Nat} {ys:List X} {σ:St}
 (h:lu (ba P GL) os (fun τ=> ∃I O,di P GL f d I O/\cO d τ ys I O/\(∀p∈I.pm,p.1.isB=true)/\O.r.ids=[]/\ ∀τ',τ'.bx=(lg d τ ys I O).bx->(∀p:Pl,p.isB=true->aH τ'.pm p=aH (lg d τ ys I O).pm p)->R O.r τ') σ):J2 (ba P GL) (di P GL) R os d f ys σ:=h
theorem Kt (C M:Id) (x:It) (Cs:List It) (f:List Ft) (d:Nat) (hn:x.nm=dU) (hIC:jk 1 Cs) (hwl:x.ws.length<=100000) (hw0:(w0 x.ws).length<=10000000)
  (hM:M.isIt=true) (hMd:M.isNw d=false) (hC:C.isIt=false) (hCd:C.isNw d=false) (h0:aX 1 Cs x≠0):
  di Tryz.prog gl 49 d ⟨[bS C M,.agg x.row],[(C,bN f),(M,a8 (am Cs))],[(.b C 0,3)]⟩ ⟨bE (aX 1 Cs x),[(C,bN f),(M,a8 (am Cs))],[(.b C 0,3)]⟩:=by
 refine UM rfl ?_;have iC:=ae hCd;have iM:=ae hMd;have nMC:M≠C:=fun e=>by rw[e,hC] at hM;cases hM
 have nCM:=nMC.symm;have hp:bV 1 x.nm=some zG:=by rw[hn];rfl
 have U:=fun e d=>bZ e d
 have UT:=fun e d=>eM e d
 have WO:=gE x [1,1] (by decide) hwl;cases hfm:cE zG x with
 |false=>
  rw[gF hp hfm];clear h0;rcases zH hfm with hb|⟨hb,hk⟩|⟨hb,a,b,hws,hk,h1,h2⟩
  ·rw[aw,hb];unfold bS bN a8 bE at*;generalize aI kS (aA (am Cs))=G,List.map Ft.row f=FL,ab x.kd=KR,List.map Tk.row x.ws=WR at*;simp only[ar,aW,aP,AV.mp,aY,Pl.mp] at*;simp[Lv];refine bj _ _ (UT 6 _) (by constructor<;>simp[hM,hC,nMC,nCM]) rfl ?_
   refine ⟨rfl,by simp,?_⟩;constructor<;>simp[hM,hC,nMC,nCM,iC,iM]
  ·rw[aw,hb,hk] at WO;rw[aw,hb];simp only[fZ,l6] at WO;unfold bS bN a8 bE at*;generalize aI kS (aA (am Cs))=G,List.map Ft.row f=FL,ab x.kd=KR,List.map Tk.row x.ws=WR at*;simp only[ar,aW,aP,AV.mp,aY,Pl.mp] at*;simp[Lv];apply ag WO;simp;refine bj _ _ (UT 6 _) (by constructor<;>simp[hM,hC,nMC,nCM]) rfl ?_
   refine ⟨rfl,by simp,?_⟩;constructor<;>simp[hM,hC,nMC,nCM,iC,iM]
  ·rw[hk] at WO;rw[aw,hb,hws] at WO ⊢;obtain ⟨ak,at',an,al,ac⟩:=a;obtain ⟨bk',bt,bn,bl,bc⟩:=b;simp only[fZ,l6,Tk.row] at WO ⊢;simp only at h1 h2;unfold wv at h1;unfold MC at h2;unfold bS bN a8 bE at*;generalize aI kS (aA (am Cs))=G,List.map Ft.row f=FL,ab x.kd=KR at*;simp only[ar,aW,aP,AV.mp,aY,Pl.mp] at*;simp[Lv];apply ag WO;simp[h1,h2];refine bj _ _ (UT 6 _) (by constructor<;>simp[hM,hC,nMC,nCM]) rfl ?_
   refine ⟨rfl,by simp,?_⟩;constructor<;>simp[hM,hC,nMC,nCM,iC,iM]
 |true=>
  have hc:=gG hIC hp hfm (by decide);obtain ⟨hbk,a,b,hws,hak,hbk1,hbt⟩:=Dj hfm;have ew0:w0 x.ws=a.t:=by rw[hws];rfl
  rw[ew0] at hc hw0;have hc:aX 1 Cs x=Hp (am Cs) x.nm a.t 4:=hc;rw[hc] at h0 ⊢;have NM:=fun h=>sn C.up M.up x a [b] (am Cs) 4 32 hM h hws hak h0 (by rw[hn];show 4+_<=_;omega)
  have hkk:(x.ws.map Tk.k==[1,1])=true:=by rw[hws];simp[hak,hbk1]
  rw[hkk] at WO;generalize Hp (am Cs) x.nm a.t 4=e at*;simp only[aw,hws,hbk] at WO NM ⊢;obtain ⟨ak,at',an,al,ac⟩:=a;obtain ⟨bk',bt,bn,bl,bc⟩:=b;simp only[fZ,l6,Tk.row] at*;unfold a8 bS bN bE at*;generalize aI kS (aA (am Cs))=G,List.map Ft.row f=FL,x.nm=nm,ab x.kd=KR at*;simp only[ar,aW,aP,AV.mp,aY,Pl.mp] at*;clear hkk hfm hp hIC h0 ew0 hn hw0 hc hws;unfold wv MC at hbt;rcases hbt with rfl|rfl
  all_goals
   simp[Lv];apply ag WO;simp;refine aZ _ _ (U 6 _) (by constructor<;>simp[hM,hC,nMC,nCM]) ?_
   simp;refine .inr (kT ?_);simp;refine ⟨_,_,NM rfl,⟨?_,?_,?_,?_,?_,?_,?_⟩,by simp,rfl,?_⟩;iterate 7 (· simp[hM,hC,nMC,nCM])
   intro τ' hb hp;refine fF (σ:=⟨[],_,_⟩) hb hp ?_;refine ⟨rfl,by simp,?_⟩;constructor<;>simp[hM,hC,nMC,nCM,iC,iM]
end Go.Ai
