/- P14: a part of the proof. Conditions: as each theorem says. -/
import Derived.Test.YtojgeamhdkphaaaGreatDoorP13
set_option maxHeartbeats 4000000
set_option linter.unusedSimpArgs false
set_option linter.unusedVariables false
set_option maxRecDepth 20000
namespace Go.Ai
open Go.Proofs
theorem Ku (C M A R:Id) (x:It) (K K':List (List UInt8)) (f f':List Ft) (cs cs':List AV) (d:Nat) (hC:C.isIt=false) (hCd:C.isNw d=false) (hA:A.isIt=false) (hAd:A.isNw d=false) (hR:R.isIt=false) (hRd:R.isNw d=false) (hM:M.isIt=true) (hMd:M.isNw d=false) (nCA:C≠A) (nCR:C≠R) (nAR:A≠R)
  (hid:bm cs=[]) (hid':bm cs'=[])
  (S:C.up.up.isNw 10=false->M.up.up.isNw 10=false->A.up.up.isNw 10=false->R.up.up.isNw 10=false->ba Tryz.prog gl 51 10 ⟨[bS C.up.up M.up.up,.agg x.row,.ptr A.up.up 0],[(C.up.up,bN f),(M.up.up,a8 K),(A.up.up,[.ptr R.up.up 1]),(R.up.up,cs)],[(.b C.up.up 0,3),(.b R.up.up 0,8)]⟩ ⟨.tup [],[(C.up.up,bN f'),(M.up.up,a8 K'),(A.up.up,[.ptr R.up.up 1]),(R.up.up,cs')],[(.b C.up.up 0,3),(.b R.up.up 0,8)]⟩):
  ba Tryz.prog gl 44 d ⟨[bS C M,.agg x.row,.fn (51) [.ptr A 0]],[(C,bN f),(M,a8 K),(A,[.ptr R 1]),(R,cs)],[(.b C 0,3),(.b R 0,8)]⟩ ⟨.tup [],[(C,bN f'),(M,a8 K'),(A,[.ptr R 1]),(R,cs')],[(.b C 0,3),(.b R 0,8)]⟩:=by
 refine Lu 1 1 (by decide) (by decide) rfl ?_;have iC:=ae hCd;have iA:=ae hAd;have iR:=ae hRd;have iM:=ae hMd;have nAC:=nCA.symm;have nRC:=nCR.symm;have nRA:=nAR.symm;have nMC:M≠C:=fun e=>by rw[e,hC] at hM;cases hM
 have nCM:=nMC.symm;have nMA:M≠A:=fun e=>by rw[e,hA] at hM;cases hM
 have nAM:=nMA.symm;have nMR:M≠R:=fun e=>by rw[e,hR] at hM;cases hM
 have nRM:=nMR.symm;have hmp:=fun g=>aO (f:=g) hid
 have hmp':=fun g=>aO (f:=g) hid'
 have q0:=a7 cs;have q1:=a7 cs';have S:=S rfl rfl rfl rfl;have RN:=qN (.up (.n 3)) (.up (.n 4)) 1;unfold bS bN a8 at*;rw[aw] at*;generalize aI kS (aA K)=G at*;generalize aI kS (aA K')=G',List.map Ft.row f'=FL' at*;generalize List.map Ft.row f=FL,ab x.kd=KR,List.map Tk.row x.ws=WR,x.nm=nm,x.bk=bk,x.pl.1=pl,x.pl.2=pc at*;simp only[ar,aW,aP,AV.mp,aY,Pl.mp,hmp,Jm,iL];simp;rw[gS,zD];simp;refine ⟨⟨[.agg [.ptr C.up 0,.mref M.up],.agg [.str nm,.sl WR,.bool bk,.sl KR,i6 pl,i6 pc],.fn (51) [.ptr A.up 0],.ptr (.n 3) 0,.ptr (.n 4) 0,.undef,.fn 74 [.ptr (.n 3) 0,.ptr (.n 4) 0],.undef,.undef,.undef,.undef],[(.n 3,[.ptr C.up 0,.mref M.up]),(.n 4,[.str nm,.sl WR,.bool bk,.sl KR,i6 pl,i6 pc]),(C.up,[.sl FL]),(M.up,[.mpv G]),(A.up,[.ptr R.up 1]),(R.up,cs)],[(.b C.up 0,3),(.b R.up 0,8)]⟩,rfl,⟨.tup [],[(.n 3,[.ptr C.up 0,.mref M.up]),(.n 4,[.str nm,.sl WR,.bool bk,.sl KR,i6 pl,i6 pc]),(C.up,[.sl FL']),(M.up,[.mpv G']),(A.up,[.ptr R.up 1]),(R.up,cs')],[(.b C.up 0,3),(.b R.up 0,8)]⟩,⟨?_,?_,?_,?_,?_,?_,?_⟩,?_,?_⟩;iterate 7 (· simp[iC,hC,iA,hA,iR,hR,iM,hM,nAC,nCA,nRC,nCR,nRA,nAR,nMC,nCM,nMA,nAM,nMR,nRM,hmp,hmp',hid,hid',q0,q1])
 ·apply ah<;>simp[iC,hC,iA,hA,iR,hR,iM,hM,nAC,nCA,nRC,nCR,nRA,nAR,nMC,nCM,nMA,nAM,nMR,nRM,hmp,hmp',hid,hid',q0,q1]
 ·simp[iC,hC,iA,hA,iR,hR,iM,hM,nAC,nCA,nRC,nCR,nRA,nAR,nMC,nCM,nMA,nAM,nMR,nRM,hmp,hmp',hid,hid',q0,q1];refine aZ _ _ (S) (by constructor<;>simp[iC,hC,iA,hA,iR,hR,iM,hM,nAC,nCA,nRC,nCR,nRA,nAR,nMC,nCM,nMA,nAM,nMR,nRM,hmp,hmp',hid,hid',q0,q1]) ?_
  simp[iC,hC,iA,hA,iR,hR,iM,hM,nAC,nCA,nRC,nCR,nRA,nAR,nMC,nCM,nMA,nAM,nMR,nRM,hmp,hmp',hid,hid',q0,q1];refine ⟨_,_,RN,⟨?_,?_,?_,?_,?_,?_,?_⟩,?_⟩;iterate 7 (· simp[iC,hC,iA,hA,iR,hR,iM,hM,nAC,nCA,nRC,nCR,nRA,nAR,nMC,nCM,nMA,nAM,nMR,nRM,hmp,hmp',hid,hid',q0,q1])
  apply ah<;>simp[iC,hC,iA,hA,iR,hR,iM,hM,nAC,nCA,nRC,nCR,nRA,nAR,nMC,nCM,nMA,nAM,nMR,nRM,hmp,hmp',hid,hid',q0,q1]
theorem Kv (C M A R:Id) (x:It) (K K':List (List UInt8)) (f f':List Ft) (cs cs':List AV) (e:Int) (d:Nat) (hC:C.isIt=false) (hCd:C.isNw d=false) (hA:A.isIt=false) (hAd:A.isNw d=false) (hR:R.isIt=false) (hRd:R.isNw d=false) (hM:M.isIt=true) (hMd:M.isNw d=false) (nCA:C≠A) (nCR:C≠R) (nAR:A≠R)
  (hid:bm cs=[]) (hid':bm cs'=[]) (hl:f'.length<=10000000)
  (S:C.up.up.isNw 10=false->M.up.up.isNw 10=false->A.up.up.isNw 10=false->R.up.up.isNw 10=false->di Tryz.prog gl 51 10 ⟨[bS C.up.up M.up.up,.agg x.row,.ptr A.up.up 0],[(C.up.up,bN f),(M.up.up,a8 K),(A.up.up,[.ptr R.up.up 1]),(R.up.up,cs)],[(.b C.up.up 0,3),(.b R.up.up 0,8)]⟩ ⟨bE e,[(C.up.up,bN f'),(M.up.up,a8 K'),(A.up.up,[.ptr R.up.up 1]),(R.up.up,cs')],[(.b C.up.up 0,3),(.b R.up.up 0,8)]⟩):
  ba Tryz.prog gl 44 d ⟨[bS C M,.agg x.row,.fn (51) [.ptr A 0]],[(C,bN f),(M,a8 K),(A,[.ptr R 1]),(R,cs)],[(.b C 0,3),(.b R 0,8)]⟩ ⟨.tup [],[(C,bN (f'++[x.ft e])),(M,a8 K'),(A,[.ptr R 1]),(R,cs')],[(.b C 0,3),(.b R 0,8)]⟩:=by
 refine Lu 1 1 (by decide) (by decide) rfl ?_;have iC:=ae hCd;have iA:=ae hAd;have iR:=ae hRd;have iM:=ae hMd;have nAC:=nCA.symm;have nRC:=nCR.symm;have nRA:=nAR.symm;have nMC:M≠C:=fun e=>by rw[e,hC] at hM;cases hM
 have nCM:=nMC.symm;have nMA:M≠A:=fun e=>by rw[e,hA] at hM;cases hM
 have nAM:=nMA.symm;have nMR:M≠R:=fun e=>by rw[e,hR] at hM;cases hM
 have nRM:=nMR.symm;have hmp:=fun g=>aO (f:=g) hid
 have hmp':=fun g=>aO (f:=g) hid'
 have q0:=a7 cs;have q1:=a7 cs';have S:=S rfl rfl rfl rfl;have RF:=qO (.up (.n 3)) (.up (.n 4)) C.up.up M.up x.nm (x.ws.map Tk.row) (ab x.kd) x.bk x.pl.1 x.pl.2 e f' 1 rfl rfl rfl rfl hC rfl hM (by decide) (by simp) (by simp) hl;rw[show (⟨e,x.pl.1,x.pl.2⟩:Ft)=x.ft e from rfl] at RF;unfold bS bN a8 bE at*;rw[aw] at*;generalize aI kS (aA K)=G at*;generalize aI kS (aA K')=G',List.map Ft.row (f'++[x.ft e])=FL2,List.map Ft.row f'=FL' at*;generalize List.map Ft.row f=FL,ab x.kd=KR,List.map Tk.row x.ws=WR,x.nm=nm,x.bk=bk,x.pl.1=pl,x.pl.2=pc at*;simp only[ar,aW,aP,AV.mp,aY,Pl.mp,hmp,Jm,iL];simp;rw[gS,zD];simp;refine ⟨⟨[.agg [.ptr C.up 0,.mref M.up],.agg [.str nm,.sl WR,.bool bk,.sl KR,i6 pl,i6 pc],.fn (51) [.ptr A.up 0],.ptr (.n 3) 0,.ptr (.n 4) 0,.undef,.fn 74 [.ptr (.n 3) 0,.ptr (.n 4) 0],.undef,.undef,.undef,.undef],[(.n 3,[.ptr C.up 0,.mref M.up]),(.n 4,[.str nm,.sl WR,.bool bk,.sl KR,i6 pl,i6 pc]),(C.up,[.sl FL]),(M.up,[.mpv G]),(A.up,[.ptr R.up 1]),(R.up,cs)],[(.b C.up 0,3),(.b R.up 0,8)]⟩,rfl,⟨.tup [],[(.n 3,[.ptr C.up 0,.mref M.up]),(.n 4,[.str nm,.sl WR,.bool bk,.sl KR,i6 pl,i6 pc]),(C.up,[.sl FL2]),(M.up,[.mpv G']),(A.up,[.ptr R.up 1]),(R.up,cs')],[(.b C.up 0,3),(.b R.up 0,8)]⟩,⟨?_,?_,?_,?_,?_,?_,?_⟩,?_,?_⟩;iterate 7 (· simp[iC,hC,iA,hA,iR,hR,iM,hM,nAC,nCA,nRC,nCR,nRA,nAR,nMC,nCM,nMA,nAM,nMR,nRM,hmp,hmp',hid,hid',q0,q1])
 ·apply ah<;>simp[iC,hC,iA,hA,iR,hR,iM,hM,nAC,nCA,nRC,nCR,nRA,nAR,nMC,nCM,nMA,nAM,nMR,nRM,hmp,hmp',hid,hid',q0,q1]
 ·simp[iC,hC,iA,hA,iR,hR,iM,hM,nAC,nCA,nRC,nCR,nRA,nAR,nMC,nCM,nMA,nAM,nMR,nRM,hmp,hmp',hid,hid',q0,q1];refine bj _ _ (S) (by constructor<;>simp[iC,hC,iA,hA,iR,hR,iM,hM,nAC,nCA,nRC,nCR,nRA,nAR,nMC,nCM,nMA,nAM,nMR,nRM,hmp,hmp',hid,hid',q0,q1]) rfl ?_
  refine ⟨⟨_,_,rfl⟩,_,_,RF,⟨?_,?_,?_,?_,?_,?_,?_⟩,?_⟩;iterate 7 (· simp[iC,hC,iA,hA,iR,hR,iM,hM,nAC,nCA,nRC,nCR,nRA,nAR,nMC,nCM,nMA,nAM,nMR,nRM,hmp,hmp',hid,hid',q0,q1])
  apply ah<;>simp[iC,hC,iA,hA,iR,hR,iM,hM,nAC,nCA,nRC,nCR,nRA,nAR,nMC,nCM,nMA,nAM,nMR,nRM,hmp,hmp',hid,hid',q0,q1]
theorem OI (C A R:Id) (L:List It) (K:Nat->List (List UInt8)) (f:Nat->List Ft) (cs:Nat->List AV) (d:Nat) (hC:C.isIt=false) (hCd:C.isNw d=false) (hA:A.isIt=false) (hAd:A.isNw d=false) (hR:R.isIt=false) (hRd:R.isNw d=false) (nCA:C≠A) (nCR:C≠R) (nAR:A≠R)
  (hid: ∀i,bm (cs i)=[]) (hK:K 0=[]) (hlen:L.length<=100000)
  (S: ∀(i:Nat) (h:i<L.length),C.up.isNw 21=false->A.up.isNw 21=false->R.up.isNw 21=false->ba Tryz.prog gl 44 21 ⟨[bS C.up (.it 10),.agg L[i].row,.fn (51) [.ptr A.up 0]],[(C.up,bN (f (i))),(.it 10,a8 (K (i))),(A.up,[.ptr R.up 1]),(R.up,cs (i))],[(.b C.up 0,3),(.b R.up 0,8)]⟩ ⟨.tup [],[(C.up,bN (f (i+1))),(.it 10,a8 (K (i+1))),(A.up,[.ptr R.up 1]),(R.up,cs (i+1))],[(.b C.up 0,3),(.b R.up 0,8)]⟩):
  ba Tryz.prog gl 23 d ⟨[.ptr C 0,.sl (ab L),.fn (51) [.ptr A 0]],[(C,bN (f 0)),(A,[.ptr R 1]),(R,cs 0)],[(.b C 0,3),(.b R 0,8)]⟩ ⟨.tup [],[(C,bN (f L.length)),(A,[.ptr R 1]),(R,cs L.length)],[(.b C 0,3),(.b R 0,8)]⟩:=by
 refine O0 rfl ?_;have iC:=ae hCd;have iA:=ae hAd;have iR:=ae hRd;have nAC:=nCA.symm;have nRC:=nCR.symm;have nRA:=nAR.symm;have rl:=bQ L;have rat:=iP L;have r6:=jJ L;have hmp:=fun i g=>aO (f:=g) (hid i)
 have q0:=fun i=>a7 (cs i)
 have hki: ∀K,bm (a8 K)=[]:=fun _=>rfl
 have k0:a8 (K 0)=[.mpv []]:=by rw[hK];rfl
 simp only[ar,aW,aP,AV.mp,aY,Pl.mp,hmp];unfold bN bS at*;simp only[ar,aW,aP,AV.mp,aY,Pl.mp,hmp];generalize ab L=RR at*;simp[NH];refine cP (α:=Nat) (fun i=>⟨[(0,.ptr C.up 0),(2,.fn (51) [.ptr A.up 0]),(6,.ptr (.n 6) 0),(12,.sl RR),(13,i6 L.length),(14,i6 i)],[(.n 6,[.ptr C.up 0,.mref (.it 10)]),(C.up,[.sl ((f i).map Ft.row)]),(.it 10,a8 (K i)),(A.up,[.ptr R.up 1]),(R.up,cs i)],[(.b C.up 0,3),(.b R.up 0,8)]⟩) (fun i=>i<=L.length) (fun i=>L.length - i) ?_ 0 (jq _) ?_
 ·rintro k i hk h1;by_cases g:i<L.length
  ·have t1:IntKind.i64.wrap ((i:Int)+1)=(i+1:Nat):=by rw[aL]<;>omega
   have g':(i:Int)<L.length:=by omega
   have gR:i<RR.length:=by omega
   have rai:=rat i g gR;have fin:=fun σ' hσ=>hk (i+1) σ' (by omega) (by omega) hσ
   have S:=S i g rfl rfl rfl;have ra6:=r6 RR[i] (xz gR);rw[<-rai] at S;clear hk rat rai r6;obtain ⟨row,hrow⟩: ∃row,row=RR[i]:=⟨_,rfl⟩;rw[<-hrow] at S ra6;have hat: ∀h,RR[i]'h=row:=fun _=>hrow.symm
   have ht:List.take 6 row=row:=List.take_of_length_le (by omega);simp[g,g',gR,rl,hat,ra6,ht,iC,hC,iA,hA,iR,hR,nAC,nCA,nRC,nCR,nRA,nAR,hmp,hid,q0,hki];refine aE _ _ (S) (by constructor<;>simp[iC,hC,iA,hA,iR,hR,nAC,nCA,nRC,nCR,nRA,nAR,hmp,hid,q0,hki]) ?_
   simp[iC,hC,iA,hA,iR,hR,nAC,nCA,nRC,nCR,nRA,nAR,hmp,hid,q0,hki];refine fin _ ?_;apply aC<;>simp[t1,iC,hC,iA,hA,iR,hR,nAC,nCA,nRC,nCR,nRA,nAR,hmp,hid,q0,hki]
  ·obtain rfl:i=L.length:=by omega
   clear hk;simp[rl];refine bh ?_;constructor<;>simp[iC,hC,iA,hA,iR,hR,nAC,nCA,nRC,nCR,nRA,nAR,hmp,hid,q0,hki]
 ·apply aC<;>simp[rl,k0,iC,hC,iA,hA,iR,hR,nAC,nCA,nRC,nCR,nRA,nAR,hmp,hid,q0,hki]
def nE (GL:List (List AV)) (C:List It):List AV:=[.sl GL,i6 (ai C mz 16),i6 (ai C mA 0),i6 (ai C mB 10),i6 (ai C mE 300),i6 (ai C nh 0)]
theorem kU (GL:List (List AV)) (C:List It):bm (nE GL C)=[]:=rfl
theorem HD (C M A R:Id) (x:It) (Cs:List It) (GL:List (List AV)) (f:List Ft) (d:Nat) (hx: ∀t∈x.ws,1<=t.k/\t.k<=6) (hm:M.isIt=true) (hmd:M.isNw d=false) (ha:A.isIt=false) (had:A.isNw d=false) (hr:R.isIt=false) (hrd:R.isNw d=false) (hc0:C.isIt=false) (hcd:C.isNw d=false) (nCA:C≠A) (nCR:C≠R) (nAR:A≠R) (h0:aX 3 Cs x=0):
  ba Tryz.prog gl 51 d ⟨[bS C M,.agg x.row,.ptr A 0],[(C,bN f),(M,a8 (am Cs)),(A,[.ptr R 1]),(R,nE GL Cs)],[(.b C 0,3),(.b R 0,8)]⟩ ⟨.tup [],[(C,bN f),(M,a8 (am (Cs++[x]))),(A,[.ptr R 1]),(R,nE GL (Cs++[x]))],[(.b C 0,3),(.b R 0,8)]⟩:=by
 refine UQ rfl ?_;have hmi:=ae hmd;have hri:=ae hrd;have hci:=ae hcd;have hai:=ae had;have ne1:M≠R:=fun e=>by rw[e,hr] at hm;cases hm
 have ne2:R≠M:=fun e=>ne1 e.symm
 have ne3:M≠C:=fun e=>by rw[e,hc0] at hm;cases hm
 have ne4:C≠M:=fun e=>ne3 e.symm
 have ne5:M≠A:=fun e=>by rw[e,ha] at hm;cases hm
 have ne6:A≠M:=fun e=>ne5 e.symm
 have nAC:=nCA.symm;have nRC:=nCR.symm;have nRA:=nAR.symm;unfold bN;generalize List.map Ft.row f=FL at*;by_cases e0:x.nm=mz
 ·have hf:bV 3 x.nm=some ⟨mz,[3],false,1,1,64⟩:=by rw[e0];rfl
  have hc:=bT (C:=Cs) hf rfl rfl rfl (by decide) (by decide) (by decide);have gs:=cC hf rfl h0 16;have g2:=fun m (h:x.nm≠m) d=>db (C:=Cs) h d
  rw[hc] at h0;have S:=fun h=>zw C.up M.up x (am Cs) 1 64 13 hm h h0 (km h0 _ (by decide))
  rw[fE (by rw[e0];decide),e0] at gs;rw[cS (by rw[e0];rfl)];unfold nE;rw[gs,g2 mA (by rw[e0];decide),g2 mB (by rw[e0];decide),g2 mE (by rw[e0];decide),g2 nh (by rw[e0];decide)];unfold a8 bS at*;rw[aw] at*;rw[e0] at*;generalize aI kS (aA (am Cs++[mz]))=G2 at*;generalize aI kS (aA (am Cs))=G,n1 x=v,ai Cs mz 16=vsRm,ai Cs mA 0=vsRv,ai Cs mB 10=vsFi,ai Cs mE 300=vsCp,ai Cs nh 0=vsRp,ab x.kd=KR,List.map Tk.row x.ws=WR at*;simp only[ar,aW,aP,AV.mp,aY,Pl.mp] at*;clear h0 hc hx hf gs g2;unfold mz at*;simp[Cl,hm,hc0,ha,hr,nCA,nCR,nAR,nAC,nRC,nRA,ne1,ne2,ne3,ne4,ne5,ne6];refine .inl ?_;refine eU _ _ (S rfl) ⟨?_,?_,?_,?_,?_,?_,?_⟩ ⟨?_,?_,?_⟩ ?_;iterate 10 (· simp[Pl.isB,Pl.isF,mJ,KF,AV.pid,hm,hc0,ha,hr,nCA,nCR,nAR,nAC,nRC,nRA,ne1,ne2,ne3,ne4,ne5,ne6])
  simp[hm,hc0,ha,hr,nCA,nCR,nAR,nAC,nRC,nRA,ne1,ne2,ne3,ne4,ne5,ne6];refine bh ?_;constructor<;>simp[hmi,hri,hci,hai,hm,hc0,ha,hr,nCA,nCR,nAR,nAC,nRC,nRA,ne1,ne2,ne3,ne4,ne5,ne6]
 by_cases e1:x.nm=mA
 ·have hf:bV 3 x.nm=some ⟨mA,[3],false,1,0,64⟩:=by rw[e1];rfl
  have hc:=bT (C:=Cs) hf rfl rfl rfl (by decide) (by decide) (by decide);have gs:=cC hf rfl h0 0;have g2:=fun m (h:x.nm≠m) d=>db (C:=Cs) h d
  rw[hc] at h0;have S:=fun h=>zw C.up M.up x (am Cs) 0 64 21 hm h h0 (km h0 _ (by decide))
  rw[fE (by rw[e1];decide),e1] at gs;rw[cS (by rw[e1];rfl)];unfold nE;rw[gs,g2 mz (by rw[e1];decide),g2 mB (by rw[e1];decide),g2 mE (by rw[e1];decide),g2 nh (by rw[e1];decide)];unfold a8 bS at*;rw[aw] at*;rw[e1] at*;generalize aI kS (aA (am Cs++[mA]))=G2 at*;generalize aI kS (aA (am Cs))=G,n1 x=v,ai Cs mz 16=vsRm,ai Cs mA 0=vsRv,ai Cs mB 10=vsFi,ai Cs mE 300=vsCp,ai Cs nh 0=vsRp,ab x.kd=KR,List.map Tk.row x.ws=WR at*;simp only[ar,aW,aP,AV.mp,aY,Pl.mp] at*;clear h0 hc hx hf gs g2;unfold mA at*;simp[Cl,hm,hc0,ha,hr,nCA,nCR,nAR,nAC,nRC,nRA,ne1,ne2,ne3,ne4,ne5,ne6];refine .inl ?_;refine eU _ _ (S rfl) ⟨?_,?_,?_,?_,?_,?_,?_⟩ ⟨?_,?_,?_⟩ ?_;iterate 10 (· simp[Pl.isB,Pl.isF,mJ,KF,AV.pid,hm,hc0,ha,hr,nCA,nCR,nAR,nAC,nRC,nRA,ne1,ne2,ne3,ne4,ne5,ne6])
  simp[hm,hc0,ha,hr,nCA,nCR,nAR,nAC,nRC,nRA,ne1,ne2,ne3,ne4,ne5,ne6];refine bh ?_;constructor<;>simp[hmi,hri,hci,hai,hm,hc0,ha,hr,nCA,nCR,nAR,nAC,nRC,nRA,ne1,ne2,ne3,ne4,ne5,ne6]
 by_cases e2:x.nm=mB
 ·have hf:bV 3 x.nm=some ⟨mB,[6],false,1,1,86400⟩:=by rw[e2];rfl
  have hc:=bT (C:=Cs) hf rfl rfl rfl (by decide) (by decide) (by decide);have gs:=cC hf rfl h0 10;have g2:=fun m (h:x.nm≠m) d=>db (C:=Cs) h d
  rw[hc] at h0;have S:=fun h=>gO C.up M.up x (am Cs) 1 86400 29 hm h h0 (km h0 _ (by decide))
  rw[fE (by rw[e2];decide),e2] at gs;rw[cS (by rw[e2];rfl)];unfold nE;rw[gs,g2 mz (by rw[e2];decide),g2 mA (by rw[e2];decide),g2 mE (by rw[e2];decide),g2 nh (by rw[e2];decide)];unfold a8 bS at*;rw[aw] at*;rw[e2] at*;generalize aI kS (aA (am Cs++[mB]))=G2 at*;generalize aI kS (aA (am Cs))=G,n1 x=v,ai Cs mz 16=vsRm,ai Cs mA 0=vsRv,ai Cs mB 10=vsFi,ai Cs mE 300=vsCp,ai Cs nh 0=vsRp,ab x.kd=KR,List.map Tk.row x.ws=WR at*;simp only[ar,aW,aP,AV.mp,aY,Pl.mp] at*;clear h0 hc hx hf gs g2;unfold mB at*;simp[Cl,hm,hc0,ha,hr,nCA,nCR,nAR,nAC,nRC,nRA,ne1,ne2,ne3,ne4,ne5,ne6];refine .inl ?_;refine eU _ _ (S rfl) ⟨?_,?_,?_,?_,?_,?_,?_⟩ ⟨?_,?_,?_⟩ ?_;iterate 10 (· simp[Pl.isB,Pl.isF,mJ,KF,AV.pid,hm,hc0,ha,hr,nCA,nCR,nAR,nAC,nRC,nRA,ne1,ne2,ne3,ne4,ne5,ne6])
  simp[hm,hc0,ha,hr,nCA,nCR,nAR,nAC,nRC,nRA,ne1,ne2,ne3,ne4,ne5,ne6];refine bh ?_;constructor<;>simp[hmi,hri,hci,hai,hm,hc0,ha,hr,nCA,nCR,nAR,nAC,nRC,nRA,ne1,ne2,ne3,ne4,ne5,ne6]
 by_cases e3:x.nm=mE
 ·have hf:bV 3 x.nm=some ⟨mE,[6],false,1,1,604800⟩:=by rw[e3];rfl
  have hc:=bT (C:=Cs) hf rfl rfl rfl (by decide) (by decide) (by decide);have gs:=cC hf rfl h0 300;have g2:=fun m (h:x.nm≠m) d=>db (C:=Cs) h d
  rw[hc] at h0;have S:=fun h=>gO C.up M.up x (am Cs) 1 604800 37 hm h h0 (km h0 _ (by decide))
  rw[fE (by rw[e3];decide),e3] at gs;rw[cS (by rw[e3];rfl)];unfold nE;rw[gs,g2 mz (by rw[e3];decide),g2 mA (by rw[e3];decide),g2 mB (by rw[e3];decide),g2 nh (by rw[e3];decide)];unfold a8 bS at*;rw[aw] at*;rw[e3] at*;generalize aI kS (aA (am Cs++[mE]))=G2 at*;generalize aI kS (aA (am Cs))=G,n1 x=v,ai Cs mz 16=vsRm,ai Cs mA 0=vsRv,ai Cs mB 10=vsFi,ai Cs mE 300=vsCp,ai Cs nh 0=vsRp,ab x.kd=KR,List.map Tk.row x.ws=WR at*;simp only[ar,aW,aP,AV.mp,aY,Pl.mp] at*;clear h0 hc hx hf gs g2;unfold mE at*;simp[Cl,hm,hc0,ha,hr,nCA,nCR,nAR,nAC,nRC,nRA,ne1,ne2,ne3,ne4,ne5,ne6];refine .inl ?_;refine eU _ _ (S rfl) ⟨?_,?_,?_,?_,?_,?_,?_⟩ ⟨?_,?_,?_⟩ ?_;iterate 10 (· simp[Pl.isB,Pl.isF,mJ,KF,AV.pid,hm,hc0,ha,hr,nCA,nCR,nAR,nAC,nRC,nRA,ne1,ne2,ne3,ne4,ne5,ne6])
  simp[hm,hc0,ha,hr,nCA,nCR,nAR,nAC,nRC,nRA,ne1,ne2,ne3,ne4,ne5,ne6];refine bh ?_;constructor<;>simp[hmi,hri,hci,hai,hm,hc0,ha,hr,nCA,nCR,nAR,nAC,nRC,nRA,ne1,ne2,ne3,ne4,ne5,ne6]
 by_cases e4:x.nm=nh
 ·have hf:bV 3 x.nm=some ⟨nh,[6],false,1,0,2592000⟩:=by rw[e4];rfl
  have hc:=bT (C:=Cs) hf rfl rfl rfl (by decide) (by decide) (by decide);have gs:=cC hf rfl h0 0;have g2:=fun m (h:x.nm≠m) d=>db (C:=Cs) h d
  rw[hc] at h0;have S:=fun h=>gO C.up M.up x (am Cs) 0 2592000 45 hm h h0 (km h0 _ (by decide))
  rw[fE (by rw[e4];decide),e4] at gs;rw[cS (by rw[e4];rfl)];unfold nE;rw[gs,g2 mz (by rw[e4];decide),g2 mA (by rw[e4];decide),g2 mB (by rw[e4];decide),g2 mE (by rw[e4];decide)];unfold a8 bS at*;rw[aw] at*;rw[e4] at*;generalize aI kS (aA (am Cs++[nh]))=G2 at*;generalize aI kS (aA (am Cs))=G,n1 x=v,ai Cs mz 16=vsRm,ai Cs mA 0=vsRv,ai Cs mB 10=vsFi,ai Cs mE 300=vsCp,ai Cs nh 0=vsRp,ab x.kd=KR,List.map Tk.row x.ws=WR at*;simp only[ar,aW,aP,AV.mp,aY,Pl.mp] at*;clear h0 hc hx hf gs g2;unfold nh at*;simp[Cl,hm,hc0,ha,hr,nCA,nCR,nAR,nAC,nRC,nRA,ne1,ne2,ne3,ne4,ne5,ne6];refine .inl ?_;refine eU _ _ (S rfl) ⟨?_,?_,?_,?_,?_,?_,?_⟩ ⟨?_,?_,?_⟩ ?_;iterate 10 (· simp[Pl.isB,Pl.isF,mJ,KF,AV.pid,hm,hc0,ha,hr,nCA,nCR,nAR,nAC,nRC,nRA,ne1,ne2,ne3,ne4,ne5,ne6])
  simp[hm,hc0,ha,hr,nCA,nCR,nAR,nAC,nRC,nRA,ne1,ne2,ne3,ne4,ne5,ne6];refine bh ?_;constructor<;>simp[hmi,hri,hci,hai,hm,hc0,ha,hr,nCA,nCR,nAR,nAC,nRC,nRA,ne1,ne2,ne3,ne4,ne5,ne6]
 ·exfalso;rw[fM (by simp[bV,gv,Ne.symm e0,Ne.symm e1,Ne.symm e2,Ne.symm e3,Ne.symm e4])] at h0;cases h0
theorem HG (C M A R:Id) (x:It) (Cs:List It) (GL:List (List AV)) (f:List Ft) (d:Nat) (hx: ∀t∈x.ws,1<=t.k/\t.k<=6) (hm:M.isIt=true) (hmd:M.isNw d=false) (ha:A.isIt=false) (had:A.isNw d=false) (hr:R.isIt=false) (hrd:R.isNw d=false) (hc0:C.isIt=false) (hcd:C.isNw d=false) (nCA:C≠A) (nCR:C≠R) (nAR:A≠R) (h0:aX 3 Cs x≠0):
  di Tryz.prog gl 51 d ⟨[bS C M,.agg x.row,.ptr A 0],[(C,bN f),(M,a8 (am Cs)),(A,[.ptr R 1]),(R,nE GL Cs)],[(.b C 0,3),(.b R 0,8)]⟩ ⟨bE (aX 3 Cs x),[(C,bN f),(M,a8 (am Cs)),(A,[.ptr R 1]),(R,nE GL Cs)],[(.b C 0,3),(.b R 0,8)]⟩:=by
 refine t51 rfl ?_;have hmi:=ae hmd;have hri:=ae hrd;have hci:=ae hcd;have hai:=ae had;have ne1:M≠R:=fun e=>by rw[e,hr] at hm;cases hm
 have ne2:R≠M:=fun e=>ne1 e.symm
 have ne3:M≠C:=fun e=>by rw[e,hc0] at hm;cases hm
 have ne4:C≠M:=fun e=>ne3 e.symm
 have ne5:M≠A:=fun e=>by rw[e,ha] at hm;cases hm
 have ne6:A≠M:=fun e=>ne5 e.symm
 have nAC:=nCA.symm;have nRC:=nCR.symm;have nRA:=nAR.symm;unfold bN;generalize List.map Ft.row f=FL at*;by_cases e0:x.nm=mz
 ·have hf:bV 3 x.nm=some ⟨mz,[3],false,1,1,64⟩:=by rw[e0];rfl
  have hc:=bT (C:=Cs) hf rfl rfl rfl (by decide) (by decide) (by decide);rw[hc] at h0 ⊢;have S:=fun h=>zx C.up M.up x (am Cs) 1 64 13 hx hm h h0
  generalize mQ 3 (am Cs) x 1 64=e at*;unfold nE a8 bS bE at*;rw[aw] at*;rw[e0] at*;generalize aI kS (aA (am Cs))=G,ai Cs mz 16=vsRm,ai Cs mA 0=vsRv,ai Cs mB 10=vsFi,ai Cs mE 300=vsCp,ai Cs nh 0=vsRp,ab x.kd=KR,List.map Tk.row x.ws=WR at*;simp only[ar,aW,aP,AV.mp,aY,Pl.mp] at*;clear h0 hc hx hf;unfold mz at*;simp[Cl,hm,hc0,ha,hr,nCA,nCR,nAR,nAC,nRC,nRA,ne1,ne2,ne3,ne4,ne5,ne6];refine .inr (kT ?_);simp[hm,hc0,ha,hr,nCA,nCR,nAR,nAC,nRC,nRA,ne1,ne2,ne3,ne4,ne5,ne6];refine ⟨_,_,S rfl,⟨?_,?_,?_,?_,?_,?_,?_⟩,by simp,rfl,?_⟩;iterate 7 (· simp[hm,hc0,ha,hr,nCA,nCR,nAR,nAC,nRC,nRA,ne1,ne2,ne3,ne4,ne5,ne6])
  intro τ' hb hp;refine fF (σ:=⟨[],_,_⟩) hb hp ?_;refine ⟨rfl,by simp,?_⟩;constructor<;>simp[hmi,hri,hci,hai,hm,hc0,ha,hr,nCA,nCR,nAR,nAC,nRC,nRA,ne1,ne2,ne3,ne4,ne5,ne6]
 by_cases e1:x.nm=mA
 ·have hf:bV 3 x.nm=some ⟨mA,[3],false,1,0,64⟩:=by rw[e1];rfl
  have hc:=bT (C:=Cs) hf rfl rfl rfl (by decide) (by decide) (by decide);rw[hc] at h0 ⊢;have S:=fun h=>zx C.up M.up x (am Cs) 0 64 21 hx hm h h0
  generalize mQ 3 (am Cs) x 0 64=e at*;unfold nE a8 bS bE at*;rw[aw] at*;rw[e1] at*;generalize aI kS (aA (am Cs))=G,ai Cs mz 16=vsRm,ai Cs mA 0=vsRv,ai Cs mB 10=vsFi,ai Cs mE 300=vsCp,ai Cs nh 0=vsRp,ab x.kd=KR,List.map Tk.row x.ws=WR at*;simp only[ar,aW,aP,AV.mp,aY,Pl.mp] at*;clear h0 hc hx hf;unfold mA at*;simp[Cl,hm,hc0,ha,hr,nCA,nCR,nAR,nAC,nRC,nRA,ne1,ne2,ne3,ne4,ne5,ne6];refine .inr (kT ?_);simp[hm,hc0,ha,hr,nCA,nCR,nAR,nAC,nRC,nRA,ne1,ne2,ne3,ne4,ne5,ne6];refine ⟨_,_,S rfl,⟨?_,?_,?_,?_,?_,?_,?_⟩,by simp,rfl,?_⟩;iterate 7 (· simp[hm,hc0,ha,hr,nCA,nCR,nAR,nAC,nRC,nRA,ne1,ne2,ne3,ne4,ne5,ne6])
  intro τ' hb hp;refine fF (σ:=⟨[],_,_⟩) hb hp ?_;refine ⟨rfl,by simp,?_⟩;constructor<;>simp[hmi,hri,hci,hai,hm,hc0,ha,hr,nCA,nCR,nAR,nAC,nRC,nRA,ne1,ne2,ne3,ne4,ne5,ne6]
 by_cases e2:x.nm=mB
 ·have hf:bV 3 x.nm=some ⟨mB,[6],false,1,1,86400⟩:=by rw[e2];rfl
  have hc:=bT (C:=Cs) hf rfl rfl rfl (by decide) (by decide) (by decide);rw[hc] at h0 ⊢;have S:=fun h=>gP C.up M.up x (am Cs) 1 86400 29 hx hm h h0
  generalize mQ 6 (am Cs) x 1 86400=e at*;unfold nE a8 bS bE at*;rw[aw] at*;rw[e2] at*;generalize aI kS (aA (am Cs))=G,ai Cs mz 16=vsRm,ai Cs mA 0=vsRv,ai Cs mB 10=vsFi,ai Cs mE 300=vsCp,ai Cs nh 0=vsRp,ab x.kd=KR,List.map Tk.row x.ws=WR at*;simp only[ar,aW,aP,AV.mp,aY,Pl.mp] at*;clear h0 hc hx hf;unfold mB at*;simp[Cl,hm,hc0,ha,hr,nCA,nCR,nAR,nAC,nRC,nRA,ne1,ne2,ne3,ne4,ne5,ne6];refine .inr (kT ?_);simp[hm,hc0,ha,hr,nCA,nCR,nAR,nAC,nRC,nRA,ne1,ne2,ne3,ne4,ne5,ne6];refine ⟨_,_,S rfl,⟨?_,?_,?_,?_,?_,?_,?_⟩,by simp,rfl,?_⟩;iterate 7 (· simp[hm,hc0,ha,hr,nCA,nCR,nAR,nAC,nRC,nRA,ne1,ne2,ne3,ne4,ne5,ne6])
  intro τ' hb hp;refine fF (σ:=⟨[],_,_⟩) hb hp ?_;refine ⟨rfl,by simp,?_⟩;constructor<;>simp[hmi,hri,hci,hai,hm,hc0,ha,hr,nCA,nCR,nAR,nAC,nRC,nRA,ne1,ne2,ne3,ne4,ne5,ne6]
 by_cases e3:x.nm=mE
 ·have hf:bV 3 x.nm=some ⟨mE,[6],false,1,1,604800⟩:=by rw[e3];rfl
  have hc:=bT (C:=Cs) hf rfl rfl rfl (by decide) (by decide) (by decide);rw[hc] at h0 ⊢;have S:=fun h=>gP C.up M.up x (am Cs) 1 604800 37 hx hm h h0
  generalize mQ 6 (am Cs) x 1 604800=e at*;unfold nE a8 bS bE at*;rw[aw] at*;rw[e3] at*;generalize aI kS (aA (am Cs))=G,ai Cs mz 16=vsRm,ai Cs mA 0=vsRv,ai Cs mB 10=vsFi,ai Cs mE 300=vsCp,ai Cs nh 0=vsRp,ab x.kd=KR,List.map Tk.row x.ws=WR at*;simp only[ar,aW,aP,AV.mp,aY,Pl.mp] at*;clear h0 hc hx hf;unfold mE at*;simp[Cl,hm,hc0,ha,hr,nCA,nCR,nAR,nAC,nRC,nRA,ne1,ne2,ne3,ne4,ne5,ne6];refine .inr (kT ?_);simp[hm,hc0,ha,hr,nCA,nCR,nAR,nAC,nRC,nRA,ne1,ne2,ne3,ne4,ne5,ne6];refine ⟨_,_,S rfl,⟨?_,?_,?_,?_,?_,?_,?_⟩,by simp,rfl,?_⟩;iterate 7 (· simp[hm,hc0,ha,hr,nCA,nCR,nAR,nAC,nRC,nRA,ne1,ne2,ne3,ne4,ne5,ne6])
  intro τ' hb hp;refine fF (σ:=⟨[],_,_⟩) hb hp ?_;refine ⟨rfl,by simp,?_⟩;constructor<;>simp[hmi,hri,hci,hai,hm,hc0,ha,hr,nCA,nCR,nAR,nAC,nRC,nRA,ne1,ne2,ne3,ne4,ne5,ne6]
 by_cases e4:x.nm=nh
 ·have hf:bV 3 x.nm=some ⟨nh,[6],false,1,0,2592000⟩:=by rw[e4];rfl
  have hc:=bT (C:=Cs) hf rfl rfl rfl (by decide) (by decide) (by decide);rw[hc] at h0 ⊢;have S:=fun h=>gP C.up M.up x (am Cs) 0 2592000 45 hx hm h h0
  generalize mQ 6 (am Cs) x 0 2592000=e at*;unfold nE a8 bS bE at*;rw[aw] at*;rw[e4] at*;generalize aI kS (aA (am Cs))=G,ai Cs mz 16=vsRm,ai Cs mA 0=vsRv,ai Cs mB 10=vsFi,ai Cs mE 300=vsCp,ai Cs nh 0=vsRp,ab x.kd=KR,List.map Tk.row x.ws=WR at*;simp only[ar,aW,aP,AV.mp,aY,Pl.mp] at*;clear h0 hc hx hf;unfold nh at*;simp[Cl,hm,hc0,ha,hr,nCA,nCR,nAR,nAC,nRC,nRA,ne1,ne2,ne3,ne4,ne5,ne6];refine .inr (kT ?_);simp[hm,hc0,ha,hr,nCA,nCR,nAR,nAC,nRC,nRA,ne1,ne2,ne3,ne4,ne5,ne6];refine ⟨_,_,S rfl,⟨?_,?_,?_,?_,?_,?_,?_⟩,by simp,rfl,?_⟩;iterate 7 (· simp[hm,hc0,ha,hr,nCA,nCR,nAR,nAC,nRC,nRA,ne1,ne2,ne3,ne4,ne5,ne6])
  intro τ' hb hp;refine fF (σ:=⟨[],_,_⟩) hb hp ?_;refine ⟨rfl,by simp,?_⟩;constructor<;>simp[hmi,hri,hci,hai,hm,hc0,ha,hr,nCA,nCR,nAR,nAC,nRC,nRA,ne1,ne2,ne3,ne4,ne5,ne6]
 ·rw[fM (by simp[bV,gv,Ne.symm e0,Ne.symm e1,Ne.symm e2,Ne.symm e3,Ne.symm e4])];clear h0;have b0:(x.nm==mz)=false:=cH.2 e0;have b1:(x.nm==mA)=false:=cH.2 e1;have b2:(x.nm==mB)=false:=cH.2 e2;have b3:(x.nm==mE)=false:=cH.2 e3;have b4:(x.nm==nh)=false:=cH.2 e4;unfold nE a8 bS bE at*;rw[aw] at*;generalize aI kS (aA (am Cs))=G,ai Cs mz 16=vsRm,ai Cs mA 0=vsRv,ai Cs mB 10=vsFi,ai Cs mE 300=vsCp,ai Cs nh 0=vsRp,x.nm=nm,ab x.kd=KR,List.map Tk.row x.ws=WR at*;simp only[ar,aW,aP,AV.mp,aY,Pl.mp] at*;unfold mz mA mB mE nh at*;simp[Cl,b0,b1,b2,b3,b4];refine ⟨rfl,by simp,?_⟩;constructor<;>simp[hmi,hri,hci,hai,hm,hc0,ha,hr,nCA,nCR,nAR,nAC,nRC,nRA,ne1,ne2,ne3,ne4,ne5,ne6]
theorem Kw (C M R:Id) (x:It) (K K':List (List UInt8)) (f f':List Ft) (cs cs':List AV) (d:Nat) (hC:C.isIt=false) (hCd:C.isNw d=false) (hR:R.isIt=false) (hRd:R.isNw d=false) (hM:M.isIt=true) (hMd:M.isNw d=false) (nCR:C≠R)
  (hid:bm cs=[]) (hid':bm cs'=[])
  (S:C.up.up.isNw 10=false->M.up.up.isNw 10=false->R.up.up.isNw 10=false->ba Tryz.prog gl 28 10 ⟨[.ptr R.up.up 0,bS C.up.up M.up.up,.agg x.row],[(C.up.up,bN f),(M.up.up,a8 K),(R.up.up,cs)],[(.b C.up.up 0,3),(.b R.up.up 6,2),(.b R.up.up 7,7),(.b R.up.up 8,2)]⟩ ⟨.tup [],[(C.up.up,bN f'),(M.up.up,a8 K'),(R.up.up,cs')],[(.b C.up.up 0,3),(.b R.up.up 6,2),(.b R.up.up 7,7),(.b R.up.up 8,2)]⟩):
  ba Tryz.prog gl 44 d ⟨[bS C M,.agg x.row,.fn (1000000000+28) [.ptr R 0]],[(C,bN f),(M,a8 K),(R,cs)],[(.b C 0,3),(.b R 6,2),(.b R 7,7),(.b R 8,2)]⟩ ⟨.tup [],[(C,bN f'),(M,a8 K'),(R,cs')],[(.b C 0,3),(.b R 6,2),(.b R 7,7),(.b R 8,2)]⟩:=by
 refine Lu 1 1 (by decide) (by decide) rfl ?_;have iC:=ae hCd;have iR:=ae hRd;have iM:=ae hMd;have nRC:=nCR.symm;have nMC:M≠C:=fun e=>by rw[e,hC] at hM;cases hM
 have nCM:=nMC.symm;have nMR:M≠R:=fun e=>by rw[e,hR] at hM;cases hM
 have nRM:=nMR.symm;have hmp:=fun g=>aO (f:=g) hid
 have hmp':=fun g=>aO (f:=g) hid'
 have q0:=a7 cs;have q1:=a7 cs';have S:=S rfl rfl rfl;have RN:=qN (.up (.n 3)) (.up (.n 4)) 1;unfold bS bN a8 at*;rw[aw] at*;generalize aI kS (aA K)=G at*;generalize aI kS (aA K')=G',List.map Ft.row f'=FL' at*;generalize List.map Ft.row f=FL,ab x.kd=KR,List.map Tk.row x.ws=WR,x.nm=nm,x.bk=bk,x.pl.1=pl,x.pl.2=pc at*;simp only[ar,aW,aP,AV.mp,aY,Pl.mp,hmp,Jm,iL];simp;rw[gS,zD];simp;refine ⟨⟨[.agg [.ptr C.up 0,.mref M.up],.agg [.str nm,.sl WR,.bool bk,.sl KR,i6 pl,i6 pc],.fn (1000000000+28) [.ptr R.up 0],.ptr (.n 3) 0,.ptr (.n 4) 0,.undef,.fn 74 [.ptr (.n 3) 0,.ptr (.n 4) 0],.undef,.undef,.undef,.undef],[(.n 3,[.ptr C.up 0,.mref M.up]),(.n 4,[.str nm,.sl WR,.bool bk,.sl KR,i6 pl,i6 pc]),(C.up,[.sl FL]),(M.up,[.mpv G]),(R.up,cs)],[(.b C.up 0,3),(.b R.up 6,2),(.b R.up 7,7),(.b R.up 8,2)]⟩,rfl,⟨.tup [],[(.n 3,[.ptr C.up 0,.mref M.up]),(.n 4,[.str nm,.sl WR,.bool bk,.sl KR,i6 pl,i6 pc]),(C.up,[.sl FL']),(M.up,[.mpv G']),(R.up,cs')],[(.b C.up 0,3),(.b R.up 6,2),(.b R.up 7,7),(.b R.up 8,2)]⟩,⟨?_,?_,?_,?_,?_,?_,?_⟩,?_,?_⟩;iterate 7 (· simp[iC,hC,iR,hR,iM,hM,nRC,nCR,nMC,nCM,nMR,nRM,hmp,hmp',hid,hid',q0,q1])
 ·apply ah<;>simp[iC,hC,iR,hR,iM,hM,nRC,nCR,nMC,nCM,nMR,nRM,hmp,hmp',hid,hid',q0,q1]
 ·simp[iC,hC,iR,hR,iM,hM,nRC,nCR,nMC,nCM,nMR,nRM,hmp,hmp',hid,hid',q0,q1];refine aZ _ _ (S) (by constructor<;>simp[iC,hC,iR,hR,iM,hM,nRC,nCR,nMC,nCM,nMR,nRM,hmp,hmp',hid,hid',q0,q1]) ?_
  simp[iC,hC,iR,hR,iM,hM,nRC,nCR,nMC,nCM,nMR,nRM,hmp,hmp',hid,hid',q0,q1];refine ⟨_,_,RN,⟨?_,?_,?_,?_,?_,?_,?_⟩,?_⟩;iterate 7 (· simp[iC,hC,iR,hR,iM,hM,nRC,nCR,nMC,nCM,nMR,nRM,hmp,hmp',hid,hid',q0,q1])
  apply ah<;>simp[iC,hC,iR,hR,iM,hM,nRC,nCR,nMC,nCM,nMR,nRM,hmp,hmp',hid,hid',q0,q1]
theorem Kx (C M R:Id) (x:It) (K K':List (List UInt8)) (f f':List Ft) (cs cs':List AV) (e:Int) (d:Nat) (hC:C.isIt=false) (hCd:C.isNw d=false) (hR:R.isIt=false) (hRd:R.isNw d=false) (hM:M.isIt=true) (hMd:M.isNw d=false) (nCR:C≠R)
  (hid:bm cs=[]) (hid':bm cs'=[]) (hl:f'.length<=10000000)
  (S:C.up.up.isNw 10=false->M.up.up.isNw 10=false->R.up.up.isNw 10=false->di Tryz.prog gl 28 10 ⟨[.ptr R.up.up 0,bS C.up.up M.up.up,.agg x.row],[(C.up.up,bN f),(M.up.up,a8 K),(R.up.up,cs)],[(.b C.up.up 0,3),(.b R.up.up 6,2),(.b R.up.up 7,7),(.b R.up.up 8,2)]⟩ ⟨bE e,[(C.up.up,bN f'),(M.up.up,a8 K'),(R.up.up,cs')],[(.b C.up.up 0,3),(.b R.up.up 6,2),(.b R.up.up 7,7),(.b R.up.up 8,2)]⟩):
  ba Tryz.prog gl 44 d ⟨[bS C M,.agg x.row,.fn (1000000000+28) [.ptr R 0]],[(C,bN f),(M,a8 K),(R,cs)],[(.b C 0,3),(.b R 6,2),(.b R 7,7),(.b R 8,2)]⟩ ⟨.tup [],[(C,bN (f'++[x.ft e])),(M,a8 K'),(R,cs')],[(.b C 0,3),(.b R 6,2),(.b R 7,7),(.b R 8,2)]⟩:=by
 refine Lu 1 1 (by decide) (by decide) rfl ?_;have iC:=ae hCd;have iR:=ae hRd;have iM:=ae hMd;have nRC:=nCR.symm;have nMC:M≠C:=fun e=>by rw[e,hC] at hM;cases hM
 have nCM:=nMC.symm;have nMR:M≠R:=fun e=>by rw[e,hR] at hM;cases hM
 have nRM:=nMR.symm;have hmp:=fun g=>aO (f:=g) hid
 have hmp':=fun g=>aO (f:=g) hid'
 have q0:=a7 cs;have q1:=a7 cs';have S:=S rfl rfl rfl;have RF:=qO (.up (.n 3)) (.up (.n 4)) C.up.up M.up x.nm (x.ws.map Tk.row) (ab x.kd) x.bk x.pl.1 x.pl.2 e f' 1 rfl rfl rfl rfl hC rfl hM (by decide) (by simp) (by simp) hl;rw[show (⟨e,x.pl.1,x.pl.2⟩:Ft)=x.ft e from rfl] at RF;unfold bS bN a8 bE at*;rw[aw] at*;generalize aI kS (aA K)=G at*;generalize aI kS (aA K')=G',List.map Ft.row (f'++[x.ft e])=FL2,List.map Ft.row f'=FL' at*;generalize List.map Ft.row f=FL,ab x.kd=KR,List.map Tk.row x.ws=WR,x.nm=nm,x.bk=bk,x.pl.1=pl,x.pl.2=pc at*;simp only[ar,aW,aP,AV.mp,aY,Pl.mp,hmp,Jm,iL];simp;rw[gS,zD];simp;refine ⟨⟨[.agg [.ptr C.up 0,.mref M.up],.agg [.str nm,.sl WR,.bool bk,.sl KR,i6 pl,i6 pc],.fn (1000000000+28) [.ptr R.up 0],.ptr (.n 3) 0,.ptr (.n 4) 0,.undef,.fn 74 [.ptr (.n 3) 0,.ptr (.n 4) 0],.undef,.undef,.undef,.undef],[(.n 3,[.ptr C.up 0,.mref M.up]),(.n 4,[.str nm,.sl WR,.bool bk,.sl KR,i6 pl,i6 pc]),(C.up,[.sl FL]),(M.up,[.mpv G]),(R.up,cs)],[(.b C.up 0,3),(.b R.up 6,2),(.b R.up 7,7),(.b R.up 8,2)]⟩,rfl,⟨.tup [],[(.n 3,[.ptr C.up 0,.mref M.up]),(.n 4,[.str nm,.sl WR,.bool bk,.sl KR,i6 pl,i6 pc]),(C.up,[.sl FL2]),(M.up,[.mpv G']),(R.up,cs')],[(.b C.up 0,3),(.b R.up 6,2),(.b R.up 7,7),(.b R.up 8,2)]⟩,⟨?_,?_,?_,?_,?_,?_,?_⟩,?_,?_⟩;iterate 7 (· simp[iC,hC,iR,hR,iM,hM,nRC,nCR,nMC,nCM,nMR,nRM,hmp,hmp',hid,hid',q0,q1])
 ·apply ah<;>simp[iC,hC,iR,hR,iM,hM,nRC,nCR,nMC,nCM,nMR,nRM,hmp,hmp',hid,hid',q0,q1]
 ·simp[iC,hC,iR,hR,iM,hM,nRC,nCR,nMC,nCM,nMR,nRM,hmp,hmp',hid,hid',q0,q1];refine bj _ _ (S) (by constructor<;>simp[iC,hC,iR,hR,iM,hM,nRC,nCR,nMC,nCM,nMR,nRM,hmp,hmp',hid,hid',q0,q1]) rfl ?_
  refine ⟨⟨_,_,rfl⟩,_,_,RF,⟨?_,?_,?_,?_,?_,?_,?_⟩,?_⟩;iterate 7 (· simp[iC,hC,iR,hR,iM,hM,nRC,nCR,nMC,nCM,nMR,nRM,hmp,hmp',hid,hid',q0,q1])
  apply ah<;>simp[iC,hC,iR,hR,iM,hM,nRC,nCR,nMC,nCM,nMR,nRM,hmp,hmp',hid,hid',q0,q1]
theorem OJ (C R:Id) (L:List It) (K:Nat->List (List UInt8)) (f:Nat->List Ft) (cs:Nat->List AV) (d:Nat) (hC:C.isIt=false) (hCd:C.isNw d=false) (hR:R.isIt=false) (hRd:R.isNw d=false) (nCR:C≠R)
  (hid: ∀i,bm (cs i)=[]) (hK:K 0=[]) (hlen:L.length<=100000)
  (S: ∀(i:Nat) (h:i<L.length),C.up.isNw 21=false->R.up.isNw 21=false->ba Tryz.prog gl 44 21 ⟨[bS C.up (.it 10),.agg L[i].row,.fn (1000000000+28) [.ptr R.up 0]],[(C.up,bN (f (i))),(.it 10,a8 (K (i))),(R.up,cs (i))],[(.b C.up 0,3),(.b R.up 6,2),(.b R.up 7,7),(.b R.up 8,2)]⟩ ⟨.tup [],[(C.up,bN (f (i+1))),(.it 10,a8 (K (i+1))),(R.up,cs (i+1))],[(.b C.up 0,3),(.b R.up 6,2),(.b R.up 7,7),(.b R.up 8,2)]⟩):
  ba Tryz.prog gl 23 d ⟨[.ptr C 0,.sl (ab L),.fn (1000000000+28) [.ptr R 0]],[(C,bN (f 0)),(R,cs 0)],[(.b C 0,3),(.b R 6,2),(.b R 7,7),(.b R 8,2)]⟩ ⟨.tup [],[(C,bN (f L.length)),(R,cs L.length)],[(.b C 0,3),(.b R 6,2),(.b R 7,7),(.b R 8,2)]⟩:=by
 refine O0 rfl ?_;have iC:=ae hCd;have iR:=ae hRd;have nRC:=nCR.symm;have rl:=bQ L;have rat:=iP L;have r6:=jJ L;have hmp:=fun i g=>aO (f:=g) (hid i)
 have q0:=fun i=>a7 (cs i)
 have hki: ∀K,bm (a8 K)=[]:=fun _=>rfl
 have k0:a8 (K 0)=[.mpv []]:=by rw[hK];rfl
 simp only[ar,aW,aP,AV.mp,aY,Pl.mp,hmp];unfold bN bS at*;simp only[ar,aW,aP,AV.mp,aY,Pl.mp,hmp];generalize ab L=RR at*;simp[NH];refine cP (α:=Nat) (fun i=>⟨[(0,.ptr C.up 0),(2,.fn (1000000000+28) [.ptr R.up 0]),(6,.ptr (.n 6) 0),(12,.sl RR),(13,i6 L.length),(14,i6 i)],[(.n 6,[.ptr C.up 0,.mref (.it 10)]),(C.up,[.sl ((f i).map Ft.row)]),(.it 10,a8 (K i)),(R.up,cs i)],[(.b C.up 0,3),(.b R.up 6,2),(.b R.up 7,7),(.b R.up 8,2)]⟩) (fun i=>i<=L.length) (fun i=>L.length - i) ?_ 0 (jq _) ?_
 ·rintro k i hk h1;by_cases g:i<L.length
  ·have t1:IntKind.i64.wrap ((i:Int)+1)=(i+1:Nat):=by rw[aL]<;>omega
   have g':(i:Int)<L.length:=by omega
   have gR:i<RR.length:=by omega
   have rai:=rat i g gR;have fin:=fun σ' hσ=>hk (i+1) σ' (by omega) (by omega) hσ
   have S:=S i g rfl rfl;have ra6:=r6 RR[i] (xz gR);rw[<-rai] at S;clear hk rat rai r6;obtain ⟨row,hrow⟩: ∃row,row=RR[i]:=⟨_,rfl⟩;rw[<-hrow] at S ra6;have hat: ∀h,RR[i]'h=row:=fun _=>hrow.symm
   have ht:List.take 6 row=row:=List.take_of_length_le (by omega);simp[g,g',gR,rl,hat,ra6,ht,iC,hC,iR,hR,nRC,nCR,hmp,hid,q0,hki];refine aE _ _ (S) (by constructor<;>simp[iC,hC,iR,hR,nRC,nCR,hmp,hid,q0,hki]) ?_
   simp[iC,hC,iR,hR,nRC,nCR,hmp,hid,q0,hki];refine fin _ ?_;apply aC<;>simp[t1,iC,hC,iR,hR,nRC,nCR,hmp,hid,q0,hki]
  ·obtain rfl:i=L.length:=by omega
   clear hk;simp[rl];refine bh ?_;constructor<;>simp[iC,hC,iR,hR,nRC,nCR,hmp,hid,q0,hki]
 ·apply aC<;>simp[rl,k0,iC,hC,iR,hR,nRC,nCR,hmp,hid,q0,hki]
def ni (C:List It):List (List AV):=C.flatMap fun y=>if y.nm=dU then [[i6 y.pl.1,i6 y.pl.2]] else []
def oT (lk:Lk) (n:List UInt8) (C:List It):List AV:=[.str n,.int .u32 (ai C jx 0),i6 (ai C iq 60),i6 (ai C kM 0),i6 (ai C jN 0),i6 (fi C),.sl ((dY C).map Lb.row),.sl ((dy lk C).map Ru.row),.sl (ni C)]
theorem oq (lk:Lk) (n:List UInt8) (C:List It):bm (oT lk n C)=[]:=rfl
def fN (lk:Lk) (x:It) (f:List Ft):List Ft:=if bR x.nm=0 then f else f++((lk (bR x.nm) x.kd).2++cV lk (bR x.nm) x (lk (bR x.nm) x.kd).1)
theorem pz {C:List It} {x:It} (h:x.nm≠kN):fi (C++[x])=fi C:=by
 unfold fi;rw[List.foldl_append];exact if_neg h
theorem Ky {C:List It} {x:It} (h:x.nm=kN):fi (C++[x])=if w0 x.ws=zc then 1 else 2:=by
 unfold fi;rw[List.foldl_append];exact if_pos h
theorem pA {C:List It} {x:It} (h:x.nm≠pt):dY (C++[x])=dY C:=by
 unfold dY;rw[List.flatMap_append,List.flatMap_cons,if_neg h];simp
theorem Kz {C:List It} {x:It} (h:x.nm=pt):dY (C++[x])=dY C++[⟨w0 x.ws,w1 x.ws⟩]:=by
 unfold dY;rw[List.flatMap_append,List.flatMap_cons,if_pos h];rfl
theorem pB (lk:Lk) {C:List It} {x:It} (h:x.nm≠dU):dy lk (C++[x])=dy lk C:=by
 unfold dy;rw[List.flatMap_append,List.flatMap_cons,if_neg h];simp
theorem KA (lk:Lk) {C:List It} {x:It} (h:x.nm=dU):dy lk (C++[x])=dy lk C++[tY lk x]:=by
 unfold dy;rw[List.flatMap_append,List.flatMap_cons,if_pos h];rfl
theorem u7 {C:List It} {x:It} (h:x.nm≠dU):ni (C++[x])=ni C:=by
 unfold ni;rw[List.flatMap_append,List.flatMap_cons,if_neg h];simp
theorem MH {C:List It} {x:It} (h:x.nm=dU):ni (C++[x])=ni C++[[i6 x.pl.1,i6 x.pl.2]]:=by
 unfold ni;rw[List.flatMap_append,List.flatMap_cons,if_pos h];rfl
theorem iQ {α β:Type} (g:α->List β) (h: ∀a,(g a).length<=1): ∀C:List α,(C.flatMap g).length<=C.length
 |[]=>eR _
 |a::C=>by
  rw[List.flatMap_cons,fT,e7]
  have:=h a
  have:=iQ g h C
  omega
theorem Dk (C:List It):(dY C).length<=C.length:=iQ _ (fun y=>by split<;>simp) C
theorem Dm (lk:Lk) (C:List It):(dy lk C).length<=C.length:=iQ _ (fun y=>by split<;>simp) C
theorem MI (C:List It):(ni C).length<=C.length:=iQ _ (fun y=>by split<;>simp) C
theorem MJ (C:List It): ∀r∈ni C,r.length=2:=fun r h=>by
 unfold ni at h;rw[List.mem_flatMap] at h;obtain ⟨y,_,h⟩:=h;split at h
 ·rw[FI] at h;subst h;rfl
 ·cases h
def Ez:pu:=⟨pt,[1,2],false,4,0,0⟩
theorem sy (x:It):cE Ez x=(!x.bk&&(x.ws.map Tk.k==[1,2])):=by
 unfold cE Ez;have e1:(pt==ij)=false:=rfl;have e2:(pt !=dU)=true:=rfl;have e3:(pt !=kN)=true:=rfl
 match x.ws with
 |[]=>simp[iH]
 |[a]=>simp[iH]
 |[a,b]=>simp[iH,e1,e2,e3]
 |_::_::_::_=>simp[iH]
theorem Dn {x:It} (h:cE Ez x=true):x.bk=false/\ ∃a b,x.ws=[a,b]/\a.k=1/\b.k=2:=by
 rw[sy,aJ] at h;refine ⟨by simpa using h.1,?_⟩;have h2:=h.2
 match hw:x.ws with
 |[]=>rw[hw] at h2;simp at h2
 |[a]=>rw[hw] at h2;simp at h2
 |[a,b]=>
  rw[hw] at h2;simp at h2;exact ⟨a,b,rfl,h2.1,h2.2⟩
 |_::_::_::_=>rw[hw] at h2;simp at h2
end Go.Ai
