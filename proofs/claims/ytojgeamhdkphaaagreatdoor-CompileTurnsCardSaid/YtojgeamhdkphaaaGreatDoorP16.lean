/- P16: a part of the proof. Conditions: as each theorem says. -/
import Derived.Test.YtojgeamhdkphaaaGreatDoorP15
set_option maxHeartbeats 4000000
set_option linter.unusedSimpArgs false
set_option linter.unusedVariables false
set_option maxRecDepth 20000
namespace Go.Ai
open Go.Proofs
theorem KE (C M A R:Id) (x:It) (K K':List (List UInt8)) (f f':List Ft) (cs cs':List AV) (d:Nat) (hC:C.isIt=false) (hCd:C.isNw d=false) (hA:A.isIt=false) (hAd:A.isNw d=false) (hR:R.isIt=false) (hRd:R.isNw d=false) (hM:M.isIt=true) (hMd:M.isNw d=false) (nCA:C≠A) (nCR:C≠R) (nAR:A≠R)
  (hid:bm cs=[]) (hid':bm cs'=[])
  (S:C.up.up.isNw 10=false->M.up.up.isNw 10=false->A.up.up.isNw 10=false->R.up.up.isNw 10=false->ba Tryz.prog gl 24 10 ⟨[bS C.up.up M.up.up,.agg x.row,.ptr A.up.up 0,.ptr R.up.up 0],[(C.up.up,bN f),(M.up.up,a8 K),(A.up.up,[.ptr C.up.up 0]),(R.up.up,cs)],[(.b C.up.up 0,3),(.b R.up.up 0,8)]⟩ ⟨.tup [],[(C.up.up,bN f'),(M.up.up,a8 K'),(A.up.up,[.ptr C.up.up 0]),(R.up.up,cs')],[(.b C.up.up 0,3),(.b R.up.up 0,8)]⟩):
  ba Tryz.prog gl 44 d ⟨[bS C M,.agg x.row,.fn (24) [.ptr A 0,.ptr R 0]],[(C,bN f),(M,a8 K),(A,[.ptr C 0]),(R,cs)],[(.b C 0,3),(.b R 0,8)]⟩ ⟨.tup [],[(C,bN f'),(M,a8 K'),(A,[.ptr C 0]),(R,cs')],[(.b C 0,3),(.b R 0,8)]⟩:=by
 refine Lu 1 1 (by decide) (by decide) rfl ?_;have iC:=ae hCd;have iA:=ae hAd;have iR:=ae hRd;have iM:=ae hMd;have nAC:=nCA.symm;have nRC:=nCR.symm;have nRA:=nAR.symm;have nMC:M≠C:=fun e=>by rw[e,hC] at hM;cases hM
 have nCM:=nMC.symm;have nMA:M≠A:=fun e=>by rw[e,hA] at hM;cases hM
 have nAM:=nMA.symm;have nMR:M≠R:=fun e=>by rw[e,hR] at hM;cases hM
 have nRM:=nMR.symm;have hmp:=fun g=>aO (f:=g) hid
 have hmp':=fun g=>aO (f:=g) hid'
 have q0:=a7 cs;have q1:=a7 cs';have S:=S rfl rfl rfl rfl;have RN:=qN (.up (.n 3)) (.up (.n 4)) 1;unfold bS bN a8 at*;rw[aw] at*;generalize aI kS (aA K)=G at*;generalize aI kS (aA K')=G',List.map Ft.row f'=FL' at*;generalize List.map Ft.row f=FL,ab x.kd=KR,List.map Tk.row x.ws=WR,x.nm=nm,x.bk=bk,x.pl.1=pl,x.pl.2=pc at*;simp only[ar,aW,aP,AV.mp,aY,Pl.mp,hmp,Jm,iL];simp;rw[gS,zD];simp;refine ⟨⟨[.agg [.ptr C.up 0,.mref M.up],.agg [.str nm,.sl WR,.bool bk,.sl KR,i6 pl,i6 pc],.fn (24) [.ptr A.up 0,.ptr R.up 0],.ptr (.n 3) 0,.ptr (.n 4) 0,.undef,.fn 74 [.ptr (.n 3) 0,.ptr (.n 4) 0],.undef,.undef,.undef,.undef],[(.n 3,[.ptr C.up 0,.mref M.up]),(.n 4,[.str nm,.sl WR,.bool bk,.sl KR,i6 pl,i6 pc]),(C.up,[.sl FL]),(M.up,[.mpv G]),(A.up,[.ptr C.up 0]),(R.up,cs)],[(.b C.up 0,3),(.b R.up 0,8)]⟩,rfl,⟨.tup [],[(.n 3,[.ptr C.up 0,.mref M.up]),(.n 4,[.str nm,.sl WR,.bool bk,.sl KR,i6 pl,i6 pc]),(C.up,[.sl FL']),(M.up,[.mpv G']),(A.up,[.ptr C.up 0]),(R.up,cs')],[(.b C.up 0,3),(.b R.up 0,8)]⟩,⟨?_,?_,?_,?_,?_,?_,?_⟩,?_,?_⟩;iterate 7 (· simp[iC,hC,iA,hA,iR,hR,iM,hM,nAC,nCA,nRC,nCR,nRA,nAR,nMC,nCM,nMA,nAM,nMR,nRM,hmp,hmp',hid,hid',q0,q1])
 ·apply ah<;>simp[iC,hC,iA,hA,iR,hR,iM,hM,nAC,nCA,nRC,nCR,nRA,nAR,nMC,nCM,nMA,nAM,nMR,nRM,hmp,hmp',hid,hid',q0,q1]
 ·simp[iC,hC,iA,hA,iR,hR,iM,hM,nAC,nCA,nRC,nCR,nRA,nAR,nMC,nCM,nMA,nAM,nMR,nRM,hmp,hmp',hid,hid',q0,q1];refine aZ _ _ (S) (by constructor<;>simp[iC,hC,iA,hA,iR,hR,iM,hM,nAC,nCA,nRC,nCR,nRA,nAR,nMC,nCM,nMA,nAM,nMR,nRM,hmp,hmp',hid,hid',q0,q1]) ?_
  simp[iC,hC,iA,hA,iR,hR,iM,hM,nAC,nCA,nRC,nCR,nRA,nAR,nMC,nCM,nMA,nAM,nMR,nRM,hmp,hmp',hid,hid',q0,q1];refine ⟨_,_,RN,⟨?_,?_,?_,?_,?_,?_,?_⟩,?_⟩;iterate 7 (· simp[iC,hC,iA,hA,iR,hR,iM,hM,nAC,nCA,nRC,nCR,nRA,nAR,nMC,nCM,nMA,nAM,nMR,nRM,hmp,hmp',hid,hid',q0,q1])
  apply ah<;>simp[iC,hC,iA,hA,iR,hR,iM,hM,nAC,nCA,nRC,nCR,nRA,nAR,nMC,nCM,nMA,nAM,nMR,nRM,hmp,hmp',hid,hid',q0,q1]
theorem KG (C M A R:Id) (x:It) (K K':List (List UInt8)) (f f':List Ft) (cs cs':List AV) (e:Int) (d:Nat) (hC:C.isIt=false) (hCd:C.isNw d=false) (hA:A.isIt=false) (hAd:A.isNw d=false) (hR:R.isIt=false) (hRd:R.isNw d=false) (hM:M.isIt=true) (hMd:M.isNw d=false) (nCA:C≠A) (nCR:C≠R) (nAR:A≠R)
  (hid:bm cs=[]) (hid':bm cs'=[]) (hl:f'.length<=10000000)
  (S:C.up.up.isNw 10=false->M.up.up.isNw 10=false->A.up.up.isNw 10=false->R.up.up.isNw 10=false->di Tryz.prog gl 24 10 ⟨[bS C.up.up M.up.up,.agg x.row,.ptr A.up.up 0,.ptr R.up.up 0],[(C.up.up,bN f),(M.up.up,a8 K),(A.up.up,[.ptr C.up.up 0]),(R.up.up,cs)],[(.b C.up.up 0,3),(.b R.up.up 0,8)]⟩ ⟨bE e,[(C.up.up,bN f'),(M.up.up,a8 K'),(A.up.up,[.ptr C.up.up 0]),(R.up.up,cs')],[(.b C.up.up 0,3),(.b R.up.up 0,8)]⟩):
  ba Tryz.prog gl 44 d ⟨[bS C M,.agg x.row,.fn (24) [.ptr A 0,.ptr R 0]],[(C,bN f),(M,a8 K),(A,[.ptr C 0]),(R,cs)],[(.b C 0,3),(.b R 0,8)]⟩ ⟨.tup [],[(C,bN (f'++[x.ft e])),(M,a8 K'),(A,[.ptr C 0]),(R,cs')],[(.b C 0,3),(.b R 0,8)]⟩:=by
 refine Lu 1 1 (by decide) (by decide) rfl ?_;have iC:=ae hCd;have iA:=ae hAd;have iR:=ae hRd;have iM:=ae hMd;have nAC:=nCA.symm;have nRC:=nCR.symm;have nRA:=nAR.symm;have nMC:M≠C:=fun e=>by rw[e,hC] at hM;cases hM
 have nCM:=nMC.symm;have nMA:M≠A:=fun e=>by rw[e,hA] at hM;cases hM
 have nAM:=nMA.symm;have nMR:M≠R:=fun e=>by rw[e,hR] at hM;cases hM
 have nRM:=nMR.symm;have hmp:=fun g=>aO (f:=g) hid
 have hmp':=fun g=>aO (f:=g) hid'
 have q0:=a7 cs;have q1:=a7 cs';have S:=S rfl rfl rfl rfl;have RF:=qO (.up (.n 3)) (.up (.n 4)) C.up.up M.up x.nm (x.ws.map Tk.row) (ab x.kd) x.bk x.pl.1 x.pl.2 e f' 1 rfl rfl rfl rfl hC rfl hM (by decide) (by simp) (by simp) hl;rw[show (⟨e,x.pl.1,x.pl.2⟩:Ft)=x.ft e from rfl] at RF;unfold bS bN a8 bE at*;rw[aw] at*;generalize aI kS (aA K)=G at*;generalize aI kS (aA K')=G',List.map Ft.row (f'++[x.ft e])=FL2,List.map Ft.row f'=FL' at*;generalize List.map Ft.row f=FL,ab x.kd=KR,List.map Tk.row x.ws=WR,x.nm=nm,x.bk=bk,x.pl.1=pl,x.pl.2=pc at*;simp only[ar,aW,aP,AV.mp,aY,Pl.mp,hmp,Jm,iL];simp;rw[gS,zD];simp;refine ⟨⟨[.agg [.ptr C.up 0,.mref M.up],.agg [.str nm,.sl WR,.bool bk,.sl KR,i6 pl,i6 pc],.fn (24) [.ptr A.up 0,.ptr R.up 0],.ptr (.n 3) 0,.ptr (.n 4) 0,.undef,.fn 74 [.ptr (.n 3) 0,.ptr (.n 4) 0],.undef,.undef,.undef,.undef],[(.n 3,[.ptr C.up 0,.mref M.up]),(.n 4,[.str nm,.sl WR,.bool bk,.sl KR,i6 pl,i6 pc]),(C.up,[.sl FL]),(M.up,[.mpv G]),(A.up,[.ptr C.up 0]),(R.up,cs)],[(.b C.up 0,3),(.b R.up 0,8)]⟩,rfl,⟨.tup [],[(.n 3,[.ptr C.up 0,.mref M.up]),(.n 4,[.str nm,.sl WR,.bool bk,.sl KR,i6 pl,i6 pc]),(C.up,[.sl FL2]),(M.up,[.mpv G']),(A.up,[.ptr C.up 0]),(R.up,cs')],[(.b C.up 0,3),(.b R.up 0,8)]⟩,⟨?_,?_,?_,?_,?_,?_,?_⟩,?_,?_⟩;iterate 7 (· simp[iC,hC,iA,hA,iR,hR,iM,hM,nAC,nCA,nRC,nCR,nRA,nAR,nMC,nCM,nMA,nAM,nMR,nRM,hmp,hmp',hid,hid',q0,q1])
 ·apply ah<;>simp[iC,hC,iA,hA,iR,hR,iM,hM,nAC,nCA,nRC,nCR,nRA,nAR,nMC,nCM,nMA,nAM,nMR,nRM,hmp,hmp',hid,hid',q0,q1]
 ·simp[iC,hC,iA,hA,iR,hR,iM,hM,nAC,nCA,nRC,nCR,nRA,nAR,nMC,nCM,nMA,nAM,nMR,nRM,hmp,hmp',hid,hid',q0,q1];refine bj _ _ (S) (by constructor<;>simp[iC,hC,iA,hA,iR,hR,iM,hM,nAC,nCA,nRC,nCR,nRA,nAR,nMC,nCM,nMA,nAM,nMR,nRM,hmp,hmp',hid,hid',q0,q1]) rfl ?_
  refine ⟨⟨_,_,rfl⟩,_,_,RF,⟨?_,?_,?_,?_,?_,?_,?_⟩,?_⟩;iterate 7 (· simp[iC,hC,iA,hA,iR,hR,iM,hM,nAC,nCA,nRC,nCR,nRA,nAR,nMC,nCM,nMA,nAM,nMR,nRM,hmp,hmp',hid,hid',q0,q1])
  apply ah<;>simp[iC,hC,iA,hA,iR,hR,iM,hM,nAC,nCA,nRC,nCR,nRA,nAR,nMC,nCM,nMA,nAM,nMR,nRM,hmp,hmp',hid,hid',q0,q1]
theorem OK (C A R:Id) (L:List It) (K:Nat->List (List UInt8)) (f:Nat->List Ft) (cs:Nat->List AV) (d:Nat) (hC:C.isIt=false) (hCd:C.isNw d=false) (hA:A.isIt=false) (hAd:A.isNw d=false) (hR:R.isIt=false) (hRd:R.isNw d=false) (nCA:C≠A) (nCR:C≠R) (nAR:A≠R)
  (hid: ∀i,bm (cs i)=[]) (hK:K 0=[]) (hlen:L.length<=100000)
  (S: ∀(i:Nat) (h:i<L.length),C.up.isNw 21=false->A.up.isNw 21=false->R.up.isNw 21=false->ba Tryz.prog gl 44 21 ⟨[bS C.up (.it 10),.agg L[i].row,.fn (24) [.ptr A.up 0,.ptr R.up 0]],[(C.up,bN (f (i))),(.it 10,a8 (K (i))),(A.up,[.ptr C.up 0]),(R.up,cs (i))],[(.b C.up 0,3),(.b R.up 0,8)]⟩ ⟨.tup [],[(C.up,bN (f (i+1))),(.it 10,a8 (K (i+1))),(A.up,[.ptr C.up 0]),(R.up,cs (i+1))],[(.b C.up 0,3),(.b R.up 0,8)]⟩):
  ba Tryz.prog gl 23 d ⟨[.ptr C 0,.sl (ab L),.fn (24) [.ptr A 0,.ptr R 0]],[(C,bN (f 0)),(A,[.ptr C 0]),(R,cs 0)],[(.b C 0,3),(.b R 0,8)]⟩ ⟨.tup [],[(C,bN (f L.length)),(A,[.ptr C 0]),(R,cs L.length)],[(.b C 0,3),(.b R 0,8)]⟩:=by
 refine O0 rfl ?_;have iC:=ae hCd;have iA:=ae hAd;have iR:=ae hRd;have nAC:=nCA.symm;have nRC:=nCR.symm;have nRA:=nAR.symm;have rl:=bQ L;have rat:=iP L;have r6:=jJ L;have hmp:=fun i g=>aO (f:=g) (hid i)
 have q0:=fun i=>a7 (cs i)
 have hki: ∀K,bm (a8 K)=[]:=fun _=>rfl
 have k0:a8 (K 0)=[.mpv []]:=by rw[hK];rfl
 simp only[ar,aW,aP,AV.mp,aY,Pl.mp,hmp];unfold bN bS at*;simp only[ar,aW,aP,AV.mp,aY,Pl.mp,hmp];generalize ab L=RR at*;simp[NH];refine cP (α:=Nat) (fun i=>⟨[(0,.ptr C.up 0),(2,.fn (24) [.ptr A.up 0,.ptr R.up 0]),(6,.ptr (.n 6) 0),(12,.sl RR),(13,i6 L.length),(14,i6 i)],[(.n 6,[.ptr C.up 0,.mref (.it 10)]),(C.up,[.sl ((f i).map Ft.row)]),(.it 10,a8 (K i)),(A.up,[.ptr C.up 0]),(R.up,cs i)],[(.b C.up 0,3),(.b R.up 0,8)]⟩) (fun i=>i<=L.length) (fun i=>L.length - i) ?_ 0 (jq _) ?_
 ·rintro k i hk h1;by_cases g:i<L.length
  ·have t1:IntKind.i64.wrap ((i:Int)+1)=(i+1:Nat):=by rw[aL]<;>omega
   have g':(i:Int)<L.length:=by omega
   have gR:i<RR.length:=by omega
   have rai:=rat i g gR;have fin:=fun σ' hσ=>hk (i+1) σ' (by omega) (by omega) hσ
   have S:=S i g rfl rfl rfl;have ra6:=r6 RR[i] (xz gR);rw[<-rai] at S;clear hk rat rai r6;obtain ⟨row,hrow⟩: ∃row,row=RR[i]:=⟨_,rfl⟩;rw[<-hrow] at S ra6;have hat: ∀h,RR[i]'h=row:=fun _=>hrow.symm
   have ht:List.take 6 row=row:=List.take_of_length_le (by omega);simp[g,g',gR,rl,hat,ra6,ht,iC,hC,iA,hA,iR,hR,nAC,nCA,nRC,nCR,nRA,nAR,hmp,hid,q0,hki];refine aE _ _ (S) (by constructor<;>simp[iC,hC,iA,hA,iR,hR,nAC,nCA,nRC,nCR,nRA,nAR,hmp,hid,q0,hki]) ?_
   simp[iC,hC,iA,hA,iR,hR,nAC,nCA,nRC,nCR,nRA,nAR,hmp,hid,q0,hki];refine fin _ ?_;apply aC<;>simp[t1,iC,hC,iA,hA,iR,hR,nAC,nCA,nRC,nCR,nRA,nAR,hmp,hid,q0,hki]
  ·obtain rfl:i=L.length:=by omega
   clear hk;simp[rl];refine bh ?_;constructor<;>simp[iC,hC,iA,hA,iR,hR,nAC,nCA,nRC,nCR,nRA,nAR,hmp,hid,q0,hki]
 ·apply aC<;>simp[rl,k0,iC,hC,iA,hA,iR,hR,nAC,nCA,nRC,nCR,nRA,nAR,hmp,hid,q0,hki]
def BN (lk:Lk) (g:Nat) (y:It):Prop:=ai (lk 2 y.kd).1 j8 0%g≠0\/ai (lk 2 y.kd).1 j9 0%g≠0
instance (lk:Lk) (g:Nat) (y:It):Decidable (BN lk g y):=inferInstanceAs (Decidable (_\/_))
def kn (lk:Lk) (g:Nat) (A:List It):List Ft:=A.flatMap fun y=>if BN lk g y then [y.ft 8] else []
theorem vb (lk:Lk) (g:Nat) (A:List It) (y:It):kn lk g (A++[y])=kn lk g A++(if BN lk g y then [y.ft 8] else []):=by
 unfold kn;rw[List.flatMap_append,List.flatMap_cons,List.flatMap_nil,xJ]
theorem HI (lk:Lk) (g:Nat) (A:List It):(kn lk g A).length<=A.length:=iQ _ (fun y=>by split<;>simp) A
def NE (n:List UInt8) (t g a o:Nat) (vc:Int) (VL:List (List AV)) (lk:Lk) (A:List It):List AV:=[.str n,.int .u32 t,i6 g,i6 a,i6 o,i6 vc,.sl VL,.sl (A.map fun y=>(tY lk y).row),.sl (A.map fun y=>[i6 y.pl.1,i6 y.pl.2])]
theorem wK (C R:Id) (A:List It) (lk:Lk) (l c:Int) (f:List Ft) (n:List UInt8) (t g a o:Nat) (vc:Int) (VL:List (List AV)) (d:Nat) (hg:g≠0) (hf:f.length<=2000000) (hA:A.length<=100000)
  (hC:C.isIt=false) (hCd:C.isNw d=false) (hR:R.isIt=false) (hRd:R.isNw d=false) (nCR:C≠R):
  ba Tryz.prog gl 29 d ⟨[.ptr R 0,.ptr C 0,.agg [i6 l,i6 c]],[(C,bN f),(R,NE n t g a o vc VL lk A)],[(.b C 0,3),(.b R 6,2),(.b R 7,7),(.b R 8,2)]⟩
   ⟨.tup [],[(C,bN (f++((if t=0\/A=[] then [⟨6,l,c⟩] else [])++(kn lk g A++if o%g≠0 then [⟨8,l,c⟩] else [])))),(R,NE n t g a o vc VL lk A)],[(.b C 0,3),(.b R 6,2),(.b R 7,7),(.b R 8,2)]⟩:=by
 refine Uw rfl ?_;have iC:=ae hCd;have iR:=ae hRd;have nRC:=nCR.symm;have hg':((g:Int))≠0:=by omega
 have SY:=fun e l c f D h hl=>gD C.up e l c f D hC h hl
 have hne: ∀k:Nat,(((k:Int))==0)=decide (k=0):=fun k=>by
  by_cases h:k=0
  ·rw[h];rfl
  ·rw[lm h,cH];omega
 have hmo: ∀k:Nat,((k:Int).tmod (g:Int)!=0)=decide (k%g≠0):=fun k=>by
  rw[Hn];by_cases h:k%g=0
  ·rw[h];rfl
  ·rw[mI h,bne_iff_ne];omega
 obtain ⟨F0,hF0⟩: ∃F0,F0=f++(if t=0\/A=[] then [⟨6,l,c⟩] else []):=⟨_,rfl⟩;have hF0l:F0.length<=2000001:=by
  rw[hF0,fT];split
  ·simp;omega
  ·simp;omega
 have hout:f++((if t=0\/A=[] then [⟨6,l,c⟩] else [])++(kn lk g A++if o%g≠0 then [⟨8,l,c⟩] else []))=(F0++kn lk g A)++(if o%g≠0 then [⟨8,l,c⟩] else []):=by rw[hF0];simp
 rw[hout];have rl:(A.map fun y=>(tY lk y).row).length=A.length:=tN _;have al:(A.map fun y=>[i6 y.pl.1,i6 y.pl.2]).length=A.length:=tN _;have rat: ∀(i:Nat) (h:i<A.length) (h2:i<(A.map fun y=>(tY lk y).row).length),(A.map fun y=>(tY lk y).row)[i]=(tY lk A[i]).row:=fun i h h2=>List.getElem_map _
 have aat: ∀(i:Nat) (h:i<A.length) (h2:i<(A.map fun y=>[i6 y.pl.1,i6 y.pl.2]).length),(A.map fun y=>[i6 y.pl.1,i6 y.pl.2])[i]=[i6 A[i].pl.1,i6 A[i].pl.2]:=fun i h h2=>List.getElem_map _
 unfold NE bN at*;generalize (A.map fun y=>(tY lk y).row)=RR,(A.map fun y=>[i6 y.pl.1,i6 y.pl.2])=AA at*;have hRl0:(RR.length:Int)=A.length:=by rw[rl]
 simp only[ar,aW,aP,AV.mp,aY,Pl.mp] at*;have zt:=hne t;have zA:=hne A.length;have S6:=SY 6 l c f 25;have hs0: ∀(_:t=0\/A=[]),List.map Ft.row (f++[⟨6,l,c⟩])=List.map Ft.row F0:=fun h=>by rw[hF0,if_pos h]
 have hs1: ∀(_: ¬(t=0\/A=[])),List.map Ft.row f=List.map Ft.row F0:=fun h=>by rw[hF0,if_neg h,xJ]
 have S6:=fun h=>S6 h (by omega)
 have cases3:t=0\/(t≠0/\A.length=0)\/(t≠0/\A.length≠0):=by omega
 obtain ⟨FT,hFT⟩: ∃FT:Nat->List (List AV),∀i,FT i=List.map Ft.row (F0++kn lk g (A.take i)):=⟨fun i=>_,fun i=>rfl⟩;have h00:List.map Ft.row F0=FT 0:=by rw[hFT];simp[kn]
 obtain ⟨FE,hFE⟩: ∃FE,FE=List.map Ft.row ((F0++kn lk g A)++(if o%g≠0 then [⟨8,l,c⟩] else [])):=⟨_,rfl⟩;rw[<-hFE];have hFl: ∀i,(F0++kn lk g (A.take i)).length<=10000000:=fun i=>by
  rw[fT]
  have:=HI lk g (A.take i)
  have:=List.length_take_le' i A
  omega
 have hE8:o%g≠0->List.map Ft.row ((F0++kn lk g A)++[⟨8,l,c⟩])=FE:=fun h=>by rw[hFE,if_pos h]
 have hE0: ¬o%g≠0->FT A.length=FE:=fun h=>by rw[hFE,if_neg h,xJ,hFT,tJ]
 have S8:=fun h=>SY 8 l c (F0++kn lk g A) 81 h (by have:=hFl A.length;rwa [tJ] at this)
 have hFA:List.map Ft.row (F0++kn lk g A)=FT A.length:=by rw[hFT,tJ]
 rw[hFA] at S8;have ST:=fun i l c h=>SY 8 l c (F0++kn lk g (A.take i)) 65 h (hFl i)
 have nx8: ∀i (h:i<A.length),BN lk g A[i]->List.map Ft.row ((F0++kn lk g (A.take i))++[⟨8,A[i].pl.1,A[i].pl.2⟩])=FT (i+1):=fun i h hb=>by
  rw[hFT,Jo h,vb,if_pos hb,<-xv];rfl
 have nx0: ∀i (h:i<A.length),¬BN lk g A[i]->FT i=FT (i+1):=fun i h hb=>by
  rw[hFT,hFT,Jo h,vb,if_neg hb,xJ]
 simp only[<-hFT] at ST;rcases cases3 with z|⟨z,z2⟩|⟨z,z2⟩
 case' inl=>
  have z':((t:Int)==0)=true:=by rw[zt,z];rfl
  simp only[hs0 (.inl z),h00] at S6;simp[O1,hC,hR,nCR,nRC,z',hRl0,zA];refine aE _ _ (S6 rfl) (by constructor<;>simp[hC,hR,nCR,nRC]) ?_
  simp[hC,hR,nCR,nRC,hRl0]
 case' inr.inl=>
  have z':((t:Int)==0)=false:=by rw[zt];simpa using z
  have z2':((A.length:Int)==0)=true:=by rw[zA,z2];rfl
  simp only[hs0 (.inr (List.length_eq_zero_iff.1 z2)),h00] at S6;simp[O1,hC,hR,nCR,nRC,z',hRl0,z2'];refine aE _ _ (S6 rfl) (by constructor<;>simp[hC,hR,nCR,nRC]) ?_
  simp[hC,hR,nCR,nRC,hRl0]
 case' inr.inr=>
  have z':((t:Int)==0)=false:=by rw[zt];simpa using z
  have z2':((A.length:Int)==0)=false:=by rw[zA];simpa using z2
  rw[hs1 (by
   rintro (h|h)
   ·exact z h
   ·rw[h] at z2;exact z2 rfl),h00]
  simp[O1,hC,hR,nCR,nRC,z',hRl0,z2']
 all_goals
  clear hs0 hs1 hFT hFE z z' S6 hF0l hFl hFA SY hne hout;refine cP (α:=Nat) (fun i=>⟨[(0,.ptr R.up 0),(1,.ptr C.up 0),(5,.ptr (.n 5) 0),(30,.sl RR),(31,i6 A.length),(32,i6 i)],[(.n 5,[i6 l,i6 c]),(C.up,[.sl (FT i)]),(R.up,[.str n,.int .u32 t,i6 g,i6 a,i6 o,i6 vc,.sl VL,.sl RR,.sl AA])],[(.b C.up 0,3),(.b R.up 6,2),(.b R.up 7,7),(.b R.up 8,2)]⟩) (fun i=>i<=A.length) (fun i=>A.length - i) ?_ 0 (jq _) ?_
  ·rintro k i hk h1;by_cases gi:i<A.length
   ·have t1:IntKind.i64.wrap ((i:Int)+1)=(i+1:Nat):=by rw[aL]<;>omega
    have g':(i:Int)<A.length:=by omega
    have gR:i<RR.length:=by omega
    have gA:i<AA.length:=by omega
    have rai:=rat i gi gR;have aai:=aat i gi gA;have fin:=fun σ' hσ=>hk (i+1) σ' (by omega) (by omega) hσ
    have nx8:=nx8 i gi;have nx0:=nx0 i gi;unfold BN at nx8 nx0;have ST:=fun h=>ST i A[i].pl.1 A[i].pl.2 h
    have e1:=hmo (ai (lk 2 A[i].kd).1 j8 0);have e2:=hmo (ai (lk 2 A[i].kd).1 j9 0);have hrow:(tY lk A[i]).row=[.str (w0 A[i].ws),.bool (w1 A[i].ws==wv),i6 (ai (lk 2 A[i].kd).1 j8 0),i6 (ai (lk 2 A[i].kd).1 j9 0),u (ai (lk 2 A[i].kd).1 ij 0),i6 (ai (lk 2 A[i].kd).1 nf 0),i6 (ai (lk 2 A[i].kd).1 ng 0)]:=rfl;rw[hrow] at rai;clear hrow hk rat aat hmo hE8 hE0 S8;generalize ai (lk 2 A[i].kd).1 j8 0=vl,ai (lk 2 A[i].kd).1 j9 0=vs,ai (lk 2 A[i].kd).1 ij 0=vf,ai (lk 2 A[i].kd).1 nf 0=vo,ai (lk 2 A[i].kd).1 ng 0=ve,w0 A[i].ws=wa,(w1 A[i].ws==wv)=wb,A[i].pl.1=pl,A[i].pl.2=pc at*;by_cases b1:vl%g≠0
    ·rw[nx8 (.inl b1)] at ST;rw[mI b1] at e1;simp[gi,g',gR,gA,rl,al,rai,aai,hC,hR,nCR,nRC,hg,hg',e1];refine aE _ _ (ST rfl) (by constructor<;>simp[hC,hR,nCR,nRC]) ?_
     simp[hC,hR,nCR,nRC];refine fin _ ?_;apply aC<;>simp[t1,hC,hR,nCR,nRC]
    rw[lm b1] at e1;by_cases b2:vs%g≠0
    ·rw[nx8 (.inr b2)] at ST;rw[mI b2] at e2;simp[gi,g',gR,gA,rl,al,rai,aai,hC,hR,nCR,nRC,hg,hg',e1,e2];refine aE _ _ (ST rfl) (by constructor<;>simp[hC,hR,nCR,nRC]) ?_
     simp[hC,hR,nCR,nRC];refine fin _ ?_;apply aC<;>simp[t1,hC,hR,nCR,nRC]
    rw[lm b2] at e2;have nx0:=nx0 (fun h=>h.elim b1 b2);simp[gi,g',gR,gA,rl,al,rai,aai,hC,hR,nCR,nRC,hg,hg',e1,e2];refine fin _ ?_;apply aC<;>simp[t1,hC,hR,nCR,nRC,nx0]
   ·obtain rfl:i=A.length:=by omega
    have e1:=hmo o;clear hk rat aat hmo nx8 nx0 ST;by_cases b1:o%g≠0
    ·rw[hE8 b1] at S8;rw[mI b1] at e1;simp[hC,hR,nCR,nRC,hg,hg',e1];refine aE _ _ (S8 rfl) (by constructor<;>simp[hC,hR,nCR,nRC]) ?_
     simp[hC,hR,nCR,nRC];refine bh ?_;constructor<;>simp[iC,iR,hC,hR,nCR,nRC]
    ·have hE0:=hE0 b1;rw[lm b1] at e1;simp[hC,hR,nCR,nRC,hg,hg',e1];refine bh ?_;constructor<;>simp[iC,iR,hC,hR,nCR,nRC,hE0]
  ·apply aC<;>simp[hC,hR,nCR,nRC,hRl0]
theorem HJ (lk:Lk) {C:List It} {x:It} (h:x.nm≠mg):b9 lk (C++[x])=b9 lk C:=by
 unfold b9;rw[List.flatMap_append,List.flatMap_cons,if_neg h];simp
theorem EE (lk:Lk) {C:List It} {x:It} (h:x.nm=mg):b9 lk (C++[x])=b9 lk C++[li lk x]:=by
 unfold b9;rw[List.flatMap_append,List.flatMap_cons,if_pos h];rfl
theorem KH (lk:Lk) {C:List It} {x:It} (h:x.nm=mg):lQ lk (C++[x])=lQ lk C:=by
 unfold lQ;rw[List.foldl_append];exact if_pos h
theorem MN (lk:Lk) {C:List It} {x:It} (h:x.nm≠mg):lQ lk (C++[x])=(lk 3 x.kd).1:=by
 unfold lQ;rw[List.foldl_append];exact if_neg h
theorem vd (lk:Lk) (C:List It):(b9 lk C).length<=C.length:=iQ _ (fun y=>by split<;>simp) C
theorem Dr (lk:Lk): ∀(C n:List It),jk 0 C->gx C tX=false->C.foldl (fun n y=>if y.nm=mg then n else (lk 3 y.kd).1) n=n
 |[],n,_,_=>rfl
 |y::C,n,hi,hh=>by
  unfold gx at hh;rw[List.any_cons,Bool.or_eq_false_iff] at hh;have hy:y.nm=mg:=by
   obtain ⟨p,hp,-⟩:=hi y (by simp);obtain ⟨hm,hn⟩:=iu hp;have h0: ∀p∈gv 0,p.nm=mg\/p.nm=tX:=by decide
   rcases h0 p hm with e|e
   ·rw[<-hn,e]
   ·rw[<-hn,e] at hh;exact absurd hh.1 (by decide)
  rw[List.foldl_cons,if_pos hy];exact Dr lk C n (fun z hz=>hi z (by simp[hz])) hh.2
def iJ (lk:Lk) (C:List It):List AV:=nE ((b9 lk C).map Gl.row) (lQ lk C)
theorem fk (lk:Lk) (C:List It):bm (iJ lk C)=[]:=rfl
theorem MP {lk lk':Lk} (h: ∀L,lk 2 L=lk' 2 L) (k:List It):dy lk k=dy lk' k:=by
 unfold dy;congr 1
 funext y
 unfold tY;rw[h]
theorem MQ (k:List It):ni k=(Ai.flt dU k).map fun y=>[i6 y.pl.1,i6 y.pl.2]:=by
 unfold ni;rw[eE dU _ (fun y=>[[i6 y.pl.1,i6 y.pl.2]]) (fun y e=>if_pos e) (fun y e=>if_neg e) k];generalize Ai.flt dU k=a;induction a with
 |nil=>rfl
 |cons x a ih=>rw[List.flatMap_cons,ih,fZ];rfl
theorem EF (lk:Lk) (g:Nat) (k:List It):gz lk g k=kn lk g (Ai.flt dU k):=by
 unfold gz kn;refine eE dU _ _ (fun y e=>?_) (fun y e=>if_neg fun h=>e h.1) k;by_cases b:BN lk g y
 ·rw[if_pos b,if_pos ⟨e,b⟩]
 ·rw[if_neg b,if_neg fun h=>b h.2]
theorem OL (lk:Lk) (n:List UInt8) (k:List It):oT lk n k=NE n (ai k jx 0) (ai k iq 60) (ai k kM 0) (ai k jN 0) (fi k) ((dY k).map Lb.row) lk (Ai.flt dU k):=by
 unfold oT NE;rw[qL,MQ,List.map_map];rfl
def EG:pu:=⟨mg,[1],true,6,0,0⟩
theorem Ds (x:It):cE EG x=(x.bk&&(x.ws.map Tk.k==[1])):=by
 unfold cE EG;have e1:(mg==ij)=false:=rfl;have e2:(mg !=dU)=true:=rfl;have e3:(mg !=kN)=true:=rfl
 match x.ws with
 |[]=>simp[iH]
 |[a]=>simp[iH,e1,e2,e3]
 |_::_::_=>simp[iH]
theorem zO {x:It} (h:cE EG x=true):x.bk=true/\ ∃a,x.ws=[a]/\a.k=1:=by
 rw[Ds,aJ] at h;refine ⟨h.1,?_⟩;have h2:=h.2
 match hw:x.ws with
 |[]=>rw[hw] at h2;simp at h2
 |[a]=>rw[hw] at h2;simp at h2;exact ⟨a,rfl,h2⟩
 |_::_::_=>rw[hw] at h2;simp at h2
theorem KI (g:Nat) (x:It) (L:List It):cV (au (g+2)) 1 x (au (g+2) 1 L).1=(if ai (au (g+2) 1 L).1 jx 0=0\/Ai.flt dU (au (g+2) 1 L).1=[] then [x.ft 6] else [])++(kn (au (g+1)) (ai (au (g+2) 1 L).1 iq 60) (Ai.flt dU (au (g+2) 1 L).1)++(if ai (au (g+2) 1 L).1 jN 0%ai (au (g+2) 1 L).1 iq 60≠0 then [x.ft 8] else [])):=by
 have h:=MF (au (g+1)) (au (g+1)) x L;rw[zI (lk':=au (g+1)) (fun L=>ke (g+1) g (eR 2) L)];have e:au (g+2) 1 L=L.foldl (aB (au (g+1)) 1) ([],[]):=rfl;rw[e];rw[h,EF];have e2:(dy (au (g+1)) (L.foldl (aB (au (g+1)) 1) ([],[])).1=[])=(Ai.flt dU (L.foldl (aB (au (g+1)) 1) ([],[])).1=[]):=by
  rw[qL,List.map_eq_nil_iff]
 simp only[e2]
theorem HK (C M A R:Id) (x:It) (Cs:List It) (f:List Ft) (g d:Nat) (hIC:jk 0 Cs) (hlc:Cs.length<=100000) (hx:zJ x) (hl:bJ x.kd<=1000) (hg:g<=18) (hf:f.length<=100000)
  (hM:M.isIt=true) (hMd:M.isNw d=false) (hC:C.isIt=false) (hCd:C.isNw d=false) (hA:A.isIt=false) (hAd:A.isNw d=false) (hR:R.isIt=false) (hRd:R.isNw d=false) (nCA:C≠A) (nCR:C≠R) (nAR:A≠R) (h0:aX 0 Cs x=0):
  ba Tryz.prog gl 24 d ⟨[bS C M,.agg x.row,.ptr A 0,.ptr R 0],[(C,bN f),(M,a8 (am Cs)),(A,[.ptr C 0]),(R,iJ (au (g+2)) Cs)],[(.b C 0,3),(.b R 0,8)]⟩
   ⟨.tup [],[(C,bN (fN (au (g+2)) x f)),(M,a8 (am (Cs++[x]))),(A,[.ptr C 0]),(R,iJ (au (g+2)) (Cs++[x]))],[(.b C 0,3),(.b R 0,8)]⟩:=by
 refine Uo rfl ?_;have iC:=ae hCd;have iM:=ae hMd;have iA:=ae hAd;have iR:=ae hRd;have nMC:M≠C:=fun e=>by rw[e,hC] at hM;cases hM
 have nCM:=nMC.symm;have nMA:M≠A:=fun e=>by rw[e,hA] at hM;cases hM
 have nAM:=nMA.symm;have nMR:M≠R:=fun e=>by rw[e,hR] at hM;cases hM
 have nRM:=nMR.symm;have nAC:=nCA.symm;have nRC:=nCR.symm;have nRA:=nAR.symm;obtain ⟨x1,x2,x3,x4,x5⟩:=pC hx;have U:=fun e d=>bZ e d
 by_cases e0:x.nm=mg
 ·have hp:bV 0 x.nm=some EG:=by rw[e0];rfl
  obtain ⟨q,hq,hfm⟩:=gQ h0;rw[hp] at hq;cases hq;rw[gG hIC hp hfm (by decide)] at h0;obtain ⟨hbk,a,hws,hak⟩:=zO hfm;have ew0:w0 x.ws=a.t:=by rw[hws];rfl
  rw[ew0] at h0 x3;have NM:=fun h=>sj C.up M.up x a [] (am Cs) 6 22 hM h hws hak h0 (by decide) (by rw[e0];show 9+_<=_;omega)
  have WO:=gE x [1] (by decide) x2;have hkk:(x.ws.map Tk.k==[1])=true:=by rw[hws];simp[hak]
  rw[hkk] at WO;have kk:am (Cs++[x])=am Cs++[de x.nm a.t]++[x.nm]:=by
   rw[kO];unfold lj;rw[e0,if_pos (show lR mg=true from rfl),ew0];simp
  have EP:=fun h h2=>EA C.up (.n 25) x.kd a.t f g 32 hC h rfl h2 (by simp) x5 hl (by omega) (by omega)
  have ez:oT (au (g+1)) a.t []=[.str a.t,.int .u32 0,i6 60,i6 0,i6 0,i6 0,.sl [],.sl [],.sl []]:=rfl;have hfl:=mm (g+2) 1 x.kd;have hmul:2*(g+2)*bJ x.kd<=2*20*1000:=Nat.mul_le_mul (by omega) hl;have hcl:=lV (g+2) 1 x.kd;have hkl:=jz x.kd;have hfll:(Ai.flt dU (au (g+2) 1 x.kd).1).length<=100000:=by
   unfold Ai.flt;refine mu (List.length_filter_le _ _) ?_;omega
  have WH:=fun h h2=>wK C.up (.n 25) (Ai.flt dU (au (g+2) 1 x.kd).1) (au (g+1)) x.pl.1 x.pl.2 (f++(au (g+2) 1 x.kd).2) a.t (ai (au (g+2) 1 x.kd).1 jx 0) (ai (au (g+2) 1 x.kd).1 iq 60) (ai (au (g+2) 1 x.kd).1 kM 0) (ai (au (g+2) 1 x.kd).1 jN 0) (fi (au (g+2) 1 x.kd).1) ((dY (au (g+2) 1 x.kd).1).map Lb.row) 37 (Hz (g+2) x.kd) (by rw[fT];omega) hfll hC h rfl h2 (by simp)
  have hft: ∀e,(⟨e,x.pl.1,x.pl.2⟩:Ft)=x.ft e:=fun e=>rfl
  simp only[hft] at WH;have hfn:fN (au (g+2)) x f=f++(au (g+2) 1 x.kd).2++cV (au (g+2)) 1 x (au (g+2) 1 x.kd).1:=by
   unfold fN;rw[show bR x.nm=1 by rw[e0];rfl,if_neg (by decide),xv]
  have hgr:Gl.row (li (au (g+2)) x)=[.str a.t,.int .u32 (ai (au (g+2) 1 x.kd).1 jx 0),i6 (ai (au (g+2) 1 x.kd).1 iq 60),i6 (ai (au (g+2) 1 x.kd).1 kM 0),i6 (ai (au (g+2) 1 x.kd).1 jN 0),i6 (fi (au (g+2) 1 x.kd).1),.sl ((dY (au (g+2) 1 x.kd).1).map Lb.row),.sl ((Ai.flt dU (au (g+2) 1 x.kd).1).map fun y=>(tY (au (g+1)) y).row)]:=by
   unfold li Gl.row;dsimp only;rw[ew0,MP (fun L=>(ke g (g+1) (eR 2) L).symm),qL,List.map_map];rfl
  rw[hfn,KI,kk];unfold iJ;rw[EE _ e0,KH _ e0,List.map_append,fZ,l6,hgr];unfold nE;simp only[OL] at EP;rw[<-OL,ez] at EP;unfold NE at EP WH;have g8: ∀r∈List.map Gl.row (b9 (au (g+2)) Cs),r.length=8:=fun r h=>by
   obtain ⟨y,_,rfl⟩:=oY.1 h;rfl
  have gll:(List.map Gl.row (b9 (au (g+2)) Cs)).length<=100000:=by rw[tN];exact mu (vd _ Cs) hlc
  have hlim:nD=140737488355328:=rfl;have hbl:((List.map Gl.row (b9 (au (g+2)) Cs)).length+1)*104<=nD:=by rw[hlim];omega
  generalize au (g+2) 1 x.kd=k at*;generalize ai k.1 jx 0=vt,ai k.1 iq 60=vg,ai k.1 kM 0=va,ai k.1 jN 0=vo,fi k.1=vc,List.map Lb.row (dY k.1)=VL at*;unfold a8 bS bN at*;generalize List.map Ft.row (f++k.2++((if vt=0\/Ai.flt dU k.1=[] then [x.ft 6] else [])++(kn (au (g+1)) vg (Ai.flt dU k.1)++(if vo%vg≠0 then [x.ft 8] else []))))=FW,(Ai.flt dU k.1).map (fun y=>(tY (au (g+1)) y).row)=RX,(Ai.flt dU k.1).map (fun y=>[i6 y.pl.1,i6 y.pl.2])=AX at*;generalize List.map Ft.row (f++k.2)=FK,List.map Ft.row f=FL,List.map Gl.row (b9 (au (g+2)) Cs)=GL,lQ (au (g+2)) Cs=nv at*;generalize ai nv mz 16=nm1,ai nv mA 0=nm2,ai nv mB 10=nm3,ai nv mE 300=nm4,ai nv nh 0=nm5 at*;simp only[aw,hws,hbk,e0] at WO NM ⊢;generalize aI kS (aA (am Cs++[de mg a.t]++[mg]))=G2 at*;generalize aI kS (aA (am Cs))=G at*;obtain ⟨ak,at',an,al,ac⟩:=a;simp only[fZ,l6,Tk.row] at*;generalize ab x.kd=KR,x.pl.1=pl,x.pl.2=pc at*;simp only[ar,aW,aP,AV.mp,aY,Pl.mp] at*;clear h0 hx hp hfm hkk kk hfl hmul hcl hkl hfll hft hfn hgr x1 x2 x3 x4 x5 hIC ez;unfold mg at*;simp[Jl];apply ag WO;simp;refine aZ _ _ (U 6 _) (by constructor<;>simp[hM,hC,hA,hR,nCA,nCR,nAR,nAC,nRC,nRA,nMC,nCM,nMA,nAM,nMR,nRM]) ?_
  simp[hM,hC,hA,hR,nCA,nCR,nAR,nAC,nRC,nRA,nMC,nCM,nMA,nAM,nMR,nRM];refine aZ _ _ (NM rfl) (by constructor<;>simp[hM,hC,hA,hR,nCA,nCR,nAR,nAC,nRC,nRA,nMC,nCM,nMA,nAM,nMR,nRM]) ?_
  simp[hM,hC,hA,hR,nCA,nCR,nAR,nAC,nRC,nRA,nMC,nCM,nMA,nAM,nMR,nRM];refine aE _ _ (EP rfl rfl) (by constructor<;>simp[hM,hC,hA,hR,nCA,nCR,nAR,nAC,nRC,nRA,nMC,nCM,nMA,nAM,nMR,nRM]) ?_
  simp[hM,hC,hA,hR,nCA,nCR,nAR,nAC,nRC,nRA,nMC,nCM,nMA,nAM,nMR,nRM];refine aE _ _ (WH rfl rfl) (by constructor<;>simp[hM,hC,hA,hR,nCA,nCR,nAR,nAC,nRC,nRA,nMC,nCM,nMA,nAM,nMR,nRM]) ?_
  simp[hM,hC,hA,hR,nCA,nCR,nAR,nAC,nRC,nRA,nMC,nCM,nMA,nAM,nMR,nRM,hbl];refine ⟨g8,?_⟩;refine bh ?_;constructor<;>simp[iC,iM,iA,iR,hM,hC,hA,hR,nCA,nCR,nAR,nAC,nRC,nRA,nMC,nCM,nMA,nAM,nMR,nRM]
 ·by_cases e1:x.nm=tX
  ·have hp:bV 0 x.nm=some wJ:=by rw[e1];rfl
   have hno:=vn hp rfl h0;rw[e1] at hno;have hnn:lQ (au (g+2)) Cs=[]:=Dr _ Cs [] hIC hno;have hkl:=jz x.kd;have NO:=fun h h2 h3=>EC C.up M.up R.up x Cs (List.map Gl.row (b9 (au (g+2)) Cs)) f (au (g+1)) (au (g+2)) 52 e1 (fun y hy=>(pC (mq x5 hy)).1) (by omega) (by omega) hM h hC h2 hR h3 (fun e=>nCR (by injection e)) h0
   have hfn:fN (au (g+2)) x f=f++((x.kd.foldl (aB (au (g+1)) 3) ([],[])).2++cV (au (g+2)) 3 x (x.kd.foldl (aB (au (g+1)) 3) ([],[])).1):=by
    unfold fN;rw[show bR x.nm=3 by rw[e1];rfl,if_neg (by decide)];rfl
   rw[hfn];unfold iJ;rw[HJ _ e0,MN _ e0,hnn];have hl3:(au (g+2) 3 x.kd).1=(x.kd.foldl (aB (au (g+1)) 3) ([],[])).1:=rfl;rw[hl3];generalize (x.kd.foldl (aB (au (g+1)) 3) ([],[]))=k at*;have q1:=kU (List.map Gl.row (b9 (au (g+2)) Cs)) [];have q2:=kU (List.map Gl.row (b9 (au (g+2)) Cs)) k.1;have q3:=fun g'=>aO (f:=g') q1
   have q4:=fun g'=>aO (f:=g') q2
   have q5:=a7 (nE (List.map Gl.row (b9 (au (g+2)) Cs)) []);generalize nE (List.map Gl.row (b9 (au (g+2)) Cs)) []=B1,nE (List.map Gl.row (b9 (au (g+2)) Cs)) k.1=B2 at*;unfold a8 bS bN at*;generalize List.map Ft.row (f++(k.2++cV (au (g+2)) 3 x k.1))=FW,List.map Ft.row f=FL,aI kS (aA (am (Cs++[x])))=G2,aI kS (aA (am Cs))=G at*;simp only[aw,e1] at NO ⊢;generalize ab x.kd=KR,List.map Tk.row x.ws=WR,x.pl.1=pl,x.pl.2=pc,x.bk=bk at*;simp only[ar,aW,aP,AV.mp,aY,Pl.mp,q3,q4] at NO ⊢;clear h0 hx hp hfn hkl x1 x2 x3 x4 x5 hIC hno hnn e0 e1 hl3;unfold tX at*;simp[Jl];refine aZ _ _ (NO rfl rfl rfl) (by constructor<;>simp[hM,hC,hA,hR,nCA,nCR,nAR,nAC,nRC,nRA,nMC,nCM,nMA,nAM,nMR,nRM,q1,q2,q3,q4,q5]) ?_
   simp[hM,hC,hA,hR,nCA,nCR,nAR,nAC,nRC,nRA,nMC,nCM,nMA,nAM,nMR,nRM];refine bh ?_;constructor<;>simp[iC,iM,iA,iR,hM,hC,hA,hR,nCA,nCR,nAR,nAC,nRC,nRA,nMC,nCM,nMA,nAM,nMR,nRM,q1,q2,q3,q4,q5]
  ·exfalso;rw[fM (by simp[bV,gv,Ne.symm e0,Ne.symm e1])] at h0;cases h0
theorem HL (C M A R:Id) (x:It) (Cs:List It) (f:List Ft) (g d:Nat) (hIC:jk 0 Cs) (hx:zJ x)
  (hM:M.isIt=true) (hMd:M.isNw d=false) (hC:C.isIt=false) (hCd:C.isNw d=false) (hA:A.isIt=false) (hAd:A.isNw d=false) (hR:R.isIt=false) (hRd:R.isNw d=false) (nCA:C≠A) (nCR:C≠R) (nAR:A≠R) (h0:aX 0 Cs x≠0):
  di Tryz.prog gl 24 d ⟨[bS C M,.agg x.row,.ptr A 0,.ptr R 0],[(C,bN f),(M,a8 (am Cs)),(A,[.ptr C 0]),(R,iJ (au (g+2)) Cs)],[(.b C 0,3),(.b R 0,8)]⟩
   ⟨bE (aX 0 Cs x),[(C,bN f),(M,a8 (am Cs)),(A,[.ptr C 0]),(R,iJ (au (g+2)) Cs)],[(.b C 0,3),(.b R 0,8)]⟩:=by
 refine t24 rfl ?_;have iC:=ae hCd;have iM:=ae hMd;have iA:=ae hAd;have iR:=ae hRd;have nMC:M≠C:=fun e=>by rw[e,hC] at hM;cases hM
 have nCM:=nMC.symm;have nMA:M≠A:=fun e=>by rw[e,hA] at hM;cases hM
 have nAM:=nMA.symm;have nMR:M≠R:=fun e=>by rw[e,hR] at hM;cases hM
 have nRM:=nMR.symm;have nAC:=nCA.symm;have nRC:=nCR.symm;have nRA:=nAR.symm;obtain ⟨x1,x2,x3,x4,x5⟩:=pC hx;have U:=fun e d=>bZ e d
 have UT:=fun e d=>eM e d
 have WO:=gE x [1] (by decide) x2;by_cases e0:x.nm=mg
 ·have hp:bV 0 x.nm=some EG:=by rw[e0];rfl
  cases hfm:cE EG x with
  |false=>
   rw[gF hp hfm];rw[Ds] at hfm;clear h0;cases hb:x.bk with
   |false=>
    rw[aw,hb,e0];have q1:=fk (au (g+2)) Cs;have q3:=fun g'=>aO (f:=g') q1
    have q5:=a7 (iJ (au (g+2)) Cs);generalize iJ (au (g+2)) Cs=B at*;unfold a8 bS bN bE at*;generalize List.map Ft.row f=FL,aI kS (aA (am Cs))=G,ab x.kd=KR,List.map Tk.row x.ws=WR at*;simp only[ar,aW,aP,AV.mp,aY,Pl.mp,q3];unfold mg;simp[Jl];refine bj _ _ (UT 6 _) (by constructor<;>simp[hM,hC,hA,hR,nCA,nCR,nAR,nAC,nRC,nRA,nMC,nCM,nMA,nAM,nMR,nRM,q1,q3,q5]) rfl ?_
    refine ⟨rfl,by simp,?_⟩;constructor<;>simp[iC,iM,iA,iR,hM,hC,hA,hR,nCA,nCR,nAR,nAC,nRC,nRA,nMC,nCM,nMA,nAM,nMR,nRM,q1,q3,q5]
   |true=>
    rw[hb] at hfm;have hk:(x.ws.map Tk.k==[1])=false:=by simpa using hfm
    rw[aw,hb,hk,e0] at WO;simp only[fZ,l6] at WO;rw[aw,hb,e0];have q1:=fk (au (g+2)) Cs;have q3:=fun g'=>aO (f:=g') q1
    have q5:=a7 (iJ (au (g+2)) Cs);generalize iJ (au (g+2)) Cs=B at*;unfold a8 bS bN bE at*;generalize List.map Ft.row f=FL,aI kS (aA (am Cs))=G,ab x.kd=KR,List.map Tk.row x.ws=WR at*;simp only[ar,aW,aP,AV.mp,aY,Pl.mp,q3];unfold mg at*;simp[Jl];apply ag WO;simp;refine bj _ _ (UT 6 _) (by constructor<;>simp[hM,hC,hA,hR,nCA,nCR,nAR,nAC,nRC,nRA,nMC,nCM,nMA,nAM,nMR,nRM,q1,q3,q5]) rfl ?_
    refine ⟨rfl,by simp,?_⟩;constructor<;>simp[iC,iM,iA,iR,hM,hC,hA,hR,nCA,nCR,nAR,nAC,nRC,nRA,nMC,nCM,nMA,nAM,nMR,nRM,q1,q3,q5]
  |true=>
   have hc:=gG hIC hp hfm (by decide);obtain ⟨hbk,a,hws,hak⟩:=zO hfm;have ew0:w0 x.ws=a.t:=by rw[hws];rfl
   rw[ew0] at hc x3;have hc:aX 0 Cs x=Hp (am Cs) x.nm a.t 6:=hc;rw[hc] at h0 ⊢;have NM:=fun h=>sn C.up M.up x a [] (am Cs) 6 22 hM h hws hak h0 (by rw[e0];show 9+_<=_;omega)
   have hkk:(x.ws.map Tk.k==[1])=true:=by rw[hws];simp[hak]
   rw[hkk] at WO;generalize Hp (am Cs) x.nm a.t 6=e at*;simp only[aw,hws,hbk,e0] at WO NM ⊢;obtain ⟨ak,at',an,al,ac⟩:=a;simp only[fZ,l6,Tk.row] at*;have q1:=fk (au (g+2)) Cs;have q3:=fun g'=>aO (f:=g') q1
   have q5:=a7 (iJ (au (g+2)) Cs);generalize iJ (au (g+2)) Cs=B at*;unfold a8 bS bN bE at*;generalize List.map Ft.row f=FL,aI kS (aA (am Cs))=G,ab x.kd=KR,x.pl.1=pl,x.pl.2=pc at*;simp only[ar,aW,aP,AV.mp,aY,Pl.mp,q3] at NM WO ⊢;clear hkk hfm hp hIC h0 ew0 x3 hc hws hx x4 x5;unfold mg at*;simp[Jl];apply ag WO;simp;refine aZ _ _ (U 6 _) (by constructor<;>simp[hM,hC,hA,hR,nCA,nCR,nAR,nAC,nRC,nRA,nMC,nCM,nMA,nAM,nMR,nRM,q1,q3,q5]) ?_
   simp[hM,hC,hA,hR,nCA,nCR,nAR,nAC,nRC,nRA,nMC,nCM,nMA,nAM,nMR,nRM];refine bj _ _ (NM rfl) (by constructor<;>simp[hM,hC,hA,hR,nCA,nCR,nAR,nAC,nRC,nRA,nMC,nCM,nMA,nAM,nMR,nRM,q1,q3,q5]) rfl ?_
   refine ⟨rfl,by simp,?_⟩;constructor<;>simp[iC,iM,iA,iR,hM,hC,hA,hR,nCA,nCR,nAR,nAC,nRC,nRA,nMC,nCM,nMA,nAM,nMR,nRM,q1,q3,q5]
 ·by_cases e1:x.nm=tX
  ·have NO:=fun h=>ED C.up M.up R.up x Cs [] f 52 e1 hM h h0
   generalize aX 0 Cs x=e at*;have q1:=fk (au (g+2)) Cs;have q3:=fun g'=>aO (f:=g') q1
   have q5:=a7 (iJ (au (g+2)) Cs);generalize iJ (au (g+2)) Cs=B at*;unfold a8 bS bN bE at*;generalize List.map Ft.row f=FL,aI kS (aA (am Cs))=G at*;simp only[aw,e1] at NO ⊢;generalize ab x.kd=KR,List.map Tk.row x.ws=WR,x.pl.1=pl,x.pl.2=pc,x.bk=bk at*;simp only[ar,aW,aP,AV.mp,aY,Pl.mp,q3] at NO ⊢;clear h0 hx WO x1 x2 x3 x4 x5 hIC e0 e1;unfold tX at*;simp[Jl];refine bj _ _ (NO rfl) (by constructor<;>simp[hM,hC,hA,hR,nCA,nCR,nAR,nAC,nRC,nRA,nMC,nCM,nMA,nAM,nMR,nRM,q1,q3,q5]) rfl ?_
   refine ⟨rfl,by simp,?_⟩;constructor<;>simp[iC,iM,iA,iR,hM,hC,hA,hR,nCA,nCR,nAR,nAC,nRC,nRA,nMC,nCM,nMA,nAM,nMR,nRM,q1,q3,q5]
  ·rw[fM (by simp[bV,gv,Ne.symm e0,Ne.symm e1])];clear h0;have b0:(x.nm==mg)=false:=cH.2 e0;have b1:(x.nm==tX)=false:=cH.2 e1;rw[aw];have q1:=fk (au (g+2)) Cs;have q3:=fun g'=>aO (f:=g') q1
   have q5:=a7 (iJ (au (g+2)) Cs);generalize iJ (au (g+2)) Cs=B at*;unfold a8 bS bN bE at*;generalize List.map Ft.row f=FL,aI kS (aA (am Cs))=G,x.nm=nm,ab x.kd=KR,List.map Tk.row x.ws=WR at*;simp only[ar,aW,aP,AV.mp,aY,Pl.mp,q3];unfold mg tX at*;simp[Jl,b0,b1];refine ⟨rfl,by simp,?_⟩;constructor<;>simp[iC,iM,iA,iR,hM,hC,hA,hR,nCA,nCR,nAR,nAC,nRC,nRA,nMC,nCM,nMA,nAM,nMR,nRM,q1,q3,q5]
theorem zP (L:List It) (hc:bJ L<=90000) (hd:f8 L<=90000) (htx: ∀p∈cT L 1,KZ p.2/\p.1<=100000) (D:Nat):ba Tryz.prog gl 21 D ⟨[.sl (ab L)],[],[]⟩ ⟨.bool (dz 0 (cT L 1)),[],[]⟩:=by
 refine Um rfl ?_;have W:=fun d=>E3 L d
 have IT:=E2 L (.nw 8 (.n 1)) rfl (by omega) hd;have fl:=pH L 1;rw[nj] at IT;have hfl:(cT L 1).length<=90000:=by omega
 generalize cT L 1=FL,ab L=RR at*;simp only[ar,aW,aP,AV.mp,aY,Pl.mp,Ls,Bp,C5,Bq];simp[Bp,C5,Bq];refine bg _ _ (W _) ?_;simp[Bp,C5,Bq];refine ⟨by simp,68,[.ptr (.nw 8 (.n 1)) 0],[(.nw 8 (.n 1),[.sl RR])],FL.map Fb,⟨rfl,rfl⟩,?_,IT,?_,?_⟩
 ·intro d cs h;simp only[aD] at h;split at h
  ·rename_i e;subst e;cases h;simp[FN]
  ·cases h
 ·intro x hx;obtain ⟨p,_,rfl⟩:=oY.1 hx;rfl
 ·refine y9 (fun k τ=>τ=ua RR k/\dz 0 FL=dz k (FL.drop k)/\k<=FL.length) (FL.map Fb) 0 _ ⟨rfl,by rw[Gc],jq _⟩ ?_ ?_
  ·rintro j x τ hx ⟨rfl,h2,h3⟩;rw[l5] at h2 h3 ⊢;rw[xK] at hx;cases hp:FL[j]? with
   |none=>rw[hp] at hx;cases hx
   |some p=>
    rw[hp] at hx;cases hx;obtain ⟨hj,he⟩:=qZ.1 hp;obtain ⟨dd,y⟩:=p;have hq:=htx _ (List.mem_of_getElem? hp);have ho:dz 0 FL=(Fd (j+1) (dd,y)&&dz (j+1) (FL.drop (j+1))):=by
     rw[h2,xI hj,he];rfl
    refine wT RR j (by omega) dd hq.2 y hq.1 _ (fun h=>?_) (fun h=>?_)
    ·refine ⟨rfl,?_,by omega⟩;rw[ho,h,nC]
    ·rw[h,qp] at ho;rw[ho];simp only[ua];simp[wj];apply ah<;>simp
  ·rintro τ ⟨rfl,h2,h3⟩;rw[l5,tN,N6] at h2;have h2:dz 0 FL=true:=h2;rw[h2];simp only[ua];simp[C5,wj];apply ah<;>simp
mutual
theorem HM: ∀(x:It) (d:Nat),Dd x->jh x<=100000-> ∀p∈oB x d,KZ p.2/\p.1<d+jh x
 | .mk n ws b ks ln co,d,h1,h2,p,hp=>by
  rw[oB,nH] at hp;rw[Dd] at h1;rw[jh] at h2 ⊢;rcases hp with rfl|hp
  ·have:=kL ks
   exact ⟨⟨by omega,by omega,fun t ht=>by have:=h1.1.2.2 t ht;omega,by omega⟩,by dsimp only;omega⟩
  ·have:=sB ks (d+1) h1.2 (by omega) p hp
   exact ⟨this.1,by omega⟩
theorem sB: ∀(L:List It) (d:Nat),lv L->bJ L<=100000-> ∀p∈cT L d,KZ p.2/\p.1<d+bJ L
 |[],d,_,_,p,hp=>by cases hp
 |x::r,d,h1,h2,p,hp=>by
  rw[cT,jD] at hp;rw[lv] at h1;rw[bJ] at h2 ⊢;rcases hp with hp|hp
  ·have:=HM x d h1.1 (by omega) p hp
   exact ⟨this.1,by omega⟩
  ·have:=sB r d h1.2 (by omega) p hp
   exact ⟨this.1,by omega⟩
end
theorem zQ (L:List It) (hc:bJ L<=10000) (hb:lv L):Sp Tryz.prog gl 21 [.sl (ab L)] (.bool (dz 0 (cT L 1))):=by
 have:=sg L
 exact Sp.of_h fun D=>zP L (by omega) (by omega) (fun p hp=>by
  have:=sB L 1 hb (by omega) p hp
  exact ⟨this.1,by omega⟩) D
theorem HN (C A R:Id) (L:List It) (f0:List Ft) (g d:Nat) (hC:C.isIt=false) (hCd:C.isNw d=false) (hA:A.isIt=false) (hAd:A.isNw d=false) (hR:R.isIt=false) (hRd:R.isNw d=false) (nCA:C≠A) (nCR:C≠R) (nAR:A≠R) (hx:sA L) (hl:bJ L<=1000) (hg:g<=18) (hf:f0.length<=10000):
  ba Tryz.prog gl 23 d ⟨[.ptr C 0,.sl (ab L),.fn 24 [.ptr A 0,.ptr R 0]],[(C,bN f0),(A,[.ptr C 0]),(R,iJ (au (g+2)) [])],[(.b C 0,3),(.b R 0,8)]⟩
   ⟨.tup [],[(C,bN (f0++(au (g+3) 0 L).2)),(A,[.ptr C 0]),(R,iJ (au (g+2)) (au (g+3) 0 L).1)],[(.b C 0,3),(.b R 0,8)]⟩:=by
 have hll:=jz L;have E:=OK C A R L (fun i=>am (hZ (au (g+2)) 0 L f0 i).1) (fun i=>(hZ (au (g+2)) 0 L f0 i).2) (fun i=>iJ (au (g+2)) (hZ (au (g+2)) 0 L f0 i).1) d hC hCd hA hAd hR hRd nCA nCR nAR (fun i=>fk _ _) rfl (by omega) ?_
 ·have e:=ot (g+2) 0 L f0 L.length;rw[tJ] at e;have e1:=congrArg Prod.fst e;have e2:=congrArg Prod.snd e;dsimp only at e1 e2;rw[e1,e2] at E;exact E
 ·intro i h h1 h2 h3;have hs:=oh (au (g+2)) 0 L f0 i h;have hlen:=zM (g+2) 0 L f0 i;have hcl:=zN (g+2) 0 L f0 i;have hinv:=Dh (au (g+2)) 0 L f0 i;have hm:=xz h;have hxi:=mq hx hm;have hkl:=zL hm;have hmul:2*(g+2+1)*bJ L<=2*21*1000:=Nat.mul_le_mul (by omega) hl;rw[hs];generalize hZ (au (g+2)) 0 L f0 i=s at*;have u1: ∀ {a b:Id},a≠b->a.up≠b.up:=fun h e=>h (by injection e)
  by_cases c:aX 0 s.1 L[i]=0
  ·rw[Do c];exact KE C.up (.it 10) A.up R.up L[i] _ _ _ _ _ _ 21 hC h1 hA h2 hR h3 rfl rfl (u1 nCA) (u1 nCR) (u1 nAR) (fk _ _) (fk _ _) (fun g1 g2 g3 g4=>HK _ _ _ _ _ _ _ g _ hinv (by omega) hxi (by omega) hg (by omega) rfl g2 hC g1 hA g3 hR g4 (u1 (u1 (u1 nCA))) (u1 (u1 (u1 nCR))) (u1 (u1 (u1 nAR))) c)
  ·rw[Dp c];exact KG C.up (.it 10) A.up R.up L[i] _ _ _ _ _ _ _ 21 hC h1 hA h2 hR h3 rfl rfl (u1 nCA) (u1 nCR) (u1 nAR) (fk _ _) (fk _ _) (by omega) (fun g1 g2 g3 g4=>HL _ _ _ _ _ _ _ g _ hinv hxi rfl g2 hC g1 hA g3 hR g4 (u1 (u1 (u1 nCA))) (u1 (u1 (u1 nCR))) (u1 (u1 (u1 nAR))) c)
mutual
theorem OM: ∀x:It,Kh x=true->Dd x->zJ x
 | .mk n ws b ks l c,h,hb=>by
  rw[Kh] at h;rw[Dd] at hb;simp only[aJ,ik] at h;obtain ⟨h1,h2,h3,h4,h5⟩:=h;rw[zJ];refine ⟨⟨fun t ht=>?_,hb.1.1⟩,HO ks h4 hb.2⟩;have hw:=h5 t ht;unfold cu at hw;simp only[aJ,qu] at hw;refine ⟨⟨hw.1,hw.2.1⟩,fun hk=>?_,hb.1.2.2 t ht⟩
  have:=hw.2.2
  unfold sK at this;rw[if_pos hk,aJ,qu] at this;exact this.2
theorem HO: ∀L:List It,BG L=true->lv L->sA L
 |[],_,_=>by rw[sA];trivial
 |x::L,h,hb=>by
  rw[BG,aJ] at h;rw[lv] at hb;rw[sA];exact ⟨OM x h.1 hb.1,HO L h.2 hb.2⟩
end
theorem EH {L:List It} (h:dz 0 (cT L 1)=true) (hb:lv L):sA L:=by
 rw[qJ,aJ,aJ] at h;exact HO L h.2.2 hb
def BO (x:Cf×List Ft):AV:= .tup [.agg x.1.row,.sl (x.2.map Ft.row)]
theorem KJ (g:Nat) (C:List It):(zd (au (g+3)) C).row=iJ (au (g+2)) C:=by
 rw[MM (lk':=au (g+2)) (ML (g+1) g) (ke (g+2) (g+1) (eR 2)) (ke (g+2) (g+1) (by decide))];rfl
theorem kV (L:List It) (g:Nat) (hg:g<=18) (hc:bJ L<=1000) (hb:lv L):Sp Tryz.prog gl 13 [.sl (ab L)] (BO (eD (g+3) (dz 0 (cT L 1)) L)):=by
 refine Uf rfl rfl ?_;have RI:=zQ L (by omega) hb;unfold eD BO;cases hr:dz 0 (cT L 1) with
 |false=>
  rw[hr] at RI;rw[if_pos rfl];have SA:=fun h h2=>gD (.n 7) 6 0 0 [] 13 h h2 (by simp)
  unfold bN at SA;simp only[cL,l6,fZ] at SA;generalize ab L=RR at*;simp[OZ];apply ag RI;simp;refine bg _ _ (SA rfl rfl) ?_;simp[NC,Cf.row,Ft.row]
 |true=>
  rw[hr] at RI;rw[if_neg (by decide)];have hx:=EH hr hb;have ET:=fun h1 h2 h3=>HN (.n 7) (.n 4) (.n 5) L [] g 24 rfl h1 rfl h2 rfl h3 (by simp) (by simp) (by simp) hx hc hg (by simp)
  have e0:iJ (au (g+2)) []=[.sl [],i6 16,i6 0,i6 10,i6 300,i6 0]:=rfl;have e1:bN []=[.sl []]:=rfl;simp only[e0,e1,cL] at ET;by_cases hf:(au (g+3) 0 L).2=[]
  ·rw[if_neg (fun h=>h hf)];dsimp only;rw[KJ];rw[hf,e1] at ET;unfold iJ nE at*;generalize (au (g+3) 0 L).1=k at*;generalize lQ (au (g+2)) k=nv at*;generalize ai nv mz 16=nm1,ai nv mA 0=nm2,ai nv mB 10=nm3,ai nv mE 300=nm4,ai nv nh 0=nm5,List.map Gl.row (b9 (au (g+2)) k)=GL,ab L=RR at*;clear e0 e1;simp[OZ];apply ag RI;simp;refine bg _ _ (ET rfl rfl rfl) ?_;simp
  ·rw[if_pos hf];dsimp only;unfold iJ nE bN at*;have hlen:0<((au (g+3) 0 L).2.map Ft.row).length:=by
    rw[tN];exact Jz.2 hf
   generalize (au (g+3) 0 L).1=k,List.map Ft.row (au (g+3) 0 L).2=FF at*;generalize lQ (au (g+2)) k=nv at*;generalize ai nv mz 16=nm1,ai nv mA 0=nm2,ai nv mB 10=nm3,ai nv mE 300=nm4,ai nv nh 0=nm5,List.map Gl.row (b9 (au (g+2)) k)=GL,ab L=RR at*;clear e0 e1;simp[OZ];apply ag RI;simp;refine bg _ _ (ET rfl rfl rfl) ?_;simp[hlen,NC,Cf.row]
end Go.Ai
