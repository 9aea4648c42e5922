/- P7: a part of the proof. Conditions: as each theorem says. -/
import Derived.Test.YtggemlhclppciaaGreatDoorP6
import Derived.Shelf.Strings.BuilderK
import Derived.Shelf.Strings.SlTrimAscii
import Derived.Shelf.Strings.Fields
import Derived.Shelf.Strings.Search2
set_option linter.unusedSimpArgs false
set_option linter.unusedVariables false
set_option maxRecDepth 20000
namespace Go.Ai
open Go.Proofs
variable {V:List UInt8→TV} {U:List UInt8→List UInt8×Int} {VR:List Int→TV} {U':List Int→List UInt8×Int} {s:List UInt8} {l:List Int}
theorem oQ {i:Nat} {r:Int} (h:(ah s i).1=r) (h0:0≤r) (h1:r<128):(aS s i:Int)=r∧(ah s i).2=1:=by
 have ff: ∀n r0 least,128≤least→(bR s i n r0 least).1=r→False:=by
  intro n r0 least hl e;unfold bR at e;split at e
  ·rename_i c;rw [aC] at c
   have:=gw c.2
   dsimp only at e;omega
  ·dsimp only at e;omega
 unfold ah at h ⊢;simp only at h ⊢;split
 ·rename_i c;rw [if_pos c] at h;exact ⟨h,rfl⟩
 ·rename_i c;rw [if_neg c] at h;split
  ·rename_i c2;rw [if_pos c2] at h;exact (ff _ _ _ (by omega) h).elim
  ·rename_i c2;rw [if_neg c2] at h;split
   ·rename_i c3;rw [if_pos c3] at h;exact (ff _ _ _ (by omega) h).elim
   ·rename_i c3;rw [if_neg c3] at h;split
    ·rename_i c4;rw [if_pos c4] at h;exact (ff _ _ _ (by omega) h).elim
    ·rename_i c4;rw [if_neg c4] at h;dsimp only at h;omega
def FQ (VR:List Int→TV) (U:List UInt8→List UInt8×Int) (U':List Int→List UInt8×Int) (l:List Int) (f k0 e:Nat) (out:List Tk) (a b:Int):TR:=
 if e=0 then ⟨[],5,a,b⟩
 else if (U' (cF l k0 e)).2=0 then bp VR U l (vp 1 1 l) f e (out++[⟨2,(U' (cF l k0 e)).1,0,a,b⟩]) else ⟨[],(U' (cF l k0 e)).2,a,b⟩
theorem BA (x:Sc) (i:Nat) (r:Int) (h:x.st=2∨x.st=3):bv V U s x i r=bj U s x i r:=by
 unfold bv;rw [if_neg (by omega),if_neg (by omega),if_pos h]
theorem tJ (x:Sc) (h:x.st=2∨x.st=3):jH V s (dL V U s x s.length)=⟨[],5,x.fl,x.fc⟩:=by
 rw [iV V U s x _ (by omega)];unfold jH;rw [if_pos rfl]
 have:ju V s x=(x.wrong 5,false):=by
  unfold ju;rw [if_neg (by omega),if_pos h]
 rw [this,if_neg (show ¬(x.wrong 5,false).2=true from by intro h;cases h)];rfl
theorem mS (x:Sc) (e:Int):jH V s (x.wrong e,false)=⟨[],e,x.fl,x.fc⟩:=by
 unfold jH;rw [if_neg (show ¬(x.wrong e,false).2=true from by intro h;cases h)];rfl
theorem mT (x:Sc) (i:Nat):bj U s x i 10=(x.wrong 5,false):=by unfold bj;rw [if_pos rfl]
theorem Ku (H:C0 V U VR U'): ∀n j,l.length - j≤n→ ∀k0 i x f,k0<j→(∀k',k0<k'→k'≤l.length→Ks V U VR s l k')→At s l i j→x.st=2→ig l x j→Wk s x.sa (cF l k0 j) i→l.length≤f+k0→
  jH V s (dL V U s x i)=FQ VR U U' l f k0 (lC l j) x.out x.fl x.fc:=by
 intro n;induction n using Nat.strongRecOn with
 |ind n ih=>
 intro j hj k0 i x f hk hB hA hst hP hW hf;by_cases g:j<l.length
 ·obtain ⟨hi,hr,hA'⟩:=hA.next g
  have hsn:=iW g (show k0≤j by omega);have hW':=pw s _ _ _ hW hi;rw [hr,←hsn] at hW';rw [eH V U s x i hi,hr,BA x i _ (.inl hst),qT g];by_cases c1:l[j]=10
  ·rw [if_pos c1,c1,mT,if_neg (show ¬(x.wrong 5,false).2=true from by intro h;cases h),mS];rfl
  rw [if_neg c1];by_cases c2:l[j]=34
  ·rw [if_pos c2];have pl:=oQ (s:=s) (i:=i) (r:=34) (by rw [hr,c2]) (by decide) (by decide);rw [pl.2] at hW' hA';have hsub:ag (cR s x.sa (i+1)) 0=cF l k0 (j+1):=by
    have:=FG s x.sa i hi (by omega) _ x.sa (eV _) hW'
    rw [Nat.sub_self] at this;exact this
   have hq:U (cR s x.sa (i+1))=U' (cF l k0 (j+1)):=by rw [H.u,hsub]
   have ht:bj U s x i l[j]=fB U s x (i+1):=by
    unfold bj;rw [if_neg c1,if_neg (by omega),if_neg (by omega),if_pos c2]
   rw [ht];unfold fB FQ;rw [hq,if_neg (show ¬j+1=0 by omega)];dsimp only;generalize U' (cF l k0 (j+1))=q at *
   by_cases c:q.2=0
   ·rw [if_pos c,Bt c,if_pos (show (TV.t 2 q.1 0).ok=true from rfl),pl.2]
    have:=hB (j+1) (by omega) (by omega) _ ((x.add (.t 2 q.1 0)).adv l[j]) f hA' (by rw [Sc.adv_st];rfl) (hP.adv g rfl rfl) (by omega)
    rw [Sc.adv_out] at this;exact this
   ·rw [if_neg c,Bs c,if_neg (show ¬(TV.e q.2).ok=true from by intro h;cases h)];exact mS x q.2
  rw [if_neg c2];by_cases c3:l[j]=92
  ·rw [if_pos c3];have ht:bj U s x i l[j]=({x with st:=3},true):=by
    unfold bj;rw [if_neg c1,if_neg (by omega),if_pos c3]
   rw [ht,if_pos rfl];dsimp only;obtain ⟨y,hy⟩: ∃y,y=({x with st:=3}:Sc).adv l[j]:=⟨_,rfl⟩;have y1:y.st=3:=by rw [hy,Sc.adv_st]
   have y2:y.out=x.out:=by rw [hy,Sc.adv_out]
   have y3:y.fl=x.fl∧y.fc=x.fc:=by rw [hy];exact Sc.adv_f _ _
   have y4:y.sa=x.sa:=by rw [hy,Sc.adv_sa]
   have y5:ig l y (j+1):=by rw [hy];exact hP.adv g rfl rfl
   rw [←hy];by_cases g2:j+1<l.length
   ·obtain ⟨hi2,hr2,hA2⟩:=hA'.next g2
    have hsn2:=iW g2 (show k0≤j+1 by omega);have hW2:=pw s _ _ _ hW' hi2;rw [hr2,←hsn2] at hW2;rw [rC g2,eH V U s y _ hi2,hr2,BA y _ _ (.inr y1)];by_cases c4:l[j+1]=10
    ·rw [if_pos (show some l[j+1]=some 10 by rw [c4]),c4,mT,if_neg (show ¬(y.wrong 5,false).2=true from by intro h;cases h),mS,y3.1,y3.2];rfl
    ·rw [if_neg (show ¬some l[j+1]=some 10 by simpa using c4)];have ht2:bj U s y (i+(ah s i).2) l[j+1]=({y with st:=2},true):=by
      unfold bj;rw [if_neg c4,if_pos y1]
     rw [ht2,if_pos rfl]
     have:=ih (l.length - (j+2)) (by omega) (j+2) (eV _) k0 _ (({y with st:=2}:Sc).adv l[j+1]) f (by omega) hB hA2 (by rw [Sc.adv_st]) (y5.adv g2 rfl rfl) (by rw [Sc.adv_sa];show Wk s y.sa _ _;rw [y4];exact hW2) hf
     dsimp only;rw [this,Sc.adv_out,(Sc.adv_f _ _).1,(Sc.adv_f _ _).2];dsimp only;rw [y2,y3.1,y3.2]
   ·have e:j+1=l.length:=by omega
    rw [e] at hA';have hs:=hA'.end;rw [Di (by omega),if_neg (show ¬(none:Option Int)=some 10 by simp),uQ (by omega),hs,tJ y (.inr y1),y3.1,y3.2];rfl
  rw [if_neg c3];have ht:bj U s x i l[j]=(x,true):=by
   unfold bj;rw [if_neg c1,if_neg (by omega),if_neg c3,if_neg c2]
  rw [ht,if_pos rfl]
  have:=ih (l.length - (j+1)) (by omega) (j+1) (eV _) k0 _ (x.adv l[j]) f (by omega) hB hA' (by rw [Sc.adv_st];exact hst) (hP.adv g rfl rfl) (by rw [Sc.adv_sa];exact hW') hf
  dsimp only;rw [this,Sc.adv_out,(Sc.adv_f _ _).1,(Sc.adv_f _ _).2]
 ·have:j=l.length:=by have:=hA.k;omega
  subst this;obtain rfl:=hA.end;rw [uQ (by omega),tJ x (.inl hst)];rfl
theorem FR (H:C0 V U VR U') (hl: ∀r∈l,nW r): ∀n k,l.length - k≤n→k≤l.length→Ks V U VR s l k:=by
 intro n;induction n with
 |zero=>
  intro k hk hk2
  have:k=l.length:=by omega
  subst this;exact By
 |succ n ih=>
  intro k hk hk2;by_cases g:k<l.length
  ·have hB: ∀k',k<k'→k'≤l.length→Ks V U VR s l k':=fun k' a b=>ih k' (by omega) b
   intro i x f hA hst hP hf;obtain ⟨f,rfl⟩: ∃g,f=g+1:=⟨f - 1,by omega⟩;obtain ⟨hi,hr,hA'⟩:=hA.next g
   rw [eH V U s x i hi,hr,Bv V U s x i _ hst,xw VR U l _ f k _ g,hP.one.1,hP.one.2];have p1: ∀y:Sc,y.al=x.al→y.ac=x.ac→ig l (y.adv l[k]) (k+1):=fun y a b=>hP.adv g a b
   unfold cu;dsimp only;by_cases c1:l[k]=32∨l[k]=9∨l[k]=10
   ·rw [if_pos c1,if_pos c1,if_pos rfl]
    have:=hB (k+1) (by omega) (by omega) _ ((x.begin i 0).adv l[k]) f hA' (by rw [Sc.adv_st];rfl) (p1 _ rfl rfl) (by omega)
    rw [Sc.adv_out] at this;exact this
   rw [if_neg c1,if_neg c1];by_cases c2:l[k]=35
   ·rw [if_pos c2,if_pos c2,if_pos rfl]
    have:=Ma l.length (k+1) (by omega) (fun k' a b=>hB k' (by omega) b) _ (({x.begin i 0 with st:=4}:Sc).adv l[k]) f hA' (by rw [Sc.adv_st]) (p1 _ rfl rfl) (by omega)
    rw [Sc.adv_out] at this;have e:Ac l k=Ac l (k+1):=by rw [uV g,if_neg (by omega)]
    rw [e];exact this
   rw [if_neg c2,if_neg c2];have w1:Wk s i (cF l k (k+1)) (i+(ah s i).2):=by
    rw [iW g (eV _),kq];exact ⟨hi,hr,rfl⟩
   unfold ck;by_cases c3:l[k]=34
   ·rw [if_pos c3,if_pos rfl];rw [if_neg (show ¬l[k]=123 by omega),if_neg (show ¬l[k]=125 by omega),if_neg (show ¬l[k]=59 by omega),if_pos c3]
    have:=Ku (s:=s) H l.length (k+1) (by omega) k _ (({x.begin i 0 with st:=2}:Sc).adv l[k]) f (by omega) hB hA' (by rw [Sc.adv_st]) (p1 _ rfl rfl) (by rw [Sc.adv_sa];exact w1) (by omega)
    rw [Sc.adv_out,(Sc.adv_f _ _).1,(Sc.adv_f _ _).2] at this;have hu:U (aq (cF l k (lC l (k+1))))=U' (cF l k (lC l (k+1))):=by
     rw [H.u,cC _ (fun r hr=>hl r (FH hr))]
    rw [hu];refine this.trans ?_;unfold FQ;by_cases c:lC l (k+1)=0
    ·rw [if_pos c,if_pos c];rfl
    ·rw [if_neg c,if_neg c];dsimp only;rfl
   rw [if_neg c3];by_cases c4:l[k]=123
   ·rw [if_pos c4,if_pos rfl,if_pos c4,if_pos rfl]
    have:=hB (k+1) (by omega) (by omega) _ (((x.begin i 0).add (.t 7 [] 0)).adv l[k]) f hA' (by rw [Sc.adv_st];rfl) (p1 _ rfl rfl) (by omega)
    rw [Sc.adv_out] at this;exact this
   rw [if_neg c4,if_neg c4];by_cases c5:l[k]=125
   ·rw [if_pos c5,if_pos rfl,if_pos c5,if_pos rfl]
    have:=hB (k+1) (by omega) (by omega) _ (((x.begin i 0).add (.t 8 [] 0)).adv l[k]) f hA' (by rw [Sc.adv_st];rfl) (p1 _ rfl rfl) (by omega)
    rw [Sc.adv_out] at this;exact this
   rw [if_neg c5,if_neg c5];by_cases c6:l[k]=59
   ·rw [if_pos c6,if_pos rfl,if_pos c6,if_pos rfl]
    have:=hB (k+1) (by omega) (by omega) _ (((x.begin i 0).add (.t 9 [] 0)).adv l[k]) f hA' (by rw [Sc.adv_st];rfl) (p1 _ rfl rfl) (by omega)
    rw [Sc.adv_out] at this;exact this
   rw [if_neg c6,if_neg c6,if_neg c3];by_cases c7:wthn l[k]=true
   ·rw [if_pos c7,if_pos rfl,if_pos c7];have hw: ∀r∈cF l k (k+1),wthn r=true:=fun r hr=>by
     rw [iW g (eV _),kq,bO,m9] at hr;rw [hr];exact c7
    have:=Kt (s:=s) H l.length (k+1) (by omega) k _ (({x.begin i 0 with st:=1}:Sc).adv l[k]) f (by omega) hB hA' (by rw [Sc.adv_st]) (p1 _ rfl rfl) (by rw [Sc.adv_sa];exact w1) hw (by omega)
    have e:fM l k=fM l (k+1):=by rw [jt g,if_pos c7]
    rw [e];refine this.trans ?_;have we:=px l l.length (k+1) (by omega) (by omega);have hall: ∀n j,l.length - j≤n→ ∀r∈cF l j (fM l j),wthn r=true:=by
     intro n;induction n with
     |zero=>
      intro j hj r hr;rw [gP (by omega),kq] at hr;cases hr
     |succ n ih2=>
      intro j hj r hr;by_cases gj:j<l.length
      ·rw [jt gj] at hr;by_cases cj:wthn l[j]=true
       ·rw [if_pos cj] at hr;have wl:=px l l.length (j+1) (by omega) (by omega);have es:cF l j (fM l (j+1))=l[j]::cF l (j+1) (fM l (j+1)):=by
         unfold cF;rw [sf (by rw [sj];omega)];simp
        rw [es] at hr;rcases i8.1 hr with rfl|hr
        ·exact cj
        ·exact ih2 (j+1) (by omega) r hr
       ·rw [if_neg cj,kq] at hr;cases hr
      ·rw [gP gj,kq] at hr;cases hr
    have ev:=H.v (cF l k (fM l (k+1))) (Bz (by omega) we.2) (by
     have:=hall l.length k (by omega)
     rw [e] at this;exact this)
    cases hv:VR (cF l k (fM l (k+1))) with
    |e c=>
     have hc:=H.e (aq (cF l k (fM l (k+1)))) c (by rw [←ev];exact hv);rw [if_neg (show ¬((TV.e c).on (fM l (k+1))).c=0 from hc)];unfold xx;dsimp only [TV.on];rw [(Sc.adv_f _ _).1,(Sc.adv_f _ _).2];rfl
    |t kk w nn=>
     rw [if_pos (show ((TV.t kk w nn).on (fM l (k+1))).c=0 from rfl)];unfold xx;dsimp only [TV.on];rw [Sc.adv_out,(Sc.adv_f _ _).1,(Sc.adv_f _ _).2];rfl
   ·rw [if_neg c7,if_neg (show ¬((x.begin i 0).wrong 5,false).2=true from by intro h;cases h),if_neg c7,if_neg (by decide)];exact mS (x.begin i 0) 5
  ·have:k=l.length:=by omega
   subst this;exact By
theorem FT (H:C0 V U VR U') (s:List UInt8):oP V U s=CY VR U s:=by
 unfold oP CY;by_cases c:40000<s.length
 ·rw [if_pos c,if_pos c]
 ·rw [if_neg c,if_neg c]
  have:=FR (s:=s) (l:=ag s 0) H (eC s s.length 0 (by omega)) (ag s 0).length 0 (by omega) (jI _) 0 vq ((ag s 0).length+1) ⟨rfl,jI _,jI _⟩ rfl (mR _ _ _).symm (eV _)
  unfold jH at this;exact this
open Go.Proofs
def jw (s:List UInt8):Nat×Int:=if bm s=true then (if aH s<18446744073709551616 then (aH s,0) else (0,8)) else (0,5)
theorem C1 (s:List UInt8):(bm s=false∧fK s=(0,5)∧jw s=(0,5))∨(bm s=true∧aH s<18446744073709551616∧fK s=(aH s,0)∧jw s=(aH s,0))∨
  (bm s=true∧18446744073709551616≤aH s∧aH s<340282366920938463463374607431768211456∧fK s=(aH s,0)∧jw s=(0,8))∨(fK s=(0,3)∧jw s=(0,8)):=by
 unfold fK jw;by_cases c:bm s=true
 ·by_cases c1:aH s<18446744073709551616
  ·right;left;refine ⟨c,c1,?_,?_⟩
   ·rw [if_pos c,if_pos (by omega)]
   ·rw [if_pos c,if_pos c1]
  ·by_cases c2:aH s<340282366920938463463374607431768211456
   ·right;right;left;refine ⟨c,by omega,c2,?_,?_⟩
    ·rw [if_pos c,if_pos c2]
    ·rw [if_pos c,if_neg c1]
   ·right;right;right;refine ⟨?_,?_⟩
    ·rw [if_pos c,if_neg c2]
    ·rw [if_pos c,if_neg c1]
 ·left;have c':bm s=false:=by simpa using c
  refine ⟨c',?_,?_⟩
  ·rw [if_neg c]
  ·rw [if_neg c]
def Ih (q:Nat×Int):AV:=if q.2=0 then .ifc 44 (u q.1) else .ifc 28 (i6 q.2)
theorem mU (s:List UInt8) (hl:s.length≤1000000):Sp Tryz.prog gl 143 [.str s] (Ih (jw s)):=by
 refine NF rfl rfl ?_;have R:=z6 s hl;unfold Ih;rcases C1 s with ⟨_,h1,h2⟩|⟨_,h0,h1,h2⟩|⟨_,h0,h3,h1,h2⟩|⟨h1,h2⟩
 ·rw [h1] at R;rw [h2,if_neg (by decide)];unfold wide at R;simp [DC];apply ab R;simp
 ·rw [h1] at R;rw [h2,if_pos rfl];unfold wide at R;have e1:aH s / 18446744073709551616=0:=Nat.div_eq_of_lt h0;have e2:aH s%18446744073709551616=aH s:=vk h0;simp only [e1,e2] at R;generalize aH s=n at *
  simp [DC];apply ab R;simp
 ·rw [h1] at R;rw [h2,if_neg (by decide)];unfold wide at R;obtain ⟨hi,e1⟩: ∃hi,hi=aH s / 18446744073709551616:=⟨_,rfl⟩;have e2:0<hi:=by omega
  have e2':(0:Int)<hi:=by omega
  dsimp only at R;rw [←e1] at R;generalize aH s%18446744073709551616=lo at *
  clear e1 h0 h3 h1 h2;simp [DC];apply ab R;simp [e2,e2']
 ·rw [h1] at R;rw [h2,if_neg (by decide)];unfold wide at R;simp [DC];apply ab R;simp
def bz (k:Int) (q:Nat×Int):TV:=if q.2=0 then .t k [] q.1 else .e q.2
theorem lE (k:Int) (n:Nat) (e:Int):Sp Tryz.prog gl 144 [i6 k,u n,i6 e] (bz k (n,e)).av:=by
 refine NG rfl rfl ?_;unfold bz;by_cases c:e=0
 ·subst c;rw [if_pos rfl];unfold TV.av;simp [Jd]
 ·have c1:(e !=0)=true:=bne_iff_ne.2 c;have c2:(e==0)=false:=dh.2 c;rw [if_neg c];unfold TV.av;simp [Jd,c1,c2,c]
def fS (s:List UInt8):Bool:=s.all ay&&decide (0<s.length)
open Go.Proofs
def aU (r:Int):Nat:=if r=119 then 604800 else if r=100 then 86400 else if r=104 then 3600 else if r=109 then 60 else if r=115 then 1 else 0
theorem FU (r:Int):aU r≤604800:=by
 unfold aU;repeat' split
 all_goals omega
theorem ft (r:Int):Sp Tryz.prog gl 131 [i3 r] (i6 (aU r)):=by
 refine ND rfl rfl ?_;unfold aU;have ne: ∀z:Int,¬r=z→(r==z)=false:=fun z h=>dh.2 h
 by_cases c1:r=119
 ·subst c1;simp [xY]
 rw [if_neg c1];by_cases c2:r=100
 ·subst c2;simp [xY]
 rw [if_neg c2];by_cases c3:r=104
 ·subst c3;simp [xY]
 rw [if_neg c3];by_cases c4:r=109
 ·subst c4;simp [xY]
 rw [if_neg c4];by_cases c5:r=115
 ·subst c5;simp [xY]
 rw [if_neg c5];simp [xY,c1,c2,c3,c4,c5,ne _ c1,ne _ c2,ne _ c3,ne _ c4,ne _ c5]
def uW:List UInt8→Bool→Nat→Nat→Nat→Bool→Nat×Int
 |[],dg,n,la,sm,fr=>if dg=true then (0,5) else if fr=true then (0,8) else (sm,0)
 |c::l,dg,n,la,sm,fr=>
  if ay c=true then uW l true (if n≤253402300799 then 10*n+(c.toNat - 48) else n) la sm fr
  else if dg=false∨aU c.toNat=0∨la≤aU c.toNat then (0,5)
  else if 253402300799 / aU c.toNat<n then uW l false 0 (aU c.toNat) sm true
  else if 253402300799<sm+n*aU c.toNat then uW l false 0 (aU c.toNat) 0 true
  else uW l false 0 (aU c.toNat) (sm+n*aU c.toNat) fr
def rh (s:List UInt8):Nat×Int:=if s=[] then (0,5) else uW s false 0 1000000 0 false
open Go.Proofs
end Go.Ai
namespace Go.Ai
open Go.Proofs
def fO (s t:List UInt8):Bool:=decide (t.length≤s.length)&&(s.drop (s.length - t.length)==t)
theorem oR (s t:List UInt8) (hl:s.length≤1000000) (ht:t.length≤1000000):Sp Tryz.prog gl 186 [.str s,.str t] (.bool (fO s t)):=by
 refine NS rfl rfl ?_;unfold fO;by_cases g:t.length≤s.length
 ·have g':(t.length:Int)≤s.length:=by omega
  have w:IntKind.i64.wrap ((s.length:Int) - (t.length:Int))=(s.length - t.length:Nat):=by rw [an]<;>omega
  have gm:s.length - t.length≤s.length:=Nat.sub_le _ _;rw [jE g,kL];generalize s.length - t.length=m at *
  simp [Ji,g,g',w,gm]
 ·have g': ¬(t.length:Int)≤s.length:=by omega
  rw [oV g,lQ];simp [Ji,g,g']
theorem mV (s t:List UInt8) (hl:s.length≤1000000) (ht:t.length≤1000000):Sp Tryz.prog gl 145 [.str s,.str t] (.bool (fO s t)):=by
 refine NH rfl rfl ?_;have H:=oR s t hl ht;generalize fO s t=b at *
 simp [K2];apply ab H;simp
def db (s t:List UInt8):List UInt8:=if fO s t=true then s.take (s.length - t.length) else s
theorem uX (s t:List UInt8) (hl:s.length≤1000000) (ht:t.length≤1000000):Sp Tryz.prog gl 211 [.str s,.str t] (.tup [.str (db s t),.bool (fO s t)]):=by
 refine N9 rfl rfl ?_;have H:=oR s t hl ht;have k:fO s t=true→t.length≤s.length:=fun h=>by
  unfold fO at h;rw [aC,lK] at h;exact h.1
 unfold db;have w:t.length≤s.length→IntKind.i64.wrap ((s.length:Int) - (t.length:Int))=(s.length - t.length:Nat):=fun h=>by rw [an]<;>omega
 have gm:s.length - t.length≤s.length:=Nat.sub_le _ _;cases hb:fO s t
 ·rw [hb] at H;simp [Jk];apply ab H;simp
 ·rw [hb] at H;have w':=w (k hb);generalize s.length - t.length=m at *
  simp [Jk];apply ab H;simp [w',gm]
theorem xy (s t:List UInt8) (hl:s.length≤1000000) (ht:t.length≤1000000):Sp Tryz.prog gl 187 [.str s,.str t] (.tup [.str (db s t),.bool (fO s t)]):=by
 refine NT rfl rfl ?_;have H:=uX s t hl ht;generalize db s t=a at *
 generalize fO s t=b at *
 simp [K8];apply ab H;simp
open Go.Proofs
theorem xz (s:List UInt8) (hl:s.length≤1000000):Sp Tryz.prog gl 213 [.str s] (i6 (ag s 0).length):=by
 refine Ob rfl rfl ?_;obtain ⟨R,hR⟩: ∃R,R=(ag s 0).length:=⟨_,rfl⟩;rw [←hR];simp [Lj];refine bT (α:=Nat×Nat) (fun x=>⟨[(2,i6 x.2),(4,.itp 4)],[(.it 4,[.itr s x.1])],[]⟩)
  (fun x=>x.2≤x.1∧x.1≤s.length∧x.2+(ag s x.1).length=R) (fun x=>s.length - x.1) ?_ (0,0) ?_ ?_
 ·rintro K ⟨i,n⟩ hK ⟨h1,h2,h3⟩;simp only at h1 h2 h3;by_cases g:i<s.length
  ·rw [aQ g,dT] at h3;have sr:=cg s i g;have sl:=fN s i g;have sp:=bA s i;have t1:IntKind.i64.wrap ((n:Int)+1)=(n+1:Nat):=by rw [an]<;>omega
   have fin: ∀σ',e7 σ' ⟨[(2,i6 (n+1:Nat)),(4,.itp 4)],[(.it 4,[.itr s (i+(ah s i).2)])],[]⟩→K σ':=
    fun σ' hσ=>hK (i+(ah s i).2,n+1) σ' ⟨by simp only;omega,sl,by simp only;omega⟩ (by simp only;omega) hσ
   clear hK hR h3;by_cases hb:(ah s i).1= -1
   ·rw [if_pos hb] at sr;rw [qX s i hb] at fin;clear sl sp;simp [g,sr];refine fin _ ?_;apply am<;>simp [t1]
   ·rw [if_neg hb] at sr;have esr:(ah s i)=((ah s i).1,(ah s i).2):=rfl;rw [esr] at sr;clear esr hb sl sp;generalize (ah s i).1=r at *
    generalize (ah s i).2=w at *
    simp [g,sr];refine fin _ ?_;apply am<;>simp [t1]
  ·rw [aD g] at h3;have h3':n=R:=by simpa using h3
   subst h3';clear hK;simp [g]
 ·exact ⟨eV _,jI _,by simp only;omega⟩
 ·apply am<;>simp
open Go.Proofs
def xA (l:List UInt8) (i:Nat):Nat:=match l[i]? with |some b=>b.toNat - 48|none=>0
def jC (l:List UInt8):Nat→Nat
 |0=>0
 |i+1=>10*jC l i+xA l i
def uY (hd tail:List UInt8):Nat×Int:=
 if fS tail=false∨3<tail.length then (0,5)
 else if (jw hd).2≠0 then (0,(jw hd).2)
 else if (18446744073709551615 - jC tail 3) / 1000<(jw hd).1 then (0,8)
 else (1000*(jw hd).1+jC tail 3,0)
theorem BB (s:List UInt8):(jw s).1<18446744073709551616:=by
 unfold jw;repeat' split
 all_goals first|assumption|omega
theorem FV {l:List UInt8} {i:Nat} (h:i<l.length):xA l i=l[i].toNat - 48:=by
 unfold xA;rw [rC h]
theorem uZ {l:List UInt8} {i:Nat} (h: ¬i<l.length):xA l i=0:=by
 unfold xA;rw [Di (by omega)]
theorem u7 (l:List UInt8) (h: ∀i,xA l i≤9): ∀i,jC l i<10^i
 |0=>Nat.one_pos
 |i+1=>by
  have h1:=u7 l h i;have h2:=h i;rw [jC,Jr];omega
theorem vc {l:List UInt8} (h:fS l=true) (i:Nat):xA l i≤9:=by
 by_cases g:i<l.length
 ·rw [FV g];unfold fS at h;rw [aC] at h
  have:=fC.1 h.1 _ (rL g)
  unfold ay at this;rw [lK] at this;omega
 ·rw [uZ g];omega
open Go.Proofs
def r8:List Int→Nat→Option Nat
 |[],n=>some n
 |r::l,n=>if 48≤r∧r≤57 then r8 l ((n*10%4294967296+(r - 48).toNat)%4294967296) else none
def vd:Nat→Nat→Nat
 |0,n=>n
 |k+1,n=>vd k (n*10%4294967296)
def ve (l:List Int) (most:Nat):Nat×Bool:=
 match r8 l 0 with
 |none=>(0,false)
 |some n=>if l=[]∨most<l.length then (0,false) else (vd (most - l.length) n,true)
def xB (e:Bool) (n:Option Nat) (m:Int):Nat×Bool:=
 match n with
 |none=>(0,false)
 |some n=>if e=true∨m<0 then (0,false) else (vd m.toNat n,true)
theorem mW (s:List UInt8) (hl:s.length≤1000000) (most:Nat) (hm:most≤1000000):
  Sp Tryz.prog gl 190 [.str s,i6 most] (.tup [.int .u32 (ve (ag s 0) most).1,.bool (ve (ag s 0) most).2]):=by
 refine NY rfl rfl ?_;obtain ⟨R,hR⟩: ∃R,R=ve (ag s 0) most:=⟨_,rfl⟩;rw [←hR];have hR2:xB (s==[]) (r8 (ag s 0) 0) ((most:Int) - (ag s 0).length)=R:=by
  rw [hR];unfold ve xB;cases r8 (ag s 0) 0 with
  |none=>rfl
  |some n=>
   dsimp only;have e1:(s==[])=true↔ag s 0=[]:=by
    rw [bP];constructor
    ·rintro rfl;exact aD (by simp)
    ·intro h;by_cases g:0<s.length
     ·rw [aQ g] at h;cases h
     ·exact Dh (by omega)
   have e2:(most:Int) - (ag s 0).length<0↔most<(ag s 0).length:=by omega
   have e3:((most:Int) - (ag s 0).length).toNat=most - (ag s 0).length:=by omega
   simp only [e1,e2,e3]
 clear hR;simp [K9];refine bT (α:=Nat×Nat×Int) (fun x=>⟨[(0,.str s),(1,i6 x.2.2),(6,.int .u32 x.2.1),(10,.itp 10)],[(.it 10,[.itr s x.1])],[]⟩)
  (fun x=>x.1≤s.length∧x.2.1<4294967296∧(most:Int) - x.1≤x.2.2∧x.2.2≤most∧xB (s==[]) (r8 (ag s x.1) x.2.1) (x.2.2 - (ag s x.1).length)=R) (fun x=>s.length - x.1) ?_ (0,0,(most:Int)) ?_ ?_
 ·rintro K ⟨i,n,m⟩ hK ⟨h1,h2,h3,h4,h5⟩;simp only at h1 h2 h3 h4 h5;by_cases g:i<s.length
  ·rw [aQ g,r8,dT] at h5;have sr:=cg s i g;have sl:=fN s i g;have sp:=bA s i;have t1:IntKind.i64.wrap (m - 1)=m - 1:=by rw [an]<;>omega
   have fin: ∀n':Nat,n'<4294967296→xB (s==[]) (r8 (ag s (i+(ah s i).2)) n') (m - 1 - (ag s (i+(ah s i).2)).length)=R→
     ∀σ',e7 σ' ⟨[(0,.str s),(1,i6 (m - 1)),(6,.int .u32 n'),(10,.itp 10)],[(.it 10,[.itr s (i+(ah s i).2)])],[]⟩→K σ':=
    fun n' a1 a2 σ' hσ=>hK (i+(ah s i).2,n',m - 1) σ' ⟨sl,a1,by simp only;omega,by simp only;omega,a2⟩ (by simp only;omega) hσ
   rw [show m - ((ag s (i+(ah s i).2)).length+1:Nat)=m - 1 - (ag s (i+(ah s i).2)).length by omega] at h5;clear hK hR2;by_cases hb:(ah s i).1= -1
   ·rw [if_pos hb] at sr;rw [hb,if_neg (by omega)] at h5;have h5':R=(0,false):=by rw [←h5];rfl
    subst h5';clear sl sp fin h5;simp [g,sr]
   ·rw [if_neg hb] at sr;have esr:(ah s i)=((ah s i).1,(ah s i).2):=rfl;rw [esr] at sr;clear esr hb sl sp;generalize (ah s i).1=r at *
    generalize (ah s i).2=w at *
    by_cases d1:48≤r
    ·by_cases d2:r≤57
     ·rw [if_pos ⟨d1,d2⟩] at h5;have f:=fin _ (Nat.mod_lt _ (by decide)) h5;clear fin h5;have d1': ¬r<48:=by omega
      have d2': ¬57<r:=by omega
      have w1:IntKind.i32.wrap (r - 48)=r - 48:=by rw [fk]<;>omega
      have w2:IntKind.u32.wrap (r - 48)=r - 48:=by rw [gI]<;>omega
      have w3:IntKind.u32.wrap (IntKind.u32.wrap ((n:Int)*10)+(r - 48))=(((n*10%4294967296+(r - 48).toNat)%4294967296:Nat):Int):=by
       rw [fi,fi];omega
      generalize (n*10%4294967296+(r - 48).toNat)%4294967296=n' at *
      simp [g,sr,d1',d2',w1,w2,w3];refine f _ ?_;apply am<;>simp [t1,w1,w2,w3]
     ·rw [if_neg (by omega)] at h5;have h5':R=(0,false):=by rw [←h5];rfl
      subst h5';have d1': ¬r<48:=by omega
      have d2':57<r:=by omega
      clear fin h5;simp [g,sr,d1',d2']
    ·rw [if_neg (by omega)] at h5;have h5':R=(0,false):=by rw [←h5];rfl
     subst h5';have d1':r<48:=by omega
     clear fin h5;simp [g,sr,d1']
  ·rw [aD g,r8] at h5;clear hK hR2;have lb:((([]:List Int).length:Nat):Int)=0:=rfl;rw [lb,Int.sub_zero] at h5;unfold xB at h5;dsimp only at h5;by_cases e:s=[]
   ·subst e;rw [if_pos (Or.inl (show (([]:List UInt8)==[])=true from rfl))] at h5;subst h5;simp [g]
   have en:(s==[])=false:=dh.2 e;by_cases mn:m<0
   ·rw [if_pos (Or.inr mn)] at h5;subst h5;simp [g,e,en,mn]
   rw [if_neg (by rw [en];rintro (h|h);cases h;exact mn h)] at h5;simp [g,e,en,mn];obtain ⟨M,rfl⟩: ∃M:Nat,m=M:=⟨m.toNat,by omega⟩;rw [Int.toNat_natCast] at h5;refine bT (α:=Nat×Nat) (fun x=>⟨[(1,i6 x.1),(6,.int .u32 x.2)],[],[]⟩) (fun x=>x.1≤M∧x.2<4294967296∧(vd x.1 x.2,true)=R) (fun x=>x.1) ?_ (M,n) ?_ ?_
   ·rintro K ⟨k,q⟩ hK ⟨k1,k2,k3⟩;simp only at k1 k2 k3;cases k with
    |zero=>
     rw [vd] at k3;subst k3;clear hK;simp
    |succ k=>
     rw [vd] at k3;have t1:IntKind.i64.wrap (((k+1:Nat):Int) - 1)=k:=by rw [an]<;>omega
     have w3:IntKind.u32.wrap ((q:Int)*10)=((q*10%4294967296:Nat):Int):=by
      rw [fi];omega
     have f:=fun σ' hσ=>hK (k,q*10%4294967296) σ' ⟨by simp only;omega,Nat.mod_lt _ (by decide),k3⟩ (by simp only;omega) hσ
     have k0:(0:Int)<((k+1:Nat):Int):=by omega
     clear hK k3;generalize q*10%4294967296=q' at *
     generalize hkk:((k+1:Nat):Int)=kk at *
     simp [k0,w3];refine f _ ?_;apply am<;>simp [t1,w3]
   ·exact ⟨eV _,h2,h5⟩
   ·apply am<;>simp
 ·exact ⟨jI _,by simp only;omega,by simp only;omega,by simp only;omega,hR2⟩
 ·apply am<;>simp
open Go.Proofs
theorem iX (s:List UInt8) (i:Nat) (h:i<s.length):(s[i].toNat<128∧ah s i=((s[i].toNat:Int),1))∨(128≤s[i].toNat∧((ah s i).1<0∨128≤(ah s i).1)):=by
 by_cases c:s[i].toNat<128
 ·left;refine ⟨c,?_⟩;unfold ah;simp only [kb h];rw [if_pos c]
 ·right;refine ⟨by omega,?_⟩;by_cases p:(ah s i).1<0∨128≤(ah s i).1
  ·exact p
  ·have:=oQ (s:=s) (i:=i) rfl (by omega) (by omega)
   rw [kb h] at this;omega
def Ii:List UInt8→Nat→Option Nat
 |[],n=>some n
 |b::l,n=>if ay b=true then Ii l ((n*10%4294967296+(b.toNat - 48))%4294967296) else none
theorem bf (b:UInt8):ay b=true↔48≤b.toNat∧b.toNat≤57:=by
 unfold ay;rw [lK]
theorem xC (s:List UInt8): ∀k i n,s.length - i≤k→r8 (ag s i) n=Ii (s.drop i) n:=by
 intro k;induction k with
 |zero=>
  intro i n h;rw [aD (by omega),Aq (by omega)];rfl
 |succ k ih=>
  intro i n h;by_cases g:i<s.length
  ·rw [aQ g,sf g,r8,Ii];rcases iX s i g with ⟨a,e⟩|⟨a,e⟩
   ·rw [e];dsimp only;by_cases d:48≤s[i].toNat∧s[i].toNat≤57
    ·rw [if_pos (by omega),if_pos ((bf _).2 d),show ((s[i].toNat:Int) - 48).toNat=s[i].toNat - 48 by omega];exact ih _ _ (by omega)
    ·rw [if_neg (by omega),if_neg (fun q=>d ((bf _).1 q))]
   ·rw [if_neg (by omega),if_neg (fun q=>by have:=(bf _).1 q;omega)]
  ·rw [aD g,Aq (by omega)];rfl
theorem FW (s:List UInt8): ∀n,s.all ay=false→Ii s n=none:=by
 induction s with
 |nil=>intro n h;cases h
 |cons b l ih=>
  intro n h;rw [Ii];rw [List.all_cons] at h;by_cases c:ay b=true
  ·rw [if_pos c];rw [c,kL] at h;exact ih _ h
  ·rw [if_neg c]
theorem Ij (s:List UInt8): ∀n,s.all ay=true→n<10^(9 - s.length)→s.length≤9→Ii s n=some (s.foldl (fun a b=>10*a+(b.toNat - 48)) n):=by
 induction s with
 |nil=>intro n _ _ _;rfl
 |cons b l ih=>
  intro n h hn hl;rw [List.all_cons,aC] at h;have d:=(bf b).1 h.1;rw [dT] at hn hl;have e9:9 - l.length=(9 - (l.length+1))+1:=by omega
  have p:10^(9 - l.length)=10*10^(9 - (l.length+1)):=by rw [e9,Jr,Jq]
  have p9:(10:Nat)^(9 - l.length)≤10^9:=Nat.pow_le_pow_right (by decide) (by omega);have v9:(10:Nat)^9=1000000000:=by decide
  rw [v9] at p9;generalize (10:Nat)^(9 - (l.length+1))=X at *
  rw [Ii,if_pos h.1,List.foldl_cons];have e:(n*10%4294967296+(b.toNat - 48))%4294967296=10*n+(b.toNat - 48):=by
   rw [vk (show n*10<4294967296 by omega),vk (by omega)];omega
  rw [e];exact ih _ h.2 (by omega) (by omega)
theorem Kv (s:List UInt8): ∀n,s.all ay=true→ ∃v,Ii s n=some v:=by
 induction s with
 |nil=>intro n _;exact ⟨n,rfl⟩
 |cons b l ih=>
  intro n h;rw [List.all_cons,aC] at h;rw [Ii,if_pos h.1];exact ih _ h.2
theorem ii (s:List UInt8): ∀k i,s.length - i≤k→i≤s.length→(s.drop i).all ay=true→(ag s i).length=s.length - i:=by
 intro k;induction k with
 |zero=>
  intro i h hi _;rw [aD (by omega),vA];omega
 |succ k ih=>
  intro i h hi hd;by_cases g:i<s.length
  ·rw [sf g,List.all_cons,aC] at hd;have d:=(bf _).1 hd.1;rw [aQ g,dT];rcases iX s i g with ⟨a,e⟩|⟨a,e⟩
   ·rw [e];dsimp only;rw [ih (i+1) (by omega) (by omega) hd.2];omega
   ·omega
  ·rw [aD g,vA];omega
theorem ri (s:List UInt8):ag s 0=[]↔s=[]:=by
 constructor
 ·intro h;by_cases g:0<s.length
  ·rw [aQ g] at h;cases h
  ·exact Dh (by omega)
 ·rintro rfl;exact aD (by simp)
theorem BC: ∀(j n:Nat),n*10^j<4294967296→vd j n=n*10^j
 |0,n,_=>by rw [vd];simp
 |j+1,n,h=>by
  have e:n*10^(j+1)=n*10*10^j:=by rw [Jr,Jq (10^j) 10,Nat.mul_assoc]
  rw [e] at h ⊢;have q:1≤10^j:=Nat.pos_of_ne_zero (by simp)
  have:n*10≤n*10*10^j:=Nat.le_mul_of_pos_right _ q
  rw [vd,vk (by omega),BC j (n*10) h]
theorem Ik (s:List UInt8) (m:Nat) (h:s.all ay=false∨s=[]∨m<s.length):ve (ag s 0) m=(0,false):=by
 unfold ve;rw [xC s s.length 0 0 (by omega),Gz];cases hd:s.all ay
 ·rw [FW s 0 hd]
 ·obtain ⟨v,hv⟩:=Kv s 0 hd;rw [hv];dsimp only;rw [if_pos];rcases h with h|h|h
  ·rw [hd] at h;cases h
  ·exact .inl ((ri s).2 h)
  ·right;rw [ii s s.length 0 (by omega) (by omega) hd];exact h
theorem FX (s:List UInt8) (m:Nat) (h1:s.all ay=true) (h2:s≠[]) (h3:s.length≤m) (h4:m≤9):ve (ag s 0) m=(aH s*10^(m - s.length),true):=by
 unfold ve;rw [xC s s.length 0 0 (by omega),Gz,Ij s 0 h1 (Nat.pos_of_ne_zero (by simp)) (by omega)];dsimp only;have rd:=ii s s.length 0 (by omega) (by omega) h1;rw [if_neg (by rintro (h|h);exact h2 ((ri s).1 h);omega),rd,Nat.sub_zero];have hu:=qO s h1;have e:aH s=s.foldl (fun a b=>10*a+(b.toNat - 48)) 0:=rfl;rw [←e];have b:aH s*10^(m - s.length)<4294967296:=by
  have h5:aH s*10^(m - s.length)<10^s.length*10^(m - s.length):=Nat.mul_lt_mul_of_pos_right hu (Nat.pos_of_ne_zero (by simp));rw [←Nat.pow_add,show s.length+(m - s.length)=m by omega] at h5;have h6:(10:Nat)^m≤10^9:=Nat.pow_le_pow_right (by decide) h4;have v9:(10:Nat)^9=1000000000:=by decide
  omega
 rw [BC _ _ b]
end Go.Ai
namespace Go.Ai
open Go.Proofs Go.Shelf
def aG:Ren:={
 f:=fun x=>match x with
  |160=>142
  |232=>169
  |231=>182
  |227=>170
  |234=>171
  |233=>183
  |236=>172
  |235=>184
  |228=>204
  |271=>205
  |151=>206
  |197=>208
  |120=>226
  |152=>219
  |260=>227
  |137=>238
  |119=>239
  |224=>230
  |225=>229
  |217=>228
  |266=>243
  |n=>n
 t:=fun x=>match x with
  |9=>9
  |4=>4
  |3=>3
  |5=>5
  |117=>214
  |116=>213
  |0=>0
  |124=>217
  |21=>21
  |105=>249
  |46=>173
  |119=>201
  |139=>204
  |138=>203
  |n=>n
 g:=fun x=>match x with
  |3=>0
  |4=>1
  |n=>n}
set_option maxRecDepth 100000 in
theorem xD:Lays.n160 Tryz.prog aG where
 mixed:=by kernel_rfl
 f119:=Eq.trans Tryz.func239 (congrArg some (show Tryz.f239=Body.n119 aG by kernel_rfl))
 f120:=Eq.trans Tryz.func226 (congrArg some (show Tryz.f226=Body.n120 aG by kernel_rfl))
 f137:=Eq.trans Tryz.func238 (congrArg some (show Tryz.f238=Body.n137 aG by kernel_rfl))
 f151:=Eq.trans Tryz.func206 (congrArg some (show Tryz.f206=Body.n151 aG by kernel_rfl))
 f152:=Eq.trans Tryz.func219 (congrArg some (show Tryz.f219=Body.n152 aG by kernel_rfl))
 f160:=Eq.trans Tryz.func142 (congrArg some (show Tryz.f142=Body.n160 aG by kernel_rfl))
 f197:=Eq.trans Tryz.func208 (congrArg some (show Tryz.f208=Body.n197 aG by kernel_rfl))
 f217:=Eq.trans Tryz.func228 (congrArg some (show Tryz.f228=Body.n217 aG by kernel_rfl))
 f224:=Eq.trans Tryz.func230 (congrArg some (show Tryz.f230=Body.n224 aG by kernel_rfl))
 f225:=Eq.trans Tryz.func229 (congrArg some (show Tryz.f229=Body.n225 aG by kernel_rfl))
 f227:=Eq.trans Tryz.func170 (congrArg some (show Tryz.f170=Body.n227 aG by kernel_rfl))
 f228:=Eq.trans Tryz.func204 (congrArg some (show Tryz.f204=Body.n228 aG by kernel_rfl))
 f231:=Eq.trans Tryz.func182 (congrArg some (show Tryz.f182=Body.n231 aG by kernel_rfl))
 f232:=Eq.trans Tryz.func169 (congrArg some (show Tryz.f169=Body.n232 aG by kernel_rfl))
 f233:=Eq.trans Tryz.func183 (congrArg some (show Tryz.f183=Body.n233 aG by kernel_rfl))
 f234:=Eq.trans Tryz.func171 (congrArg some (show Tryz.f171=Body.n234 aG by kernel_rfl))
 f235:=Eq.trans Tryz.func184 (congrArg some (show Tryz.f184=Body.n235 aG by kernel_rfl))
 f236:=Eq.trans Tryz.func172 (congrArg some (show Tryz.f172=Body.n236 aG by kernel_rfl))
 f260:=Eq.trans Tryz.func227 (congrArg some (show Tryz.f227=Body.n260 aG by kernel_rfl))
 f266:=Eq.trans Tryz.func243 (congrArg some (show Tryz.f243=Body.n266 aG by kernel_rfl))
 f271:=Eq.trans Tryz.func205 (congrArg some (show Tryz.f205=Body.n271 aG by kernel_rfl))
 t0:=Tryz.underlying0
 a0:=Tryz.isAgg0
 z0:=Tryz.sizeOf0
 v0:=Tryz.zeroValue0
 t3:=Tryz.underlying3
 a3:=Tryz.isAgg3
 z3:=Tryz.sizeOf3
 v3:=Tryz.zeroValue3
 t4:=Tryz.underlying4
 a4:=Tryz.isAgg4
 z4:=Tryz.sizeOf4
 v4:=Tryz.zeroValue4
 t5:=Tryz.underlying5
 a5:=Tryz.isAgg5
 z5:=Tryz.sizeOf5
 v5:=Tryz.zeroValue5
 t9:=Tryz.underlying9
 a9:=Tryz.isAgg9
 z9:=Tryz.sizeOf9
 v9:=Tryz.zeroValue9
 t21:=Tryz.underlying21
 a21:=Tryz.isAgg21
 z21:=Tryz.sizeOf21
 v21:=Tryz.zeroValue21
 t46:=Tryz.underlying173
 a46:=Tryz.isAgg173
 z46:=Tryz.sizeOf173
 v46:=Tryz.zeroValue173
 t105:=Tryz.underlying249
 a105:=Tryz.isAgg249
 z105:=Tryz.sizeOf249
 v105:=Tryz.zeroValue249
 t116:=Tryz.underlying213
 a116:=Tryz.isAgg213
 z116:=Tryz.sizeOf213
 t117:=Tryz.underlying214
 a117:=Tryz.isAgg214
 z117:=Tryz.sizeOf214
 v117:=Tryz.zeroValue214
 t119:=Tryz.underlying201
 a119:=Tryz.isAgg201
 z119:=Tryz.sizeOf201
 t124:=Tryz.underlying217
 a124:=Tryz.isAgg217
 z124:=Tryz.sizeOf217
 v124:=Tryz.zeroValue217
 t138:=Tryz.underlying203
 a138:=Tryz.isAgg203
 z138:=Tryz.sizeOf203
 v138:=Tryz.zeroValue203
 t139:=Tryz.underlying204
 a139:=Tryz.isAgg204
 z139:=Tryz.sizeOf204
 v139:=Tryz.zeroValue204
 g3:=by kernel_rfl
 g4:=by kernel_rfl
end Go.Ai
namespace Go.Ai
open Go.Proofs Go.Shelf
theorem lF (s:List UInt8) (hs:s.length≤1000000):Sp Tryz.prog gl 142 [.str s,.str [48,49,50,51,52,53,54,55,56,57]] (.str (Lib.trimS s [48,49,50,51,52,53,54,55,56,57])):=by
 refine ee xD.f160 (by kernel_rfl) (by kernel_rfl) ?_;intro S gb w vs hvs hag;simp only [aa] at hvs;obtain ⟨v1,_,rfl,p1,v2,_,rfl,p2,rfl⟩:=hvs;simp only [PR] at p1 p2;subst p1;subst p2;refine (Any.strings_Trim_laid xD (by kernel_rfl) ⟨s.toArray⟩ ⟨[48,49,50,51,52,53,54,55,56,57].toArray⟩ w (by simp only [ByteArray.size,List.size_toArray];omega) (by decide) (ascii_of_all (by decide))).mono ?_;rintro e w' ⟨rfl,h⟩;exact ⟨_,rfl,h,by simp only [PR]⟩
set_option maxRecDepth 100000 in
theorem Kw (b:UInt8):([48,49,50,51,52,53,54,55,56,57]:List UInt8).contains b=ay b:=by
 have h: ∀n:Fin 256,([48,49,50,51,52,53,54,55,56,57]:List UInt8).contains (UInt8.ofNat n.1)=decide (48≤n.1∧n.1≤57):=by decide
 have h2:=h ⟨b.toNat,b.toNat_lt⟩;rw [UInt8.ofNat_toNat] at h2;exact h2
theorem vf {α:Type} (p:α→Bool): ∀l:List α,l.dropWhile p=[]↔l.all p=true
 |[]=>by simp
 |a::l=>by
  have ih:=vf p l;rw [List.dropWhile_cons,List.all_cons];cases h:p a
  ·simp
  ·simpa using ih
theorem n9 (s:List UInt8):(Lib.trimS s [48,49,50,51,52,53,54,55,56,57]==[])=s.all ay:=by
 have e:(fun b:UInt8=>([48,49,50,51,52,53,54,55,56,57]:List UInt8).contains b)=ay:=funext Kw;unfold Lib.trimS Lib.trimLeftS Lib.trimRightS;rw [e,Bool.eq_iff_iff,bP,vf,List.all_reverse];constructor
 ·intro h;have h2:s.reverse.dropWhile ay=[]:=by
   cases g:s.reverse.dropWhile ay with
   |nil=>rfl
   |cons a t=>
    have ha:ay a=false:=by
     have:=List.head?_dropWhile_not ay s.reverse
     rw [g] at this;simpa using this
    rw [g,List.all_cons,ha] at h;cases h
  rw [vf,List.all_reverse] at h2;exact h2
 ·intro h;rw [←List.all_reverse,←vf] at h;rw [h];rfl
end Go.Ai
namespace Go.Ai
open Go.Proofs Go.Shelf
def cV:Ren:={
 f:=fun x=>match x with
  |219=>214
  |217=>228
  |225=>229
  |224=>230
  |267=>231
  |266=>243
  |314=>244
  |n=>n
 t:=fun x=>match x with
  |9=>9
  |3=>3
  |4=>4
  |5=>5
  |46=>173
  |146=>220
  |51=>39
  |n=>n
 g:=fun x=>match x with
  |1=>3
  |n=>n}
set_option maxRecDepth 100000 in
theorem Il:Lays.n219 Tryz.prog cV where
 mixed:=by kernel_rfl
 f217:=Eq.trans Tryz.func228 (congrArg some (show Tryz.f228=Body.n217 cV by kernel_rfl))
 f219:=Eq.trans Tryz.func214 (congrArg some (show Tryz.f214=Body.n219 cV by kernel_rfl))
 f224:=Eq.trans Tryz.func230 (congrArg some (show Tryz.f230=Body.n224 cV by kernel_rfl))
 f225:=Eq.trans Tryz.func229 (congrArg some (show Tryz.f229=Body.n225 cV by kernel_rfl))
 f266:=Eq.trans Tryz.func243 (congrArg some (show Tryz.f243=Body.n266 cV by kernel_rfl))
 f267:=Eq.trans Tryz.func231 (congrArg some (show Tryz.f231=Body.n267 cV by kernel_rfl))
 f314:=Eq.trans Tryz.func244 (congrArg some (show Tryz.f244=Body.n314 cV by kernel_rfl))
 t3:=Tryz.underlying3
 a3:=Tryz.isAgg3
 z3:=Tryz.sizeOf3
 v3:=Tryz.zeroValue3
 t4:=Tryz.underlying4
 a4:=Tryz.isAgg4
 z4:=Tryz.sizeOf4
 v4:=Tryz.zeroValue4
 t5:=Tryz.underlying5
 a5:=Tryz.isAgg5
 z5:=Tryz.sizeOf5
 v5:=Tryz.zeroValue5
 t9:=Tryz.underlying9
 a9:=Tryz.isAgg9
 z9:=Tryz.sizeOf9
 v9:=Tryz.zeroValue9
 t46:=Tryz.underlying173
 a46:=Tryz.isAgg173
 z46:=Tryz.sizeOf173
 v46:=Tryz.zeroValue173
 t51:=Tryz.underlying39
 a51:=Tryz.isAgg39
 z51:=Tryz.sizeOf39
 v51:=Tryz.zeroValue39
 t146:=Tryz.underlying220
 a146:=Tryz.isAgg220
 z146:=Tryz.sizeOf220
 v146:=Tryz.zeroValue220
 g1:=by kernel_rfl
end Go.Ai
