/- P5: a part of the proof: the rules, or what functions compute. Conditions: as each theorem says. -/
import Derived.Test.YtpaipepdakekbaaGreatDoorP3
import Derived.Test.YtpaipepdakekbaaGreatDoorP4
import Derived.Test.YtpaipepdakekbaaGreatDoorAiUse
import Derived.Test.YtpaipepdakekbaaGreatDoorP1
import Derived.Test.YtpaipepdakekbaaGreatDoorAiExt
set_option linter.unusedSimpArgs false
set_option linter.unusedVariables false
set_option maxRecDepth 20000
namespace Go.Ai
open Go.Proofs
def finT (V:List UInt8→TV) (s:List UInt8) (p:Sc×Bool):TR:=
 if p.2=true then (if (endF V s p.1).2=true then ⟨(endF V s p.1).1.out,0,0,0⟩ else .bad (endF V s p.1).1) else .bad p.1
theorem wthn_bad:wthn (-1)=false∧wthn 65533=false:=⟨by decide,by decide⟩
theorem freshF_r65 (x:Sc) (i:Nat) (r:Int):freshF x i (r65 r)=freshF x i r:=by
 unfold r65
 by_cases c:r= -1
 ·subst c
  rw [if_pos rfl]
  unfold freshF
  simp [wthn_bad.1,wthn_bad.2]
 ·rw [if_neg c]
theorem insideF_r65 (U:List UInt8→List UInt8×Int) (s:List UInt8) (x:Sc) (i:Nat) (r:Int):insideF U s x i (r65 r)=insideF U s x i r:=by
 unfold r65
 by_cases c:r= -1
 ·subst c
  rw [if_pos rfl]
  unfold insideF
  simp
 ·rw [if_neg c]
theorem takeF_r65 (V:List UInt8→TV) (U:List UInt8→List UInt8×Int) (s:List UInt8) (x:Sc) (i:Nat) (r:Int):takeF V U s x i (r65 r)=takeF V U s x i r:=by
 unfold takeF
 rw [insideF_r65,freshF_r65,freshF_r65]
 have h:wthn (r65 r)=wthn r:=by
  unfold r65
  by_cases c:r= -1
  ·subst c;rw [if_pos rfl,wthn_bad.1,wthn_bad.2]
  ·rw [if_neg c]
 have h2:(r65 r=10)=(r=10):=by
  unfold r65
  by_cases c:r= -1
  ·subst c;simp
  ·rw [if_neg c]
 rw [h]
 simp only [h2]
theorem adv_r65 (x:Sc) (r:Int):x.adv (r65 r)=x.adv r:=by
 unfold r65
 by_cases c:r= -1
 ·subst c;rfl
 ·rw [if_neg c]
theorem runF_step (V:List UInt8→TV) (U:List UInt8→List UInt8×Int) (s:List UInt8) (x:Sc) (i:Nat) (h:i<s.length):runF V U s x i=
  if (takeF V U s x i (stepR s i).1).2=true then runF V U s ((takeF V U s x i (stepR s i).1).1.adv (stepR s i).1) (i+(stepR s i).2) else ((takeF V U s x i (stepR s i).1).1,false):=by
 rw [runF_in V U s x i h,takeF_r65,adv_r65]
theorem plc_head (l:List Int) (a b:Int):(plc a b l).getD 0 (0,0)=(a,b):=by cases l<;>rfl
theorem plc_next: ∀(l:List Int) (a b:Int) (k:Nat) (h:k<l.length),(plc a b l).getD (k+1) (0,0)=if l[k]=10 then (((plc a b l).getD k (0,0)).1+1,1) else (((plc a b l).getD k (0,0)).1,((plc a b l).getD k (0,0)).2+1)
 |[],a,b,k,h=>absurd h (by simp)
 |r::l,a,b,0,h=>by
  rw [plc_head]
  simp only [List.getElem_cons_zero]
  rw [plc,List.getD_cons_succ]
  split
  ·rw [plc_head]
  ·rw [plc_head]
 |r::l,a,b,k+1,h=>by
  simp only [List.getElem_cons_succ]
  rw [plc,List.getD_cons_succ,List.getD_cons_succ]
  split
  ·exact plc_next l _ _ k (by simpa using h)
  ·exact plc_next l _ _ k (by simpa using h)
structure At (s:List UInt8) (l:List Int) (i k:Nat):Prop where
 r:runesL s i=l.drop k
 i:i≤s.length
 k:k≤l.length
theorem At.next {s:List UInt8} {l:List Int} {i k:Nat} (h:At s l i k) (g:k<l.length):i<s.length∧(stepR s i).1=l[k]∧At s l (i+(stepR s i).2) (k+1):=by
 have e:=h.r
 rw [List.drop_eq_getElem_cons g] at e
 by_cases c:i<s.length
 ·rw [runesL_in c] at e
  injection e with e1 e2
  exact ⟨c,e1,e2,stepR_le s i c,g⟩
 ·rw [runesL_out c] at e;cases e
theorem At.end {s:List UInt8} {l:List Int} {i:Nat} (h:At s l i l.length):i=s.length:=by
 have e:=h.r
 rw [List.drop_length] at e
 by_cases c:i<s.length
 ·rw [runesL_in c] at e;cases e
 ·have:=h.i;omega
theorem subR_snoc {l:List Int} {a j:Nat} (h:j<l.length) (ha:a≤j):subR l a (j+1)=subR l a j++[l[j]]:=by
 unfold subR
 rw [List.take_succ_eq_append_getElem h,List.drop_append_of_le_length (by rw [List.length_take];omega)]
theorem subR_nil (l:List Int) (a:Nat):subR l a a=[]:=by
 unfold subR
 rw [List.drop_eq_nil_of_le (by rw [List.length_take];omega)]
theorem takeF_0 (V:List UInt8→TV) (U:List UInt8→List UInt8×Int) (s:List UInt8) (x:Sc) (i:Nat) (r:Int) (h:x.st=0):takeF V U s x i r=freshF x i r:=by
 unfold takeF
 rw [if_neg (by omega),if_neg (by omega),if_neg (by omega)]
theorem endF_0 (V:List UInt8→TV) (s:List UInt8) (x:Sc) (h:x.st=0∨x.st=4):endF V s x=((x.begin s.length 0).add (.t 0 [] 0),true):=by
 unfold endF
 rw [if_neg (by omega),if_neg (by omega)]
theorem finT_end (V:List UInt8→TV) (U:List UInt8→List UInt8×Int) (s:List UInt8) (x:Sc) (h:x.st=0∨x.st=4):finT V s (runF V U s x s.length)=⟨x.out++[⟨0,[],0,x.al,x.ac⟩],0,0,0⟩:=by
 rw [runF_out V U s x s.length (by omega)]
 unfold finT
 rw [if_pos rfl,endF_0 V s x h,if_pos rfl]
 rfl
theorem refGo_end (VR:List Int→TV) (U:List UInt8→List UInt8×Int) (l:List Int) (P:List (Int×Int)) (f:Nat) (out:List Tk):refGo VR U l P (f+1) l.length out=⟨out++[⟨0,[],0,(P.getD l.length (0,0)).1,(P.getD l.length (0,0)).2⟩],0,0,0⟩:=by
 rw [refGo,List.getElem?_eq_none (by omega)]
theorem refGo_in (VR:List Int→TV) (U:List UInt8→List UInt8×Int) (l:List Int) (P:List (Int×Int)) (f k:Nat) (out:List Tk) (h:k<l.length):refGo VR U l P (f+1) k out=
  if l[k]=32∨l[k]=9∨l[k]=10 then refGo VR U l P f (k+1) out
   else if l[k]=35 then refGo VR U l P f (skp l k) out
   else if (oneF VR U l k l[k]).c=0 then refGo VR U l P f (oneF VR U l k l[k]).en (out++[⟨(oneF VR U l k l[k]).k,(oneF VR U l k l[k]).w,(oneF VR U l k l[k]).n,(P.getD k (0,0)).1,(P.getD k (0,0)).2⟩])
   else ⟨[],(oneF VR U l k l[k]).c,(P.getD k (0,0)).1,(P.getD k (0,0)).2⟩:=by
 rw [refGo,List.getElem?_eq_getElem h]
def PosAt (l:List Int) (x:Sc) (k:Nat):Prop:=(x.al,x.ac)=(plc 1 1 l).getD k (0,0)
theorem PosAt.adv {l:List Int} {x:Sc} {k:Nat} (h:PosAt l x k) (g:k<l.length) {y:Sc} (h1:y.al=x.al) (h2:y.ac=x.ac):PosAt l (y.adv l[k]) (k+1):=by
 unfold PosAt at h ⊢
 rw [plc_next l 1 1 k g,←h]
 unfold Sc.adv
 split
 ·rw [←h1]
 ·rw [←h1,←h2]
theorem PosAt.one {l:List Int} {x:Sc} {k:Nat} (h:PosAt l x k):((plc 1 1 l).getD k (0,0)).1=x.al∧((plc 1 1 l).getD k (0,0)).2=x.ac:=by
 unfold PosAt at h
 rw [←h]
 exact ⟨rfl,rfl⟩
theorem Sc.adv_st (x:Sc) (r:Int):(x.adv r).st=x.st:=by unfold Sc.adv;split<;>rfl
theorem Sc.adv_f (x:Sc) (r:Int):(x.adv r).fl=x.fl∧(x.adv r).fc=x.fc:=by unfold Sc.adv;split<;>exact ⟨rfl,rfl⟩
open Go.Proofs
structure SHyp (V:List UInt8→TV) (U:List UInt8→List UInt8×Int) (VR:List Int→TV) (U':List Int→List UInt8×Int):Prop where
 u: ∀w,U w=U' (runesL w 0)
 v: ∀m:List Int,m≠[]→(∀r∈m,wthn r=true)→VR m=V (textR m)
 e: ∀w c,V w= .e c→c≠0
def Bsp (V:List UInt8→TV) (U:List UInt8→List UInt8×Int) (VR:List Int→TV) (s:List UInt8) (l:List Int) (k:Nat):Prop:=
 ∀i x f,At s l i k→x.st=0→PosAt l x k→l.length+1 - k≤f→finT V s (runF V U s x i)=refGo VR U l (plc 1 1 l) f k x.out
variable {V:List UInt8→TV} {U:List UInt8→List UInt8×Int} {VR:List Int→TV} {U':List Int→List UInt8×Int} {s:List UInt8} {l:List Int}
theorem bsp_end:Bsp V U VR s l l.length:=by
 intro i x f hA hst hP hf
 obtain rfl:=hA.end
 obtain ⟨f,rfl⟩: ∃g,f=g+1:=⟨f - 1,by omega⟩
 rw [finT_end V U s x (.inl hst),refGo_end,hP.one.1,hP.one.2]
theorem takeF_4 (x:Sc) (i:Nat) (r:Int) (h:x.st=4):takeF V U s x i r=((if r=10 then {x with st:=0} else x),true):=by
 unfold takeF
 rw [if_neg (by omega),if_pos h]
theorem remGo: ∀n j,l.length - j≤n→(∀k',j<k'→k'≤l.length→Bsp V U VR s l k')→ ∀i x f,At s l i j→x.st=4→PosAt l x j→l.length+1 - j≤f→finT V s (runF V U s x i)=refGo VR U l (plc 1 1 l) f (skp l j) x.out:=by
 intro n
 induction n with
 |zero=>
  intro j hj hB i x f hA hst hP hf
  have:j=l.length:=by have:=hA.k;omega
  subst this
  obtain rfl:=hA.end
  obtain ⟨f,rfl⟩: ∃g,f=g+1:=⟨f - 1,by omega⟩
  rw [finT_end V U s x (.inr hst),skp_out (by omega),refGo_end,hP.one.1,hP.one.2]
 |succ n ih=>
  intro j hj hB i x f hA hst hP hf
  by_cases g:j<l.length
  ·obtain ⟨hi,hr,hA'⟩:=hA.next g
   rw [runF_step V U s x i hi,hr,takeF_4 x i _ hst,if_pos rfl]
   dsimp only
   rw [skp_in g]
   by_cases c:l[j]=10
   ·rw [if_pos c,if_pos c]
    obtain ⟨f,rfl⟩: ∃g,f=g+1:=⟨f - 1,by omega⟩
    rw [refGo_in VR U l _ f j _ g,if_pos (.inr (.inr c))]
    have:=hB (j+1) (by omega) (by omega) _ (({x with st:=0}:Sc).adv l[j]) f hA' (by rw [Sc.adv_st]) (hP.adv g rfl rfl) (by omega)
    rw [Sc.adv_out] at this
    exact this
   ·rw [if_neg c,if_neg c]
    have:=ih (j+1) (by omega) (fun k' a b=>hB k' (by omega) b) _ (x.adv l[j]) f hA' (by rw [Sc.adv_st];exact hst) (hP.adv g rfl rfl) (by omega)
    rw [Sc.adv_out] at this
    exact this
  ·have:j=l.length:=by have:=hA.k;omega
   subst this
   obtain rfl:=hA.end
   obtain ⟨f,rfl⟩: ∃g,f=g+1:=⟨f - 1,by omega⟩
   rw [finT_end V U s x (.inr hst),skp_out (by omega),refGo_end,hP.one.1,hP.one.2]
theorem subR_ne {k0 j:Nat} (h:k0<j) (hj:j≤l.length):subR l k0 j≠[]:=by
 intro e
 have:(subR l k0 j).length=0:=by rw [e];rfl
 unfold subR at this
 rw [List.length_drop,List.length_take] at this
 omega
theorem wthn_ne {r:Int} (h:wthn r=true):r≠ -1:=by
 intro e
 rw [e,wthn_bad.1] at h
 cases h
def wordR (VR:List Int→TV) (U:List UInt8→List UInt8×Int) (l:List Int) (f e:Nat) (v:TV) (x:Sc):TR:=match v with
 | .e c=>⟨[],c,x.fl,x.fc⟩
 | .t k w n=>refGo VR U l (plc 1 1 l) f e (x.out++[⟨k,w,n,x.fl,x.fc⟩])
theorem word_end (H:SHyp V U VR U') {j k0 i f:Nat} {x:Sc} (hB: ∀k',k0<k'→k'≤l.length→Bsp V U VR s l k') (hk:k0<j) (hA:At s l i j) (hst:x.st=1) (hP:PosAt l x j) (hW:Wk s x.sa (subR l k0 j) i) (hw: ∀r∈subR l k0 j,wthn r=true) (hf:l.length≤f+k0)
  (hn: ∀h:j<l.length,wthn l[j]=false):finT V s (runF V U s x i)=wordR VR U l f j (VR (subR l k0 j)) x:=by
 have et:subS s x.sa i=textR (subR l k0 j):=Wk_text s _ _ _ hA.i hW (fun r hr=>wthn_ne (hw r hr))
 have ev:=H.v (subR l k0 j) (subR_ne hk hA.k) hw
 rw [ev,←et]
 cases hv:V (subS s x.sa i) with
 |e c=>
  by_cases g:j<l.length
  ·obtain ⟨hi,hr,hA'⟩:=hA.next g
   rw [runF_step V U s x i hi,hr]
   have ht:takeF V U s x i l[j]=(x.add (.e c),false):=by
    unfold takeF
    rw [if_pos hst,if_neg (by rw [hn g];decide),hv,if_neg (show ¬(TV.e c).ok=true from by intro h;cases h)]
   rw [ht,if_neg (show ¬(x.add (.e c),false).2=true from by intro h;cases h)]
   rfl
  ·have:j=l.length:=by have:=hA.k;omega
   subst this
   obtain rfl:=hA.end
   rw [runF_out V U s x _ (by omega)]
   unfold finT
   rw [if_pos rfl]
   have ht:endF V s x=(x.add (.e c),false):=by
    unfold endF
    rw [if_pos hst,hv,if_neg (show ¬(TV.e c).ok=true from by intro h;cases h)]
   rw [ht,if_neg (show ¬(x.add (.e c),false).2=true from by intro h;cases h)]
   rfl
 |t k w n=>
  have hs:runF V U s x i=runF V U s (x.add (.t k w n)) i∨finT V s (runF V U s x i)=finT V s (runF V U s (x.add (.t k w n)) i):=by
   by_cases g:j<l.length
   ·obtain ⟨hi,hr,hA'⟩:=hA.next g
    left
    rw [runF_step V U s x i hi,runF_step V U s (x.add (.t k w n)) i hi,hr,takeF_0 V U s (x.add (.t k w n)) i _ rfl]
    have ht:takeF V U s x i l[j]=freshF (x.add (.t k w n)) i l[j]:=by
     unfold takeF
     rw [if_pos hst,if_neg (by rw [hn g];decide),hv,if_pos (show (TV.t k w n).ok=true from rfl)]
    rw [ht]
   ·right
    have:j=l.length:=by have:=hA.k;omega
    subst this
    obtain rfl:=hA.end
    rw [runF_out V U s x _ (by omega),runF_out V U s (x.add (.t k w n)) _ (by omega)]
    unfold finT
    rw [if_pos rfl,if_pos rfl]
    have ht:endF V s x=(((x.add (.t k w n)).begin s.length 0).add (.t 0 [] 0),true):=by
     unfold endF
     rw [if_pos hst,hv,if_pos (show (TV.t k w n).ok=true from rfl)]
    have ht2:=endF_0 V s (x.add (.t k w n)) (.inl rfl)
    simp only [ht,ht2]
  have hs:finT V s (runF V U s x i)=finT V s (runF V U s (x.add (.t k w n)) i):=by
   rcases hs with h|h
   ·rw [h]
   ·exact h
  rw [hs]
  exact hB j hk hA.k i (x.add (.t k w n)) f hA rfl hP (by omega)
theorem wordGo (H:SHyp V U VR U'): ∀n j,l.length - j≤n→ ∀k0 i x f,k0<j→(∀k',k0<k'→k'≤l.length→Bsp V U VR s l k')→At s l i j→x.st=1→PosAt l x j→Wk s x.sa (subR l k0 j) i→(∀r∈subR l k0 j,wthn r=true)→l.length≤f+k0→
  finT V s (runF V U s x i)=wordR VR U l f (wEnd l j) (VR (subR l k0 (wEnd l j))) x:=by
 intro n
 induction n with
 |zero=>
  intro j hj k0 i x f hk hB hA hst hP hW hw hf
  have g: ¬j<l.length:=by omega
  rw [wEnd_out g]
  exact word_end H hB hk hA hst hP hW hw hf (fun h=>absurd h g)
 |succ n ih=>
  intro j hj k0 i x f hk hB hA hst hP hW hw hf
  by_cases g:j<l.length
  ·rw [wEnd_in g]
   by_cases c:wthn l[j]=true
   ·rw [if_pos c]
    obtain ⟨hi,hr,hA'⟩:=hA.next g
    have ht:takeF V U s x i l[j]=(x,true):=by
     unfold takeF
     rw [if_pos hst,if_pos c]
    rw [runF_step V U s x i hi,hr,ht,if_pos rfl]
    have hsn:=subR_snoc g (show k0≤j by omega)
    have hW':=Wk_snoc s _ _ _ hW hi
    rw [hr,←hsn] at hW'
    have:=ih (j+1) (by omega) k0 _ (x.adv l[j]) f (by omega) hB hA' (by rw [Sc.adv_st];exact hst) (hP.adv g rfl rfl) (by rw [Sc.adv_sa];exact hW') (fun r hr=>by
     rw [hsn,List.mem_append,List.mem_singleton] at hr
     rcases hr with hr|rfl
     ·exact hw r hr
     ·exact c) hf
    rw [this]
    unfold wordR
    rw [Sc.adv_out,(Sc.adv_f x _).1,(Sc.adv_f x _).2]
   ·rw [if_neg c]
    exact word_end H hB hk hA hst hP hW hw hf (fun h=>by simpa using c)
  ·rw [wEnd_out g]
   exact word_end H hB hk hA hst hP hW hw hf (fun h=>absurd h g)
open Go.Proofs
variable {V:List UInt8→TV} {U:List UInt8→List UInt8×Int} {VR:List Int→TV} {U':List Int→List UInt8×Int} {s:List UInt8} {l:List Int}
theorem stepR_plain {i:Nat} {r:Int} (h:(stepR s i).1=r) (h0:0≤r) (h1:r<128):(byt s i:Int)=r∧(stepR s i).2=1:=by
 have ff: ∀n r0 least,128≤least→(stepF s i n r0 least).1=r→False:=by
  intro n r0 least hl e
  unfold stepF at e
  split at e
  ·rename_i c
   rw [Bool.and_eq_true] at c
   have:=isRune_le c.2
   dsimp only at e
   omega
  ·dsimp only at e;omega
 unfold stepR at h ⊢
 simp only at h ⊢
 split
 ·rename_i c;rw [if_pos c] at h;exact ⟨h,rfl⟩
 ·rename_i c
  rw [if_neg c] at h
  split
  ·rename_i c2;rw [if_pos c2] at h;exact (ff _ _ _ (by omega) h).elim
  ·rename_i c2
   rw [if_neg c2] at h
   split
   ·rename_i c3;rw [if_pos c3] at h;exact (ff _ _ _ (by omega) h).elim
   ·rename_i c3
    rw [if_neg c3] at h
    split
    ·rename_i c4;rw [if_pos c4] at h;exact (ff _ _ _ (by omega) h).elim
    ·rename_i c4
     rw [if_neg c4] at h
     dsimp only at h
     omega
def textE (VR:List Int→TV) (U:List UInt8→List UInt8×Int) (U':List Int→List UInt8×Int) (l:List Int) (f k0 e:Nat) (out:List Tk) (a b:Int):TR:=
 if e=0 then ⟨[],5,a,b⟩
 else if (U' (subR l k0 e)).2=0 then refGo VR U l (plc 1 1 l) f e (out++[⟨2,(U' (subR l k0 e)).1,0,a,b⟩]) else ⟨[],(U' (subR l k0 e)).2,a,b⟩
theorem takeF_2 (x:Sc) (i:Nat) (r:Int) (h:x.st=2∨x.st=3):takeF V U s x i r=insideF U s x i r:=by
 unfold takeF
 rw [if_neg (by omega),if_neg (by omega),if_pos h]
theorem finT_text (x:Sc) (h:x.st=2∨x.st=3):finT V s (runF V U s x s.length)=⟨[],5,x.fl,x.fc⟩:=by
 rw [runF_out V U s x _ (by omega)]
 unfold finT
 rw [if_pos rfl]
 have:endF V s x=(x.wrong 5,false):=by
  unfold endF
  rw [if_neg (by omega),if_pos h]
 rw [this,if_neg (show ¬(x.wrong 5,false).2=true from by intro h;cases h)]
 rfl
theorem finT_bad (x:Sc) (e:Int):finT V s (x.wrong e,false)=⟨[],e,x.fl,x.fc⟩:=by
 unfold finT
 rw [if_neg (show ¬(x.wrong e,false).2=true from by intro h;cases h)]
 rfl
theorem insideF_feed (x:Sc) (i:Nat):insideF U s x i 10=(x.wrong 5,false):=by unfold insideF;rw [if_pos rfl]
theorem textGo (H:SHyp V U VR U'): ∀n j,l.length - j≤n→ ∀k0 i x f,k0<j→(∀k',k0<k'→k'≤l.length→Bsp V U VR s l k')→At s l i j→x.st=2→PosAt l x j→Wk s x.sa (subR l k0 j) i→l.length≤f+k0→
  finT V s (runF V U s x i)=textE VR U U' l f k0 (qGo l j) x.out x.fl x.fc:=by
 intro n
 induction n using Nat.strongRecOn with
 |ind n ih=>
 intro j hj k0 i x f hk hB hA hst hP hW hf
 by_cases g:j<l.length
 ·obtain ⟨hi,hr,hA'⟩:=hA.next g
  have hsn:=subR_snoc g (show k0≤j by omega)
  have hW':=Wk_snoc s _ _ _ hW hi
  rw [hr,←hsn] at hW'
  rw [runF_step V U s x i hi,hr,takeF_2 x i _ (.inl hst),qGo_in g]
  by_cases c1:l[j]=10
  ·rw [if_pos c1,c1,insideF_feed,if_neg (show ¬(x.wrong 5,false).2=true from by intro h;cases h),finT_bad]
   rfl
  rw [if_neg c1]
  by_cases c2:l[j]=34
  ·rw [if_pos c2]
   have pl:=stepR_plain (s:=s) (i:=i) (r:=34) (by rw [hr,c2]) (by decide) (by decide)
   rw [pl.2] at hW' hA'
   have hsub:runesL (subS s x.sa (i+1)) 0=subR l k0 (j+1):=by
    have:=Wk_sub s x.sa i hi (by omega) _ x.sa (Nat.le_refl _) hW'
    rw [Nat.sub_self] at this
    exact this
   have hq:U (subS s x.sa (i+1))=U' (subR l k0 (j+1)):=by rw [H.u,hsub]
   have ht:insideF U s x i l[j]=quotedF U s x (i+1):=by
    unfold insideF
    rw [if_neg c1,if_neg (by omega),if_neg (by omega),if_pos c2]
   rw [ht]
   unfold quotedF textE
   rw [hq,if_neg (show ¬j+1=0 by omega)]
   dsimp only
   generalize U' (subR l k0 (j+1))=q at *
   by_cases c:q.2=0
   ·rw [if_pos c,quoTV_t c,if_pos (show (TV.t 2 q.1 0).ok=true from rfl),pl.2]
    have:=hB (j+1) (by omega) (by omega) _ ((x.add (.t 2 q.1 0)).adv l[j]) f hA' (by rw [Sc.adv_st];rfl) (hP.adv g rfl rfl) (by omega)
    rw [Sc.adv_out] at this
    exact this
   ·rw [if_neg c,quoTV_e c,if_neg (show ¬(TV.e q.2).ok=true from by intro h;cases h)]
    exact finT_bad x q.2
  rw [if_neg c2]
  by_cases c3:l[j]=92
  ·rw [if_pos c3]
   have ht:insideF U s x i l[j]=({x with st:=3},true):=by
    unfold insideF
    rw [if_neg c1,if_neg (by omega),if_pos c3]
   rw [ht,if_pos rfl]
   dsimp only
   obtain ⟨y,hy⟩: ∃y,y=({x with st:=3}:Sc).adv l[j]:=⟨_,rfl⟩
   have y1:y.st=3:=by rw [hy,Sc.adv_st]
   have y2:y.out=x.out:=by rw [hy,Sc.adv_out]
   have y3:y.fl=x.fl∧y.fc=x.fc:=by rw [hy];exact Sc.adv_f _ _
   have y4:y.sa=x.sa:=by rw [hy,Sc.adv_sa]
   have y5:PosAt l y (j+1):=by rw [hy];exact hP.adv g rfl rfl
   rw [←hy]
   by_cases g2:j+1<l.length
   ·obtain ⟨hi2,hr2,hA2⟩:=hA'.next g2
    have hsn2:=subR_snoc g2 (show k0≤j+1 by omega)
    have hW2:=Wk_snoc s _ _ _ hW' hi2
    rw [hr2,←hsn2] at hW2
    rw [List.getElem?_eq_getElem g2,runF_step V U s y _ hi2,hr2,takeF_2 y _ _ (.inr y1)]
    by_cases c4:l[j+1]=10
    ·rw [if_pos (show some l[j+1]=some 10 by rw [c4]),c4,insideF_feed,if_neg (show ¬(y.wrong 5,false).2=true from by intro h;cases h),finT_bad,y3.1,y3.2]
     rfl
    ·rw [if_neg (show ¬some l[j+1]=some 10 by simpa using c4)]
     have ht2:insideF U s y (i+(stepR s i).2) l[j+1]=({y with st:=2},true):=by
      unfold insideF
      rw [if_neg c4,if_pos y1]
     rw [ht2,if_pos rfl]
     have:=ih (l.length - (j+2)) (by omega) (j+2) (Nat.le_refl _) k0 _ (({y with st:=2}:Sc).adv l[j+1]) f (by omega) hB hA2 (by rw [Sc.adv_st]) (y5.adv g2 rfl rfl) (by rw [Sc.adv_sa];show Wk s y.sa _ _;rw [y4];exact hW2) hf
     dsimp only
     rw [this,Sc.adv_out,(Sc.adv_f _ _).1,(Sc.adv_f _ _).2]
     dsimp only
     rw [y2,y3.1,y3.2]
   ·have e:j+1=l.length:=by omega
    rw [e] at hA'
    have hs:=hA'.end
    rw [List.getElem?_eq_none (by omega),if_neg (show ¬(none:Option Int)=some 10 by simp),qGo_out (by omega),hs,finT_text y (.inr y1),y3.1,y3.2]
    rfl
  rw [if_neg c3]
  have ht:insideF U s x i l[j]=(x,true):=by
   unfold insideF
   rw [if_neg c1,if_neg (by omega),if_neg c3,if_neg c2]
  rw [ht,if_pos rfl]
  have:=ih (l.length - (j+1)) (by omega) (j+1) (Nat.le_refl _) k0 _ (x.adv l[j]) f (by omega) hB hA' (by rw [Sc.adv_st];exact hst) (hP.adv g rfl rfl) (by rw [Sc.adv_sa];exact hW') hf
  dsimp only
  rw [this,Sc.adv_out,(Sc.adv_f _ _).1,(Sc.adv_f _ _).2]
 ·have:j=l.length:=by have:=hA.k;omega
  subst this
  obtain rfl:=hA.end
  rw [qGo_out (by omega),finT_text x (.inl hst)]
  rfl
theorem scanMain (H:SHyp V U VR U') (hl: ∀r∈l,okR r): ∀n k,l.length - k≤n→k≤l.length→Bsp V U VR s l k:=by
 intro n
 induction n with
 |zero=>
  intro k hk hk2
  have:k=l.length:=by omega
  subst this
  exact bsp_end
 |succ n ih=>
  intro k hk hk2
  by_cases g:k<l.length
  ·have hB: ∀k',k<k'→k'≤l.length→Bsp V U VR s l k':=fun k' a b=>ih k' (by omega) b
   intro i x f hA hst hP hf
   obtain ⟨f,rfl⟩: ∃g,f=g+1:=⟨f - 1,by omega⟩
   obtain ⟨hi,hr,hA'⟩:=hA.next g
   rw [runF_step V U s x i hi,hr,takeF_0 V U s x i _ hst,refGo_in VR U l _ f k _ g,hP.one.1,hP.one.2]
   have p1: ∀y:Sc,y.al=x.al→y.ac=x.ac→PosAt l (y.adv l[k]) (k+1):=fun y a b=>hP.adv g a b
   unfold freshF
   dsimp only
   by_cases c1:l[k]=32∨l[k]=9∨l[k]=10
   ·rw [if_pos c1,if_pos c1,if_pos rfl]
    have:=hB (k+1) (by omega) (by omega) _ ((x.begin i 0).adv l[k]) f hA' (by rw [Sc.adv_st];rfl) (p1 _ rfl rfl) (by omega)
    rw [Sc.adv_out] at this
    exact this
   rw [if_neg c1,if_neg c1]
   by_cases c2:l[k]=35
   ·rw [if_pos c2,if_pos c2,if_pos rfl]
    have:=remGo l.length (k+1) (by omega) (fun k' a b=>hB k' (by omega) b) _ (({x.begin i 0 with st:=4}:Sc).adv l[k]) f hA' (by rw [Sc.adv_st]) (p1 _ rfl rfl) (by omega)
    rw [Sc.adv_out] at this
    have e:skp l k=skp l (k+1):=by rw [skp_in g,if_neg (by omega)]
    rw [e]
    exact this
   rw [if_neg c2,if_neg c2]
   have w1:Wk s i (subR l k (k+1)) (i+(stepR s i).2):=by
    rw [subR_snoc g (Nat.le_refl _),subR_nil]
    exact ⟨hi,hr,rfl⟩
   unfold oneF
   by_cases c3:l[k]=34
   ·rw [if_pos c3,if_pos rfl]
    rw [if_neg (show ¬l[k]=123 by omega),if_neg (show ¬l[k]=125 by omega),if_neg (show ¬l[k]=59 by omega),if_pos c3]
    have:=textGo (s:=s) H l.length (k+1) (by omega) k _ (({x.begin i 0 with st:=2}:Sc).adv l[k]) f (by omega) hB hA' (by rw [Sc.adv_st]) (p1 _ rfl rfl) (by rw [Sc.adv_sa];exact w1) (by omega)
    rw [Sc.adv_out,(Sc.adv_f _ _).1,(Sc.adv_f _ _).2] at this
    have hu:U (textR (subR l k (qGo l (k+1))))=U' (subR l k (qGo l (k+1))):=by
     rw [H.u,runesL_textR _ (fun r hr=>hl r (subR_mem hr))]
    rw [hu]
    refine this.trans ?_
    unfold textE
    by_cases c:qGo l (k+1)=0
    ·rw [if_pos c,if_pos c]
     rfl
    ·rw [if_neg c,if_neg c]
     dsimp only
     rfl
   rw [if_neg c3]
   by_cases c4:l[k]=123
   ·rw [if_pos c4,if_pos rfl,if_pos c4,if_pos rfl]
    have:=hB (k+1) (by omega) (by omega) _ (((x.begin i 0).add (.t 7 [] 0)).adv l[k]) f hA' (by rw [Sc.adv_st];rfl) (p1 _ rfl rfl) (by omega)
    rw [Sc.adv_out] at this
    exact this
   rw [if_neg c4,if_neg c4]
   by_cases c5:l[k]=125
   ·rw [if_pos c5,if_pos rfl,if_pos c5,if_pos rfl]
    have:=hB (k+1) (by omega) (by omega) _ (((x.begin i 0).add (.t 8 [] 0)).adv l[k]) f hA' (by rw [Sc.adv_st];rfl) (p1 _ rfl rfl) (by omega)
    rw [Sc.adv_out] at this
    exact this
   rw [if_neg c5,if_neg c5]
   by_cases c6:l[k]=59
   ·rw [if_pos c6,if_pos rfl,if_pos c6,if_pos rfl]
    have:=hB (k+1) (by omega) (by omega) _ (((x.begin i 0).add (.t 9 [] 0)).adv l[k]) f hA' (by rw [Sc.adv_st];rfl) (p1 _ rfl rfl) (by omega)
    rw [Sc.adv_out] at this
    exact this
   rw [if_neg c6,if_neg c6,if_neg c3]
   by_cases c7:wthn l[k]=true
   ·rw [if_pos c7,if_pos rfl,if_pos c7]
    have hw: ∀r∈subR l k (k+1),wthn r=true:=fun r hr=>by
     rw [subR_snoc g (Nat.le_refl _),subR_nil,List.nil_append,List.mem_singleton] at hr
     rw [hr];exact c7
    have:=wordGo (s:=s) H l.length (k+1) (by omega) k _ (({x.begin i 0 with st:=1}:Sc).adv l[k]) f (by omega) hB hA' (by rw [Sc.adv_st]) (p1 _ rfl rfl) (by rw [Sc.adv_sa];exact w1) hw (by omega)
    have e:wEnd l k=wEnd l (k+1):=by rw [wEnd_in g,if_pos c7]
    rw [e]
    refine this.trans ?_
    have we:=wEnd_le l l.length (k+1) (by omega) (by omega)
    have hall: ∀n j,l.length - j≤n→ ∀r∈subR l j (wEnd l j),wthn r=true:=by
     intro n
     induction n with
     |zero=>
      intro j hj r hr
      rw [wEnd_out (by omega),subR_nil] at hr
      cases hr
     |succ n ih2=>
      intro j hj r hr
      by_cases gj:j<l.length
      ·rw [wEnd_in gj] at hr
       by_cases cj:wthn l[j]=true
       ·rw [if_pos cj] at hr
        have wl:=wEnd_le l l.length (j+1) (by omega) (by omega)
        have es:subR l j (wEnd l (j+1))=l[j]::subR l (j+1) (wEnd l (j+1)):=by
         unfold subR
         rw [List.drop_eq_getElem_cons (by rw [List.length_take];omega)]
         simp
        rw [es] at hr
        rcases List.mem_cons.1 hr with rfl|hr
        ·exact cj
        ·exact ih2 (j+1) (by omega) r hr
       ·rw [if_neg cj,subR_nil] at hr
        cases hr
      ·rw [wEnd_out gj,subR_nil] at hr
       cases hr
    have ev:=H.v (subR l k (wEnd l (k+1))) (subR_ne (by omega) we.2) (by
     have:=hall l.length k (by omega)
     rw [e] at this
     exact this)
    cases hv:VR (subR l k (wEnd l (k+1))) with
    |e c=>
     have hc:=H.e (textR (subR l k (wEnd l (k+1)))) c (by rw [←ev];exact hv)
     rw [if_neg (show ¬((TV.e c).on (wEnd l (k+1))).c=0 from hc)]
     unfold wordR
     dsimp only [TV.on]
     rw [(Sc.adv_f _ _).1,(Sc.adv_f _ _).2]
     rfl
    |t kk w nn=>
     rw [if_pos (show ((TV.t kk w nn).on (wEnd l (k+1))).c=0 from rfl)]
     unfold wordR
     dsimp only [TV.on]
     rw [Sc.adv_out,(Sc.adv_f _ _).1,(Sc.adv_f _ _).2]
     rfl
   ·rw [if_neg c7,if_neg (show ¬((x.begin i 0).wrong 5,false).2=true from by intro h;cases h),if_neg c7,if_neg (by decide)]
    exact finT_bad (x.begin i 0) 5
  ·have:k=l.length:=by omega
   subst this
   exact bsp_end
theorem scan_ref (H:SHyp V U VR U') (s:List UInt8):scanF V U s=refF VR U s:=by
 unfold scanF refF
 by_cases c:40000<s.length
 ·rw [if_pos c,if_pos c]
 ·rw [if_neg c,if_neg c]
  have:=scanMain (s:=s) (l:=runesL s 0) H (runesL_okR s s.length 0 (by omega)) (runesL s 0).length 0 (by omega) (Nat.zero_le _) 0 sc0 ((runesL s 0).length+1) ⟨rfl,Nat.zero_le _,Nat.zero_le _⟩ rfl (plc_head _ _ _).symm (Nat.le_refl _)
  unfold finT at this
  exact this
end Go.Ai
namespace Go.Ai
def undec (s:List UInt8):Nat:=s.foldl (fun a b=>10*a+(b.toNat - 48)) 0
def isDig (b:UInt8):Bool:=decide (48≤b.toNat∧b.toNat≤57)
def okDec (s:List UInt8):Bool:=!s.isEmpty&&s.all isDig&&(s.headD 0 !=48||s.length==1)
theorem undec_snoc (s:List UInt8) (b:UInt8):undec (s++[b])=10*undec s+(b.toNat - 48):=by simp [undec]
theorem snoc_ind {α:Type} {P:List α→Prop} (h0:P []) (h1: ∀s b,P s→P (s++[b])): ∀s,P s:=by
 intro s
 rw [←List.reverse_reverse s]
 induction s.reverse with
 |nil=>simpa using h0
 |cons b r ih=>rw [List.reverse_cons];exact h1 _ _ ih
theorem undec_lt (s:List UInt8) (h:s.all isDig=true):undec s<10^s.length:=by
 revert h
 refine snoc_ind (P:=fun s=>s.all isDig=true→undec s<10^s.length) ?_ ?_ s
 ·intro _;simp [undec]
 ·intro s b ih h
  rw [List.all_append,Bool.and_eq_true] at h
  have:=ih h.1
  have hb:isDig b=true:=by simpa using h.2
  simp only [isDig,decide_eq_true_eq] at hb
  rw [undec_snoc,List.length_append,List.length_singleton,Nat.pow_succ]
  omega
open Go.Proofs

def bl (l:List Bool):AV:= .sl (l.map fun b=>[.bool b])
open Go.Proofs
end Go.Ai
