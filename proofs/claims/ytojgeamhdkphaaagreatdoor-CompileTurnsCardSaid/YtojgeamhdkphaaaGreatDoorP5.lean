/- P5: a part of the proof. Conditions: as each theorem says. -/
import Derived.Test.YtojgeamhdkphaaaGreatDoorP4
set_option linter.unusedSimpArgs false
set_option linter.unusedVariables false
set_option maxRecDepth 20000
namespace Go.Ai
open Go.Proofs
theorem nl (s:List UInt8) (i n r0 l:Nat) (h:(cD s i n r0 l).1= -1):(cD s i n r0 l).2=1:=by
 unfold cD at h ⊢;split
 ·rename_i c;rw[if_pos c] at h;simp only at h;omega
 ·rfl
theorem sQ (s:List UInt8) (i:Nat) (h:(aq s i).1= -1):(aq s i).2=1:=by
 unfold aq at h ⊢;simp only at h ⊢;split
 ·rfl
 ·rename_i c1;rw[if_neg c1] at h;split
  ·rename_i c2;rw[if_pos c2] at h;exact nl _ _ _ _ _ h
  ·rename_i c2;rw[if_neg c2] at h;split
   ·rename_i c3;rw[if_pos c3] at h;exact nl _ _ _ _ _ h
   ·rename_i c3;rw[if_neg c3] at h;split
    ·rename_i c4;rw[if_pos c4] at h;exact nl _ _ _ _ _ h
    ·rfl
theorem IG (s:List UInt8) (i:Nat): ∀n,mO s i n=true->n=0\/i+n<s.length
 |0,_=> .inl rfl
 |k+1,h=>by
  rw[mO,aJ] at h;exact .inr (kW h.2)
theorem sR (s:List UInt8) (i n r0 l:Nat) (h:i<s.length):i+(cD s i n r0 l).2<=s.length:=by
 unfold cD;split
 ·rename_i c;rw[aJ] at c
  have:=IG s i n c.1
  simp only;omega
 ·exact h
theorem jl (s:List UInt8) (i:Nat) (h:i<s.length):i+(aq s i).2<=s.length:=by
 unfold aq;simp only;split
 ·exact h
 ·split
  ·exact sR _ _ _ _ _ h
  ·split
   ·exact sR _ _ _ _ _ h
   ·split
    ·exact sR _ _ _ _ _ h
    ·exact h
theorem oG (s:List UInt8) (i:Nat) (h:i<s.length):dW s i=(kZ (aq s i).1,(aq s i).2):=by
 rw[gp s i h];unfold kZ;by_cases c:(aq s i).1= -1
 ·rw[if_pos c,if_pos c,sQ s i c]
 ·rw[if_neg c,if_neg c]
theorem DF (V:List UInt8->TV) (U:List UInt8->List UInt8×Int) (s:List UInt8) (x:Sc) (i:Nat) (h:i<s.length):eO V U s x i=
  if (cg V U s x i (kZ (aq s i).1)).2=true then eO V U s ((cg V U s x i (kZ (aq s i).1)).1.adv (kZ (aq s i).1)) (i+(aq s i).2) else ((cg V U s x i (kZ (aq s i).1)).1,false):=by
 rw[eO,dif_pos h]
theorem kr (V:List UInt8->TV) (U:List UInt8->List UInt8×Int) (s:List UInt8) (x:Sc) (i:Nat) (h: ¬i<s.length):eO V U s x i=(x,true):=by
 rw[eO,dif_neg h]
theorem Sc.adv_out (x:Sc) (r:Int):(x.adv r).out=x.out:=by unfold Sc.adv;split<;>rfl
theorem Sc.adv_sa (x:Sc) (r:Int):(x.adv r).sa=x.sa:=by unfold Sc.adv;split<;>rfl
structure II (x:Sc) (i:Nat):Prop where
 sa:x.sa<=i
 ou:x.out.length<=2*i
 a0:0<=x.al
 a1:x.al<=i+1
 c0:0<=x.ac
 c1:x.ac<=i+1
theorem II.step {x:Sc} {i:Nat} (h:II x i) (V:List UInt8->TV) (U:List UInt8->List UInt8×Int) (s:List UInt8) (r:Int) (w:Nat) (hw:1<=w):II ((cg V U s x i r).1.adv r) (i+w):=by
 have k:=sP V U s x i r h.sa;have o:=Ff V U s x i r;have h2:=h.ou;have h3:=h.a0;have h4:=h.a1;have h5:=h.c0;have h6:=h.c1;refine ⟨by rw[Sc.adv_sa];omega,by rw[Sc.adv_out];omega,?_,?_,?_,?_⟩<;>unfold Sc.adv<;>split<;>simp only<;>omega
theorem MY:II xB 0:=⟨eR _,eR _,by decide,by decide,by decide,by decide⟩
theorem oH (V:List UInt8->TV) (U:List UInt8->List UInt8×Int) (s:List UInt8) (hU: ∀w,w.length<=s.length->Sp Tryz.prog gl 135 [.str w] (.tup [.str (U w).1,i6 (U w).2])) (hV: ∀w,w.length<=s.length->Sp Tryz.prog gl 85 [.str w] (V w).av):
  Sp Tryz.prog gl 35 [.str s] (qk V U s).av:=by
 refine Te rfl rfl ?_;have B:=fun (e:Nat) (he:(Id.n 10).isNw e=false)=>ic s ⟨[],0,0,0,0,1,1,0,0,0⟩ 0 0 e (.n 10) rfl he
 have hB:Sc.begin ⟨[],0,0,0,0,1,1,0,0,0⟩ 0 0=xB:=rfl;rw[hB] at B;unfold qk;by_cases hl:40000<s.length
 ·rw[if_pos hl];have hl':(40000:Int)<s.length:=by omega
  have W:=fun (e:Nat) (he:(Id.n 10).isNw e=false)=>eF s xB 9 e (.n 10) rfl he
  unfold fv Sc.wrong xB at*;simp only[l6] at B W;unfold TR.av;simp[O3];refine bg _ _ (B _ rfl) ?_;simp[hl,hl'];refine bg _ _ (W _ rfl) ?_;simp
 ·rw[if_neg hl];have hl': ¬(40000:Int)<s.length:=by omega
  have B: ∀(e:Nat) (he:(Id.n 10).isNw e=false),ba Tryz.prog gl 58 e ⟨[.ptr (.n 10) 0,i6 0,i6 0],[(.n 10,[.str s,.sl [],i6 0,i6 0,i6 0,i6 0,i6 1,i6 1,i6 0,i6 0,i6 0])],[(.b (.n 10) 1,5)]⟩ ⟨.tup [],[(.n 10,fv s xB)],[(.b (.n 10) 1,5)]⟩:=B;obtain ⟨R,hR⟩: ∃R,R=eO V U s xB 0:=⟨_,rfl⟩;rw[<-hR];have sl: ∀x,(fv s x).length=11:=fun _=>rfl
  have si: ∀x,bm (fv s x)=[]:=fun _=>rfl
  simp[O3];refine bg _ _ (B _ rfl) ?_;simp[hl,hl',sl,si];refine cP (α:=Sc×Nat) (fun y=>⟨[(0,.str s),(3,.ptr (.n 3) 0),(4,.ptr (.n 10) 0),(23,.itp 23)],[(.n 3,[i6 0,i6 0,i6 0]),(.n 10,fv s y.1),(.it 23,[.itr s y.2])],[(.b (.n 10) 1,5)]⟩)
   (fun y=>II y.1 y.2/\y.2<=s.length/\eO V U s y.1 y.2=R) (fun y=>s.length - y.2) ?_ (xB,0) ?_ ?_
  ·rintro K ⟨x,i⟩ hK ⟨h1,h2,h3⟩;simp only at h1 h2 h3;by_cases g:i<s.length
   ·have sr:=oG s i g;have sp:=cN s i;have sw:=jl s i g;rw[DF V U s x i g] at h3;have o1:=h1.ou;have T:=fun r (e:Nat) (he:(Id.n 10).isNw e=false)=>B4 V U s hU hV x (by omega) (by omega) i h1.sa g r e (.n 10) rfl he
    have ko:=h1.step V U s (kZ (aq s i).1) (aq s i).2 sp;have kk:=sP V U s x i (kZ (aq s i).1) h1.sa;have c0:=h1.c0;have c1:=h1.c1;have a0:=h1.a0;have a1:=h1.a1;have T:=T (kZ (aq s i).1);generalize hq:kZ (aq s i).1=r,(aq s i).2=w at*;generalize (cg V U s x i r).2=ok,(cg V U s x i r).1=y at*;have fin:eO V U s (y.adv r) (i+w)=R-> ∀σ',il σ' ⟨[(0,.str s),(3,.ptr (.n 3) 0),(4,.ptr (.n 10) 0),(23,.itp 23)],[(.n 3,[i6 0,i6 0,i6 0]),(.n 10,fv s (y.adv r)),(.it 23,[.itr s (i+w)])],[(.b (.n 10) 1,5)]⟩->K σ':=
     fun hh σ' hσ=>hK (y.adv r,i+w) σ' ⟨ko,by simp only;omega,hh⟩ (by simp only;omega) hσ
    have w1:IntKind.i64.wrap (y.ac+1)=y.ac+1:=by rw[aL]<;>omega
    have w2:IntKind.i64.wrap (y.al+1)=y.al+1:=by rw[aL]<;>omega
    clear hK hR ko;cases ok
    ·rw[if_neg (by decide)] at h3;subst h3;clear fin;dsimp only;rw[if_neg (by decide)];unfold TR.bad TR.av;unfold fv at*;generalize y.out.map Tk.row=L,x.out.map Tk.row=L0 at*;simp[g,sr];refine bg _ _ (T _ rfl) ?_;simp
    ·rw[if_pos rfl] at h3;have fin:=fin h3;clear h3;generalize TR.av _=res;unfold Sc.adv at fin;by_cases c:r=10
     ·rw[if_pos c] at fin;unfold fv at*;generalize y.out.map Tk.row=L,x.out.map Tk.row=L0 at*;simp[g,sr];refine bg _ _ (T _ rfl) ?_;simp[c,w1,w2];refine fin _ ?_;apply aC<;>simp
     ·rw[if_neg c] at fin;have c':(r==10)=false:=cH.2 c;unfold fv at*;generalize y.out.map Tk.row=L,x.out.map Tk.row=L0 at*;simp[g,sr];refine bg _ _ (T _ rfl) ?_;simp[c,c',w1,w2];refine fin _ ?_;apply aC<;>simp
   ·rw[kr V U s x i g] at h3;subst h3;dsimp only;rw[if_pos rfl];have o1:=h1.ou;have hsa:=h1.sa;clear hK;have E:=fun (e:Nat) (he:(Id.n 10).isNw e=false)=>Fg V s hV x (by omega) (by omega) (by omega) e (.n 10) rfl he
    generalize (kY V s x).2=ok,(kY V s x).1=y at*;cases ok
    ·rw[if_neg (by decide)];unfold TR.bad TR.av;unfold fv at*;generalize y.out.map Tk.row=L,x.out.map Tk.row=L0 at*;simp[g];refine bg _ _ (E _ rfl) ?_;simp
    ·rw[if_pos rfl];unfold TR.av;unfold fv at*;dsimp only;generalize y.out.map Tk.row=L,x.out.map Tk.row=L0 at*;simp[g];refine bg _ _ (E _ rfl) ?_;simp
  ·exact ⟨MY,by simp only;omega,hR.symm⟩
  ·apply aC<;>simp[fv,xB]
open Go.Proofs
def lw (V:List UInt8->TV) (s:List UInt8) (p:Sc×Bool):TR:=
 if p.2=true then (if (kY V s p.1).2=true then ⟨(kY V s p.1).1.out,0,0,0⟩ else .bad (kY V s p.1).1) else .bad p.1
theorem lY:eV (-1)=false/\eV 65533=false:=⟨by decide,by decide⟩
theorem sS (x:Sc) (i:Nat) (r:Int):dj x i (kZ r)=dj x i r:=by
 unfold kZ;by_cases c:r= -1
 ·subst c;rw[if_pos rfl];unfold dj;simp[lY.1,lY.2]
 ·rw[if_neg c]
theorem Ae (U:List UInt8->List UInt8×Int) (s:List UInt8) (x:Sc) (i:Nat) (r:Int):bY U s x i (kZ r)=bY U s x i r:=by
 unfold kZ;by_cases c:r= -1
 ·subst c;rw[if_pos rfl];unfold bY;simp
 ·rw[if_neg c]
theorem Fh (V:List UInt8->TV) (U:List UInt8->List UInt8×Int) (s:List UInt8) (x:Sc) (i:Nat) (r:Int):cg V U s x i (kZ r)=cg V U s x i r:=by
 unfold cg;rw[Ae,sS,sS];have h:eV (kZ r)=eV r:=by
  unfold kZ;by_cases c:r= -1
  ·subst c;rw[if_pos rfl,lY.1,lY.2]
  ·rw[if_neg c]
 have h2:(kZ r=10)=(r=10):=by
  unfold kZ;by_cases c:r= -1
  ·subst c;simp
  ·rw[if_neg c]
 rw[h];simp only[h2]
theorem K5 (x:Sc) (r:Int):x.adv (kZ r)=x.adv r:=by
 unfold kZ;by_cases c:r= -1
 ·subst c;rfl
 ·rw[if_neg c]
theorem fO (V:List UInt8->TV) (U:List UInt8->List UInt8×Int) (s:List UInt8) (x:Sc) (i:Nat) (h:i<s.length):eO V U s x i=
  if (cg V U s x i (aq s i).1).2=true then eO V U s ((cg V U s x i (aq s i).1).1.adv (aq s i).1) (i+(aq s i).2) else ((cg V U s x i (aq s i).1).1,false):=by
 rw[DF V U s x i h,Fh,K5]
theorem oI (l:List Int) (a b:Int):(Ab a b l).getD 0 (0,0)=(a,b):=by cases l<;>rfl
theorem sT: ∀(l:List Int) (a b:Int) (k:Nat) (h:k<l.length),(Ab a b l).getD (k+1) (0,0)=if l[k]=10 then (((Ab a b l).getD k (0,0)).1+1,1) else (((Ab a b l).getD k (0,0)).1,((Ab a b l).getD k (0,0)).2+1)
 |[],a,b,k,h=>absurd h (by simp)
 |r::l,a,b,0,h=>by
  rw[oI];simp only[List.getElem_cons_zero];rw[Ab,List.getD_cons_succ];split
  ·rw[oI]
  ·rw[oI]
 |r::l,a,b,k+1,h=>by
  simp only[List.getElem_cons_succ];rw[Ab,List.getD_cons_succ,List.getD_cons_succ];split
  ·exact sT l _ _ k (by simpa using h)
  ·exact sT l _ _ k (by simpa using h)
structure At (s:List UInt8) (l:List Int) (i k:Nat):Prop where
 r:ay s i=l.drop k
 i:i<=s.length
 k:k<=l.length
theorem At.next {s:List UInt8} {l:List Int} {i k:Nat} (h:At s l i k) (g:k<l.length):i<s.length/\(aq s i).1=l[k]/\At s l (i+(aq s i).2) (k+1):=by
 have e:=h.r;rw[xI g] at e;by_cases c:i<s.length
 ·rw[bp c] at e;injection e with e1 e2;exact ⟨c,e1,e2,jl s i c,g⟩
 ·rw[aS c] at e;cases e
theorem At.end {s:List UInt8} {l:List Int} {i:Nat} (h:At s l i l.length):i=s.length:=by
 have e:=h.r;rw[N6] at e;by_cases c:i<s.length
 ·rw[bp c] at e;cases e
 ·have:=h.i;omega
theorem ku {l:List Int} {a j:Nat} (h:j<l.length) (ha:a<=j):dG l a (j+1)=dG l a j++[l[j]]:=by
 unfold dG;rw[Jo h,List.drop_append_of_le_length (by rw[tD];omega)]
theorem lZ (l:List Int) (a:Nat):dG l a a=[]:=by
 unfold dG;rw[Co (by rw[tD];omega)]
theorem DG (V:List UInt8->TV) (U:List UInt8->List UInt8×Int) (s:List UInt8) (x:Sc) (i:Nat) (r:Int) (h:x.st=0):cg V U s x i r=dj x i r:=by
 unfold cg;rw[if_neg (by omega),if_neg (by omega),if_neg (by omega)]
theorem IJ (V:List UInt8->TV) (s:List UInt8) (x:Sc) (h:x.st=0\/x.st=4):kY V s x=((x.begin s.length 0).add (.t 0 [] 0),true):=by
 unfold kY;rw[if_neg (by omega),if_neg (by omega)]
theorem sW (V:List UInt8->TV) (U:List UInt8->List UInt8×Int) (s:List UInt8) (x:Sc) (h:x.st=0\/x.st=4):lw V s (eO V U s x s.length)=⟨x.out++[⟨0,[],0,x.al,x.ac⟩],0,0,0⟩:=by
 rw[kr V U s x s.length (by omega)];unfold lw;rw[if_pos rfl,IJ V s x h,if_pos rfl];rfl
theorem pN (VR:List Int->TV) (U:List UInt8->List UInt8×Int) (l:List Int) (P:List (Int×Int)) (f:Nat) (out:List Tk):eT VR U l P (f+1) l.length out=⟨out++[⟨0,[],0,(P.getD l.length (0,0)).1,(P.getD l.length (0,0)).2⟩],0,0,0⟩:=by
 rw[eT,Ga (by omega)]
theorem Af (VR:List Int->TV) (U:List UInt8->List UInt8×Int) (l:List Int) (P:List (Int×Int)) (f k:Nat) (out:List Tk) (h:k<l.length):eT VR U l P (f+1) k out=
  if l[k]=32\/l[k]=9\/l[k]=10 then eT VR U l P f (k+1) out
   else if l[k]=35 then eT VR U l P f (B5 l k) out
   else if (dR VR U l k l[k]).c=0 then eT VR U l P f (dR VR U l k l[k]).en (out++[⟨(dR VR U l k l[k]).k,(dR VR U l k l[k]).w,(dR VR U l k l[k]).n,(P.getD k (0,0)).1,(P.getD k (0,0)).2⟩])
   else ⟨[],(dR VR U l k l[k]).c,(P.getD k (0,0)).1,(P.getD k (0,0)).2⟩:=by
 rw[eT,uk h]
def jA (l:List Int) (x:Sc) (k:Nat):Prop:=(x.al,x.ac)=(Ab 1 1 l).getD k (0,0)
theorem jA.adv {l:List Int} {x:Sc} {k:Nat} (h:jA l x k) (g:k<l.length) {y:Sc} (h1:y.al=x.al) (h2:y.ac=x.ac):jA l (y.adv l[k]) (k+1):=by
 unfold jA at h ⊢;rw[sT l 1 1 k g,<-h];unfold Sc.adv;split
 ·rw[<-h1]
 ·rw[<-h1,<-h2]
theorem jA.one {l:List Int} {x:Sc} {k:Nat} (h:jA l x k):((Ab 1 1 l).getD k (0,0)).1=x.al/\((Ab 1 1 l).getD k (0,0)).2=x.ac:=by
 unfold jA at h;rw[<-h];exact ⟨rfl,rfl⟩
theorem Sc.adv_st (x:Sc) (r:Int):(x.adv r).st=x.st:=by unfold Sc.adv;split<;>rfl
theorem Sc.adv_f (x:Sc) (r:Int):(x.adv r).fl=x.fl/\(x.adv r).fc=x.fc:=by unfold Sc.adv;split<;>exact ⟨rfl,rfl⟩
open Go.Proofs
structure Fi (V:List UInt8->TV) (U:List UInt8->List UInt8×Int) (VR:List Int->TV) (U':List Int->List UInt8×Int):Prop where
 u: ∀w,U w=U' (ay w 0)
 v: ∀m:List Int,m≠[]->(∀r∈m,eV r=true)->VR m=V (aG m)
 e: ∀w c,V w= .e c->c≠0
def MZ (V:List UInt8->TV) (U:List UInt8->List UInt8×Int) (VR:List Int->TV) (s:List UInt8) (l:List Int) (k:Nat):Prop:=
 ∀i x f,At s l i k->x.st=0->jA l x k->l.length+1 - k<=f->lw V s (eO V U s x i)=eT VR U l (Ab 1 1 l) f k x.out
variable {V:List UInt8->TV} {U:List UInt8->List UInt8×Int} {VR:List Int->TV} {U':List Int->List UInt8×Int} {s:List UInt8} {l:List Int}
theorem DH:MZ V U VR s l l.length:=by
 intro i x f hA hst hP hf;obtain rfl:=hA.end;obtain ⟨f,rfl⟩: ∃g,f=g+1:=⟨f - 1,by omega⟩;rw[sW V U s x (.inl hst),pN,hP.one.1,hP.one.2]
theorem K6 (x:Sc) (i:Nat) (r:Int) (h:x.st=4):cg V U s x i r=((if r=10 then {x with st:=0} else x),true):=by
 unfold cg;rw[if_neg (by omega),if_pos h]
theorem OW: ∀n j,l.length - j<=n->(∀k',j<k'->k'<=l.length->MZ V U VR s l k')-> ∀i x f,At s l i j->x.st=4->jA l x j->l.length+1 - j<=f->lw V s (eO V U s x i)=eT VR U l (Ab 1 1 l) f (B5 l j) x.out:=by
 intro n;induction n with
 |zero=>
  intro j hj hB i x f hA hst hP hf
  have:j=l.length:=by have:=hA.k;omega
  subst this;obtain rfl:=hA.end;obtain ⟨f,rfl⟩: ∃g,f=g+1:=⟨f - 1,by omega⟩;rw[sW V U s x (.inr hst),qW (by omega),pN,hP.one.1,hP.one.2]
 |succ n ih=>
  intro j hj hB i x f hA hst hP hf;by_cases g:j<l.length
  ·obtain ⟨hi,hr,hA'⟩:=hA.next g
   rw[fO V U s x i hi,hr,K6 x i _ hst,if_pos rfl];dsimp only;rw[xd g];by_cases c:l[j]=10
   ·rw[if_pos c,if_pos c];obtain ⟨f,rfl⟩: ∃g,f=g+1:=⟨f - 1,by omega⟩;rw[Af VR U l _ f j _ g,if_pos (.inr (.inr c))]
    have:=hB (j+1) (by omega) (by omega) _ (({x with st:=0}:Sc).adv l[j]) f hA' (by rw[Sc.adv_st]) (hP.adv g rfl rfl) (by omega)
    rw[Sc.adv_out] at this;exact this
   ·rw[if_neg c,if_neg c]
    have:=ih (j+1) (by omega) (fun k' a b=>hB k' (by omega) b) _ (x.adv l[j]) f hA' (by rw[Sc.adv_st];exact hst) (hP.adv g rfl rfl) (by omega)
    rw[Sc.adv_out] at this;exact this
  ·have:j=l.length:=by have:=hA.k;omega
   subst this;obtain rfl:=hA.end;obtain ⟨f,rfl⟩: ∃g,f=g+1:=⟨f - 1,by omega⟩;rw[sW V U s x (.inr hst),qW (by omega),pN,hP.one.1,hP.one.2]
theorem DI {k0 j:Nat} (h:k0<j) (hj:j<=l.length):dG l k0 j≠[]:=by
 intro e
 have:(dG l k0 j).length=0:=by rw[e];rfl
 unfold dG at this;rw[xy,tD] at this;omega
theorem K7 {r:Int} (h:eV r=true):r≠ -1:=by
 intro e;rw[e,lY.1] at h;cases h
def Ag (VR:List Int->TV) (U:List UInt8->List UInt8×Int) (l:List Int) (f e:Nat) (v:TV) (x:Sc):TR:=match v with
 | .e c=>⟨[],c,x.fl,x.fc⟩
 | .t k w n=>eT VR U l (Ab 1 1 l) f e (x.out++[⟨k,w,n,x.fl,x.fc⟩])
theorem sX (H:Fi V U VR U') {j k0 i f:Nat} {x:Sc} (hB: ∀k',k0<k'->k'<=l.length->MZ V U VR s l k') (hk:k0<j) (hA:At s l i j) (hst:x.st=1) (hP:jA l x j) (hW:Wk s x.sa (dG l k0 j) i) (hw: ∀r∈dG l k0 j,eV r=true) (hf:l.length<=f+k0)
  (hn: ∀h:j<l.length,eV l[j]=false):lw V s (eO V U s x i)=Ag VR U l f j (VR (dG l k0 j)) x:=by
 have et:dJ s x.sa i=aG (dG l k0 j):=wW s _ _ _ hA.i hW (fun r hr=>K7 (hw r hr));have ev:=H.v (dG l k0 j) (DI hk hA.k) hw;rw[ev,<-et];cases hv:V (dJ s x.sa i) with
 |e c=>
  by_cases g:j<l.length
  ·obtain ⟨hi,hr,hA'⟩:=hA.next g
   rw[fO V U s x i hi,hr];have ht:cg V U s x i l[j]=(x.add (.e c),false):=by
    unfold cg;rw[if_pos hst,if_neg (by rw[hn g];decide),hv,if_neg (show ¬(TV.e c).ok=true from by intro h;cases h)]
   rw[ht,if_neg (show ¬(x.add (.e c),false).2=true from by intro h;cases h)];rfl
  ·have:j=l.length:=by have:=hA.k;omega
   subst this;obtain rfl:=hA.end;rw[kr V U s x _ (by omega)];unfold lw;rw[if_pos rfl];have ht:kY V s x=(x.add (.e c),false):=by
    unfold kY;rw[if_pos hst,hv,if_neg (show ¬(TV.e c).ok=true from by intro h;cases h)]
   rw[ht,if_neg (show ¬(x.add (.e c),false).2=true from by intro h;cases h)];rfl
 |t k w n=>
  have hs:eO V U s x i=eO V U s (x.add (.t k w n)) i\/lw V s (eO V U s x i)=lw V s (eO V U s (x.add (.t k w n)) i):=by
   by_cases g:j<l.length
   ·obtain ⟨hi,hr,hA'⟩:=hA.next g
    left;rw[fO V U s x i hi,fO V U s (x.add (.t k w n)) i hi,hr,DG V U s (x.add (.t k w n)) i _ rfl];have ht:cg V U s x i l[j]=dj (x.add (.t k w n)) i l[j]:=by
     unfold cg;rw[if_pos hst,if_neg (by rw[hn g];decide),hv,if_pos (show (TV.t k w n).ok=true from rfl)]
    rw[ht]
   ·right
    have:j=l.length:=by have:=hA.k;omega
    subst this;obtain rfl:=hA.end;rw[kr V U s x _ (by omega),kr V U s (x.add (.t k w n)) _ (by omega)];unfold lw;rw[if_pos rfl,if_pos rfl];have ht:kY V s x=(((x.add (.t k w n)).begin s.length 0).add (.t 0 [] 0),true):=by
     unfold kY;rw[if_pos hst,hv,if_pos (show (TV.t k w n).ok=true from rfl)]
    have ht2:=IJ V s (x.add (.t k w n)) (.inl rfl);simp only[ht,ht2]
  have hs:lw V s (eO V U s x i)=lw V s (eO V U s (x.add (.t k w n)) i):=by
   rcases hs with h|h
   ·rw[h]
   ·exact h
  rw[hs];exact hB j hk hA.k i (x.add (.t k w n)) f hA rfl hP (by omega)
theorem M1 (H:Fi V U VR U'): ∀n j,l.length - j<=n-> ∀k0 i x f,k0<j->(∀k',k0<k'->k'<=l.length->MZ V U VR s l k')->At s l i j->x.st=1->jA l x j->Wk s x.sa (dG l k0 j) i->(∀r∈dG l k0 j,eV r=true)->l.length<=f+k0->
  lw V s (eO V U s x i)=Ag VR U l f (iv l j) (VR (dG l k0 (iv l j))) x:=by
 intro n;induction n with
 |zero=>
  intro j hj k0 i x f hk hB hA hst hP hW hw hf;have g: ¬j<l.length:=by omega
  rw[kq g];exact sX H hB hk hA hst hP hW hw hf (fun h=>absurd h g)
 |succ n ih=>
  intro j hj k0 i x f hk hB hA hst hP hW hw hf;by_cases g:j<l.length
  ·rw[oF g];by_cases c:eV l[j]=true
   ·rw[if_pos c];obtain ⟨hi,hr,hA'⟩:=hA.next g
    have ht:cg V U s x i l[j]=(x,true):=by
     unfold cg;rw[if_pos hst,if_pos c]
    rw[fO V U s x i hi,hr,ht,if_pos rfl];have hsn:=ku g (show k0<=j by omega);have hW':=qU s _ _ _ hW hi;rw[hr,<-hsn] at hW'
    have:=ih (j+1) (by omega) k0 _ (x.adv l[j]) f (by omega) hB hA' (by rw[Sc.adv_st];exact hst) (hP.adv g rfl rfl) (by rw[Sc.adv_sa];exact hW') (fun r hr=>by
     rw[hsn,jD,FI] at hr;rcases hr with hr|rfl
     ·exact hw r hr
     ·exact c) hf
    rw[this];unfold Ag;rw[Sc.adv_out,(Sc.adv_f x _).1,(Sc.adv_f x _).2]
   ·rw[if_neg c];exact sX H hB hk hA hst hP hW hw hf (fun h=>by simpa using c)
  ·rw[kq g];exact sX H hB hk hA hst hP hW hw hf (fun h=>absurd h g)
open Go.Proofs
variable {V:List UInt8->TV} {U:List UInt8->List UInt8×Int} {VR:List Int->TV} {U':List Int->List UInt8×Int} {s:List UInt8} {l:List Int}
theorem ql {i:Nat} {r:Int} (h:(aq s i).1=r) (h0:0<=r) (h1:r<128):(bF s i:Int)=r/\(aq s i).2=1:=by
 have ff: ∀n r0 least,128<=least->(cD s i n r0 least).1=r->False:=by
  intro n r0 least hl e;unfold cD at e;split at e
  ·rename_i c;rw[aJ] at c
   have:=iT c.2
   dsimp only at e;omega
  ·dsimp only at e;omega
 unfold aq at h ⊢;simp only at h ⊢;split
 ·rename_i c;rw[if_pos c] at h;exact ⟨h,rfl⟩
 ·rename_i c;rw[if_neg c] at h;split
  ·rename_i c2;rw[if_pos c2] at h;exact (ff _ _ _ (by omega) h).elim
  ·rename_i c2;rw[if_neg c2] at h;split
   ·rename_i c3;rw[if_pos c3] at h;exact (ff _ _ _ (by omega) h).elim
   ·rename_i c3;rw[if_neg c3] at h;split
    ·rename_i c4;rw[if_pos c4] at h;exact (ff _ _ _ (by omega) h).elim
    ·rename_i c4;rw[if_neg c4] at h;dsimp only at h;omega
def IK (VR:List Int->TV) (U:List UInt8->List UInt8×Int) (U':List Int->List UInt8×Int) (l:List Int) (f k0 e:Nat) (out:List Tk) (a b:Int):TR:=
 if e=0 then ⟨[],5,a,b⟩
 else if (U' (dG l k0 e)).2=0 then eT VR U l (Ab 1 1 l) f e (out++[⟨2,(U' (dG l k0 e)).1,0,a,b⟩]) else ⟨[],(U' (dG l k0 e)).2,a,b⟩
theorem DJ (x:Sc) (i:Nat) (r:Int) (h:x.st=2\/x.st=3):cg V U s x i r=bY U s x i r:=by
 unfold cg;rw[if_neg (by omega),if_neg (by omega),if_pos h]
theorem vA (x:Sc) (h:x.st=2\/x.st=3):lw V s (eO V U s x s.length)=⟨[],5,x.fl,x.fc⟩:=by
 rw[kr V U s x _ (by omega)];unfold lw;rw[if_pos rfl]
 have:kY V s x=(x.wrong 5,false):=by
  unfold kY;rw[if_neg (by omega),if_pos h]
 rw[this,if_neg (show ¬(x.wrong 5,false).2=true from by intro h;cases h)];rfl
theorem oJ (x:Sc) (e:Int):lw V s (x.wrong e,false)=⟨[],e,x.fl,x.fc⟩:=by
 unfold lw;rw[if_neg (show ¬(x.wrong e,false).2=true from by intro h;cases h)];rfl
theorem oK (x:Sc) (i:Nat):bY U s x i 10=(x.wrong 5,false):=by unfold bY;rw[if_pos rfl]
theorem M2 (H:Fi V U VR U'): ∀n j,l.length - j<=n-> ∀k0 i x f,k0<j->(∀k',k0<k'->k'<=l.length->MZ V U VR s l k')->At s l i j->x.st=2->jA l x j->Wk s x.sa (dG l k0 j) i->l.length<=f+k0->
  lw V s (eO V U s x i)=IK VR U U' l f k0 (ud l j) x.out x.fl x.fc:=by
 intro n;induction n using Nat.strongRecOn with
 |ind n ih=>
 intro j hj k0 i x f hk hB hA hst hP hW hf;by_cases g:j<l.length
 ·obtain ⟨hi,hr,hA'⟩:=hA.next g
  have hsn:=ku g (show k0<=j by omega);have hW':=qU s _ _ _ hW hi;rw[hr,<-hsn] at hW';rw[fO V U s x i hi,hr,DJ x i _ (.inl hst),IC g];by_cases c1:l[j]=10
  ·rw[if_pos c1,c1,oK,if_neg (show ¬(x.wrong 5,false).2=true from by intro h;cases h),oJ];rfl
  rw[if_neg c1];by_cases c2:l[j]=34
  ·rw[if_pos c2];have pl:=ql (s:=s) (i:=i) (r:=34) (by rw[hr,c2]) (by decide) (by decide);rw[pl.2] at hW' hA';have hsub:ay (dJ s x.sa (i+1)) 0=dG l k0 (j+1):=by
    have:=IB s x.sa i hi (by omega) _ x.sa (eR _) hW'
    rw[Nat.sub_self] at this;exact this
   have hq:U (dJ s x.sa (i+1))=U' (dG l k0 (j+1)):=by rw[H.u,hsub]
   have ht:bY U s x i l[j]=gT U s x (i+1):=by
    unfold bY;rw[if_neg c1,if_neg (by omega),if_neg (by omega),if_pos c2]
   rw[ht];unfold gT IK;rw[hq,if_neg (show ¬j+1=0 by omega)];dsimp only;generalize U' (dG l k0 (j+1))=q at*;by_cases c:q.2=0
   ·rw[if_pos c,DE c,if_pos (show (TV.t 2 q.1 0).ok=true from rfl),pl.2]
    have:=hB (j+1) (by omega) (by omega) _ ((x.add (.t 2 q.1 0)).adv l[j]) f hA' (by rw[Sc.adv_st];rfl) (hP.adv g rfl rfl) (by omega)
    rw[Sc.adv_out] at this;exact this
   ·rw[if_neg c,DD c,if_neg (show ¬(TV.e q.2).ok=true from by intro h;cases h)];exact oJ x q.2
  rw[if_neg c2];by_cases c3:l[j]=92
  ·rw[if_pos c3];have ht:bY U s x i l[j]=({x with st:=3},true):=by
    unfold bY;rw[if_neg c1,if_neg (by omega),if_pos c3]
   rw[ht,if_pos rfl];dsimp only;obtain ⟨y,hy⟩: ∃y,y=({x with st:=3}:Sc).adv l[j]:=⟨_,rfl⟩;have y1:y.st=3:=by rw[hy,Sc.adv_st]
   have y2:y.out=x.out:=by rw[hy,Sc.adv_out]
   have y3:y.fl=x.fl/\y.fc=x.fc:=by rw[hy];exact Sc.adv_f _ _
   have y4:y.sa=x.sa:=by rw[hy,Sc.adv_sa]
   have y5:jA l y (j+1):=by rw[hy];exact hP.adv g rfl rfl
   rw[<-hy];by_cases g2:j+1<l.length
   ·obtain ⟨hi2,hr2,hA2⟩:=hA'.next g2
    have hsn2:=ku g2 (show k0<=j+1 by omega);have hW2:=qU s _ _ _ hW' hi2;rw[hr2,<-hsn2] at hW2;rw[uk g2,fO V U s y _ hi2,hr2,DJ y _ _ (.inr y1)];by_cases c4:l[j+1]=10
    ·rw[if_pos (show some l[j+1]=some 10 by rw[c4]),c4,oK,if_neg (show ¬(y.wrong 5,false).2=true from by intro h;cases h),oJ,y3.1,y3.2];rfl
    ·rw[if_neg (show ¬some l[j+1]=some 10 by simpa using c4)];have ht2:bY U s y (i+(aq s i).2) l[j+1]=({y with st:=2},true):=by
      unfold bY;rw[if_neg c4,if_pos y1]
     rw[ht2,if_pos rfl]
     have:=ih (l.length - (j+2)) (by omega) (j+2) (eR _) k0 _ (({y with st:=2}:Sc).adv l[j+1]) f (by omega) hB hA2 (by rw[Sc.adv_st]) (y5.adv g2 rfl rfl) (by rw[Sc.adv_sa];show Wk s y.sa _ _;rw[y4];exact hW2) hf
     dsimp only;rw[this,Sc.adv_out,(Sc.adv_f _ _).1,(Sc.adv_f _ _).2];dsimp only;rw[y2,y3.1,y3.2]
   ·have e:j+1=l.length:=by omega
    rw[e] at hA';have hs:=hA'.end;rw[Ga (by omega),if_neg (show ¬(none:Option Int)=some 10 by simp),wX (by omega),hs,vA y (.inr y1),y3.1,y3.2];rfl
  rw[if_neg c3];have ht:bY U s x i l[j]=(x,true):=by
   unfold bY;rw[if_neg c1,if_neg (by omega),if_neg c3,if_neg c2]
  rw[ht,if_pos rfl]
  have:=ih (l.length - (j+1)) (by omega) (j+1) (eR _) k0 _ (x.adv l[j]) f (by omega) hB hA' (by rw[Sc.adv_st];exact hst) (hP.adv g rfl rfl) (by rw[Sc.adv_sa];exact hW') hf
  dsimp only;rw[this,Sc.adv_out,(Sc.adv_f _ _).1,(Sc.adv_f _ _).2]
 ·have:j=l.length:=by have:=hA.k;omega
  subst this;obtain rfl:=hA.end;rw[wX (by omega),vA x (.inl hst)];rfl
theorem IL (H:Fi V U VR U') (hl: ∀r∈l,uc r): ∀n k,l.length - k<=n->k<=l.length->MZ V U VR s l k:=by
 intro n;induction n with
 |zero=>
  intro k hk hk2
  have:k=l.length:=by omega
  subst this;exact DH
 |succ n ih=>
  intro k hk hk2;by_cases g:k<l.length
  ·have hB: ∀k',k<k'->k'<=l.length->MZ V U VR s l k':=fun k' a b=>ih k' (by omega) b
   intro i x f hA hst hP hf;obtain ⟨f,rfl⟩: ∃g,f=g+1:=⟨f - 1,by omega⟩;obtain ⟨hi,hr,hA'⟩:=hA.next g
   rw[fO V U s x i hi,hr,DG V U s x i _ hst,Af VR U l _ f k _ g,hP.one.1,hP.one.2];have p1: ∀y:Sc,y.al=x.al->y.ac=x.ac->jA l (y.adv l[k]) (k+1):=fun y a b=>hP.adv g a b
   unfold dj;dsimp only;by_cases c1:l[k]=32\/l[k]=9\/l[k]=10
   ·rw[if_pos c1,if_pos c1,if_pos rfl]
    have:=hB (k+1) (by omega) (by omega) _ ((x.begin i 0).adv l[k]) f hA' (by rw[Sc.adv_st];rfl) (p1 _ rfl rfl) (by omega)
    rw[Sc.adv_out] at this;exact this
   rw[if_neg c1,if_neg c1];by_cases c2:l[k]=35
   ·rw[if_pos c2,if_pos c2,if_pos rfl]
    have:=OW l.length (k+1) (by omega) (fun k' a b=>hB k' (by omega) b) _ (({x.begin i 0 with st:=4}:Sc).adv l[k]) f hA' (by rw[Sc.adv_st]) (p1 _ rfl rfl) (by omega)
    rw[Sc.adv_out] at this;have e:B5 l k=B5 l (k+1):=by rw[xd g,if_neg (by omega)]
    rw[e];exact this
   rw[if_neg c2,if_neg c2];have w1:Wk s i (dG l k (k+1)) (i+(aq s i).2):=by
    rw[ku g (eR _),lZ];exact ⟨hi,hr,rfl⟩
   unfold dR;by_cases c3:l[k]=34
   ·rw[if_pos c3,if_pos rfl];rw[if_neg (show ¬l[k]=123 by omega),if_neg (show ¬l[k]=125 by omega),if_neg (show ¬l[k]=59 by omega),if_pos c3]
    have:=M2 (s:=s) H l.length (k+1) (by omega) k _ (({x.begin i 0 with st:=2}:Sc).adv l[k]) f (by omega) hB hA' (by rw[Sc.adv_st]) (p1 _ rfl rfl) (by rw[Sc.adv_sa];exact w1) (by omega)
    rw[Sc.adv_out,(Sc.adv_f _ _).1,(Sc.adv_f _ _).2] at this;have hu:U (aG (dG l k (ud l (k+1))))=U' (dG l k (ud l (k+1))):=by
     rw[H.u,eN _ (fun r hr=>hl r (ID hr))]
    rw[hu];refine this.trans ?_;unfold IK;by_cases c:ud l (k+1)=0
    ·rw[if_pos c,if_pos c];rfl
    ·rw[if_neg c,if_neg c];dsimp only;rfl
   rw[if_neg c3];by_cases c4:l[k]=123
   ·rw[if_pos c4,if_pos rfl,if_pos c4,if_pos rfl]
    have:=hB (k+1) (by omega) (by omega) _ (((x.begin i 0).add (.t 7 [] 0)).adv l[k]) f hA' (by rw[Sc.adv_st];rfl) (p1 _ rfl rfl) (by omega)
    rw[Sc.adv_out] at this;exact this
   rw[if_neg c4,if_neg c4];by_cases c5:l[k]=125
   ·rw[if_pos c5,if_pos rfl,if_pos c5,if_pos rfl]
    have:=hB (k+1) (by omega) (by omega) _ (((x.begin i 0).add (.t 8 [] 0)).adv l[k]) f hA' (by rw[Sc.adv_st];rfl) (p1 _ rfl rfl) (by omega)
    rw[Sc.adv_out] at this;exact this
   rw[if_neg c5,if_neg c5];by_cases c6:l[k]=59
   ·rw[if_pos c6,if_pos rfl,if_pos c6,if_pos rfl]
    have:=hB (k+1) (by omega) (by omega) _ (((x.begin i 0).add (.t 9 [] 0)).adv l[k]) f hA' (by rw[Sc.adv_st];rfl) (p1 _ rfl rfl) (by omega)
    rw[Sc.adv_out] at this;exact this
   rw[if_neg c6,if_neg c6,if_neg c3];by_cases c7:eV l[k]=true
   ·rw[if_pos c7,if_pos rfl,if_pos c7];have hw: ∀r∈dG l k (k+1),eV r=true:=fun r hr=>by
     rw[ku g (eR _),lZ,cL,FI] at hr;rw[hr];exact c7
    have:=M1 (s:=s) H l.length (k+1) (by omega) k _ (({x.begin i 0 with st:=1}:Sc).adv l[k]) f (by omega) hB hA' (by rw[Sc.adv_st]) (p1 _ rfl rfl) (by rw[Sc.adv_sa];exact w1) hw (by omega)
    have e:iv l k=iv l (k+1):=by rw[oF g,if_pos c7]
    rw[e];refine this.trans ?_;have we:=qV l l.length (k+1) (by omega) (by omega);have hall: ∀n j,l.length - j<=n-> ∀r∈dG l j (iv l j),eV r=true:=by
     intro n;induction n with
     |zero=>
      intro j hj r hr;rw[kq (by omega),lZ] at hr;cases hr
     |succ n ih2=>
      intro j hj r hr;by_cases gj:j<l.length
      ·rw[oF gj] at hr;by_cases cj:eV l[j]=true
       ·rw[if_pos cj] at hr;have wl:=qV l l.length (j+1) (by omega) (by omega);have es:dG l j (iv l (j+1))=l[j]::dG l (j+1) (iv l (j+1)):=by
         unfold dG;rw[xI (by rw[tD];omega)];simp
        rw[es] at hr;rcases nH.1 hr with rfl|hr
        ·exact cj
        ·exact ih2 (j+1) (by omega) r hr
       ·rw[if_neg cj,lZ] at hr;cases hr
      ·rw[kq gj,lZ] at hr;cases hr
    have ev:=H.v (dG l k (iv l (k+1))) (DI (by omega) we.2) (by
     have:=hall l.length k (by omega)
     rw[e] at this;exact this)
    cases hv:VR (dG l k (iv l (k+1))) with
    |e c=>
     have hc:=H.e (aG (dG l k (iv l (k+1)))) c (by rw[<-ev];exact hv);rw[if_neg (show ¬((TV.e c).on (iv l (k+1))).c=0 from hc)];unfold Ag;dsimp only[TV.on];rw[(Sc.adv_f _ _).1,(Sc.adv_f _ _).2];rfl
    |t kk w nn=>
     rw[if_pos (show ((TV.t kk w nn).on (iv l (k+1))).c=0 from rfl)];unfold Ag;dsimp only[TV.on];rw[Sc.adv_out,(Sc.adv_f _ _).1,(Sc.adv_f _ _).2];rfl
   ·rw[if_neg c7,if_neg (show ¬((x.begin i 0).wrong 5,false).2=true from by intro h;cases h),if_neg c7,if_neg (by decide)];exact oJ (x.begin i 0) 5
  ·have:k=l.length:=by omega
   subst this;exact DH
theorem IM (H:Fi V U VR U') (s:List UInt8):qk V U s=IF VR U s:=by
 unfold qk IF;by_cases c:40000<s.length
 ·rw[if_pos c,if_pos c]
 ·rw[if_neg c,if_neg c]
  have:=IL (s:=s) (l:=ay s 0) H (kX s s.length 0 (by omega)) (ay s 0).length 0 (by omega) (jq _) 0 xB ((ay s 0).length+1) ⟨rfl,jq _,jq _⟩ rfl (oI _ _ _).symm (eR _)
  unfold lw at this;exact this
end Go.Ai
namespace Go.Ai
def aU (s:List UInt8):Nat:=s.foldl (fun a b=>10*a+(b.toNat - 48)) 0
def aV (b:UInt8):Bool:=decide (48<=b.toNat/\b.toNat<=57)
def ci (s:List UInt8):Bool:=!s.isEmpty&&s.all aV&&(s.headD 0 !=48||s.length==1)
theorem k7 (s:List UInt8) (b:UInt8):aU (s++[b])=10*aU s+(b.toNat - 48):=by simp[aU]
theorem IN {α:Type} {P:List α->Prop} (h0:P []) (h1: ∀s b,P s->P (s++[b])): ∀s,P s:=by
 intro s;rw[<-List.reverse_reverse s];induction s.reverse with
 |nil=>simpa using h0
 |cons b r ih=>rw[List.reverse_cons];exact h1 _ _ ih
theorem sY (s:List UInt8) (h:s.all aV=true):aU s<10^s.length:=by
 revert h;refine IN (P:=fun s=>s.all aV=true->aU s<10^s.length) ?_ ?_ s
 ·intro _;simp[aU]
 ·intro s b ih h;rw[List.all_append,aJ] at h
  have:=ih h.1
  have hb:aV b=true:=by simpa using h.2
  simp only[aV,qu] at hb;rw[k7,fT,Cp,Ns];omega
open Go.Proofs

def bl (l:List Bool):AV:= .sl (l.map fun b=>[.bool b])
open Go.Proofs
end Go.Ai
namespace Go.Ai
open Go.Proofs
def qc (j:Nat) (B:List Bool):List AV:=(List.replicate j false++B).map AV.bool
open Go.Proofs

open Go.Proofs

section
variable {x:Nat} (hx:x<18446744073709551616)
include hx
set_option linter.unusedSectionVars false
end
end Go.Ai
set_option linter.unusedSectionVars false
namespace Go.Ai
open Go.Proofs
section
variable {Q:AE->St->Prop} {Y s y1 y0 un v v0:Nat}
end

end Go.Ai
set_option linter.unusedSectionVars false
namespace Go.Ai
open Go.Proofs
section
variable {rq rr:Nat}
end
end Go.Ai
