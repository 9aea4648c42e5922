/- P7: a part of the proof. Conditions: as each theorem says. -/
import Derived.Test.YtggemlhclppciaaGreatDoorP6
set_option linter.unusedSimpArgs false
set_option linter.unusedVariables false
set_option maxRecDepth 20000
namespace Go.Ai
open Go.Proofs
theorem nl (s:List UInt8) (i n r0 l:Nat) (h:(bG s i n r0 l).1= -1):(bG s i n r0 l).2=1:=by
 unfold bG at h ⊢;split
 ·rename_i c;rw [if_pos c] at h;simp only at h;omega
 ·rfl
theorem tO (s:List UInt8) (i:Nat) (h:(ak s i).1= -1):(ak s i).2=1:=by
 unfold ak at h ⊢;simp only at h ⊢;split
 ·rfl
 ·rename_i c1;rw [if_neg c1] at h;split
  ·rename_i c2;rw [if_pos c2] at h;exact nl _ _ _ _ _ h
  ·rename_i c2;rw [if_neg c2] at h;split
   ·rename_i c3;rw [if_pos c3] at h;exact nl _ _ _ _ _ h
   ·rename_i c3;rw [if_neg c3] at h;split
    ·rename_i c4;rw [if_pos c4] at h;exact nl _ _ _ _ _ h
    ·rfl
theorem Jf (s:List UInt8) (i:Nat): ∀n,fH s i n=true→n=0∨i+n<s.length
 |0,_=> .inl rfl
 |k+1,h=>by
  rw [fH,aE] at h;exact .inr (kv h.2)
theorem tP (s:List UInt8) (i n r0 l:Nat) (h:i<s.length):i+(bG s i n r0 l).2≤s.length:=by
 unfold bG;split
 ·rename_i c;rw [aE] at c
  have:=Jf s i n c.1
  simp only;omega
 ·exact h
theorem gQ (s:List UInt8) (i:Nat) (h:i<s.length):i+(ak s i).2≤s.length:=by
 unfold ak;simp only;split
 ·exact h
 ·split
  ·exact tP _ _ _ _ _ h
  ·split
   ·exact tP _ _ _ _ _ h
   ·split
    ·exact tP _ _ _ _ _ h
    ·exact h
theorem oI (s:List UInt8) (i:Nat) (h:i<s.length):bU s i=(kz (ak s i).1,(ak s i).2):=by
 rw [cS s i h];unfold kz;by_cases c:(ak s i).1= -1
 ·rw [if_pos c,if_pos c,tO s i c]
 ·rw [if_neg c,if_neg c]
theorem Et (V:List UInt8→TV) (U:List UInt8→List UInt8×Int) (s:List UInt8) (x:Sc) (i:Nat) (h:i<s.length):eP V U s x i=
  if (bO V U s x i (kz (ak s i).1)).2=true then eP V U s ((bO V U s x i (kz (ak s i).1)).1.adv (kz (ak s i).1)) (i+(ak s i).2) else ((bO V U s x i (kz (ak s i).1)).1,false):=by
 rw [eP,dif_pos h]
theorem jQ (V:List UInt8→TV) (U:List UInt8→List UInt8×Int) (s:List UInt8) (x:Sc) (i:Nat) (h: ¬i<s.length):eP V U s x i=(x,true):=by
 rw [eP,dif_neg h]
theorem Sc.adv_out (x:Sc) (r:Int):(x.adv r).out=x.out:=by unfold Sc.adv;split<;>rfl
theorem Sc.adv_sa (x:Sc) (r:Int):(x.adv r).sa=x.sa:=by unfold Sc.adv;split<;>rfl
structure Jg (x:Sc) (i:Nat):Prop where
 sa:x.sa≤i
 ou:x.out.length≤2*i
 a0:0≤x.al
 a1:x.al≤i+1
 c0:0≤x.ac
 c1:x.ac≤i+1
theorem Jg.step {x:Sc} {i:Nat} (h:Jg x i) (V:List UInt8→TV) (U:List UInt8→List UInt8×Int) (s:List UInt8) (r:Int) (w:Nat) (hw:1≤w):Jg ((bO V U s x i r).1.adv r) (i+w):=by
 have k:=tN V U s x i r h.sa;have o:=FW V U s x i r;have h2:=h.ou;have h3:=h.a0;have h4:=h.a1;have h5:=h.c0;have h6:=h.c1;refine ⟨by rw [Sc.adv_sa];omega,by rw [Sc.adv_out];omega,?_,?_,?_,?_⟩<;>unfold Sc.adv<;>split<;>simp only<;>omega
theorem N1:Jg xU 0:=⟨eI _,eI _,by decide,by decide,by decide,by decide⟩
theorem oJ (V:List UInt8→TV) (U:List UInt8→List UInt8×Int) (s:List UInt8) (hU: ∀w,w.length≤s.length→Sp Tryz.prog gl 196 [.str w] (.tup [.str (U w).1,i6 (U w).2])) (hV: ∀w,w.length≤s.length→Sp Tryz.prog gl 109 [.str w] (V w).av):
  Sp Tryz.prog gl 47 [.str s] (qB V U s).av:=by
 refine UF rfl rfl ?_;have B:=fun (e:Nat) (he:(Id.n 10).isNw e=false)=>gP s ⟨[],0,0,0,0,1,1,0,0,0⟩ 0 0 e (.n 10) rfl he
 have hB:Sc.begin ⟨[],0,0,0,0,1,1,0,0,0⟩ 0 0=xU:=rfl;rw [hB] at B;unfold qB;by_cases hl:40000<s.length
 ·rw [if_pos hl];have hl':(40000:Int)<s.length:=by omega
  have W:=fun (e:Nat) (he:(Id.n 10).isNw e=false)=>eG s xU 9 e (.n 10) rfl he
  unfold fw Sc.wrong xU at *
  simp only [xQ] at B W;unfold TR.av;simp [PZ];refine aB _ _ (B _ rfl) ?_;simp [hl,hl'];refine aB _ _ (W _ rfl) ?_;simp
 ·rw [if_neg hl];have hl': ¬(40000:Int)<s.length:=by omega
  have B: ∀(e:Nat) (he:(Id.n 10).isNw e=false),cB Tryz.prog gl 75 e ⟨[.ptr (.n 10) 0,i6 0,i6 0],[(.n 10,[.str s,.sl [],i6 0,i6 0,i6 0,i6 0,i6 1,i6 1,i6 0,i6 0,i6 0])],[(.b (.n 10) 1,5)]⟩ ⟨.tup [],[(.n 10,fw s xU)],[(.b (.n 10) 1,5)]⟩:=B;obtain ⟨R,hR⟩: ∃R,R=eP V U s xU 0:=⟨_,rfl⟩;rw [←hR];have sl: ∀x,(fw s x).length=11:=fun _=>rfl
  have si: ∀x,ba (fw s x)=[]:=fun _=>rfl
  simp [PZ];refine aB _ _ (B _ rfl) ?_;simp [hl,hl',sl,si];refine aP (α:=Sc×Nat) (fun y=>⟨[(0,.str s),(3,.ptr (.n 3) 0),(4,.ptr (.n 10) 0),(23,.itp 23)],[(.n 3,[i6 0,i6 0,i6 0]),(.n 10,fw s y.1),(.it 23,[.itr s y.2])],[(.b (.n 10) 1,5)]⟩)
   (fun y=>Jg y.1 y.2∧y.2≤s.length∧eP V U s y.1 y.2=R) (fun y=>s.length - y.2) ?_ (xU,0) ?_ ?_
  ·rintro K ⟨x,i⟩ hK ⟨h1,h2,h3⟩;simp only at h1 h2 h3;by_cases g:i<s.length
   ·have sr:=oI s i g;have sp:=bI s i;have sw:=gQ s i g;rw [Et V U s x i g] at h3;have o1:=h1.ou;have T:=fun r (e:Nat) (he:(Id.n 10).isNw e=false)=>CZ V U s hU hV x (by omega) (by omega) i h1.sa g r e (.n 10) rfl he
    have ko:=h1.step V U s (kz (ak s i).1) (ak s i).2 sp;have kk:=tN V U s x i (kz (ak s i).1) h1.sa;have c0:=h1.c0;have c1:=h1.c1;have a0:=h1.a0;have a1:=h1.a1;have T:=T (kz (ak s i).1);generalize hq:kz (ak s i).1=r at *
    generalize (ak s i).2=w at *
    generalize (bO V U s x i r).2=ok at *
    generalize (bO V U s x i r).1=y at *
    have fin:eP V U s (y.adv r) (i+w)=R→ ∀σ',dL σ' ⟨[(0,.str s),(3,.ptr (.n 3) 0),(4,.ptr (.n 10) 0),(23,.itp 23)],[(.n 3,[i6 0,i6 0,i6 0]),(.n 10,fw s (y.adv r)),(.it 23,[.itr s (i+w)])],[(.b (.n 10) 1,5)]⟩→K σ':=
     fun hh σ' hσ=>hK (y.adv r,i+w) σ' ⟨ko,by simp only;omega,hh⟩ (by simp only;omega) hσ
    have w1:IntKind.i64.wrap (y.ac+1)=y.ac+1:=by rw [aj]<;>omega
    have w2:IntKind.i64.wrap (y.al+1)=y.al+1:=by rw [aj]<;>omega
    clear hK hR ko;cases ok
    ·rw [if_neg (by decide)] at h3;subst h3;clear fin;dsimp only;rw [if_neg (by decide)];unfold TR.bad TR.av;unfold fw at *
     generalize y.out.map Tk.row=L at *
     generalize x.out.map Tk.row=L0 at *
     simp [g,sr];refine aB _ _ (T _ rfl) ?_;simp
    ·rw [if_pos rfl] at h3;have fin:=fin h3;clear h3;generalize TR.av _=res;unfold Sc.adv at fin;by_cases c:r=10
     ·rw [if_pos c] at fin;unfold fw at *
      generalize y.out.map Tk.row=L at *
      generalize x.out.map Tk.row=L0 at *
      simp [g,sr];refine aB _ _ (T _ rfl) ?_;simp [c,w1,w2];refine fin _ ?_;apply ae<;>simp
     ·rw [if_neg c] at fin;have c':(r==10)=false:=cI.2 c;unfold fw at *
      generalize y.out.map Tk.row=L at *
      generalize x.out.map Tk.row=L0 at *
      simp [g,sr];refine aB _ _ (T _ rfl) ?_;simp [c,c',w1,w2];refine fin _ ?_;apply ae<;>simp
   ·rw [jQ V U s x i g] at h3;subst h3;dsimp only;rw [if_pos rfl];have o1:=h1.ou;have hsa:=h1.sa;clear hK;have E:=fun (e:Nat) (he:(Id.n 10).isNw e=false)=>FX V s hV x (by omega) (by omega) (by omega) e (.n 10) rfl he
    generalize (ky V s x).2=ok at *
    generalize (ky V s x).1=y at *
    cases ok
    ·rw [if_neg (by decide)];unfold TR.bad TR.av;unfold fw at *
     generalize y.out.map Tk.row=L at *
     generalize x.out.map Tk.row=L0 at *
     simp [g];refine aB _ _ (E _ rfl) ?_;simp
    ·rw [if_pos rfl];unfold TR.av;unfold fw at *
     dsimp only;generalize y.out.map Tk.row=L at *
     generalize x.out.map Tk.row=L0 at *
     simp [g];refine aB _ _ (E _ rfl) ?_;simp
  ·exact ⟨N1,by simp only;omega,hR.symm⟩
  ·apply ae<;>simp [fw,xU]
open Go.Proofs
def kL (V:List UInt8→TV) (s:List UInt8) (p:Sc×Bool):TR:=
 if p.2=true then (if (ky V s p.1).2=true then ⟨(ky V s p.1).1.out,0,0,0⟩ else .bad (ky V s p.1).1) else .bad p.1
theorem lF:wthn (-1)=false∧wthn 65533=false:=⟨by decide,by decide⟩
theorem tQ (x:Sc) (i:Nat) (r:Int):db x i (kz r)=db x i r:=by
 unfold kz;by_cases c:r= -1
 ·subst c;rw [if_pos rfl];unfold db;simp [lF.1,lF.2]
 ·rw [if_neg c]
theorem Ao (U:List UInt8→List UInt8×Int) (s:List UInt8) (x:Sc) (i:Nat) (r:Int):bF U s x i (kz r)=bF U s x i r:=by
 unfold kz;by_cases c:r= -1
 ·subst c;rw [if_pos rfl];unfold bF;simp
 ·rw [if_neg c]
theorem FY (V:List UInt8→TV) (U:List UInt8→List UInt8×Int) (s:List UInt8) (x:Sc) (i:Nat) (r:Int):bO V U s x i (kz r)=bO V U s x i r:=by
 unfold bO;rw [Ao,tQ,tQ];have h:wthn (kz r)=wthn r:=by
  unfold kz;by_cases c:r= -1
  ·subst c;rw [if_pos rfl,lF.1,lF.2]
  ·rw [if_neg c]
 have h2:(kz r=10)=(r=10):=by
  unfold kz;by_cases c:r= -1
  ·subst c;simp
  ·rw [if_neg c]
 rw [h];simp only [h2]
theorem Lp (x:Sc) (r:Int):x.adv (kz r)=x.adv r:=by
 unfold kz;by_cases c:r= -1
 ·subst c;rfl
 ·rw [if_neg c]
theorem fI (V:List UInt8→TV) (U:List UInt8→List UInt8×Int) (s:List UInt8) (x:Sc) (i:Nat) (h:i<s.length):eP V U s x i=
  if (bO V U s x i (ak s i).1).2=true then eP V U s ((bO V U s x i (ak s i).1).1.adv (ak s i).1) (i+(ak s i).2) else ((bO V U s x i (ak s i).1).1,false):=by
 rw [Et V U s x i h,FY,Lp]
theorem oK (l:List Int) (a b:Int):(xT a b l).getD 0 (0,0)=(a,b):=by cases l<;>rfl
theorem tR: ∀(l:List Int) (a b:Int) (k:Nat) (h:k<l.length),(xT a b l).getD (k+1) (0,0)=if l[k]=10 then (((xT a b l).getD k (0,0)).1+1,1) else (((xT a b l).getD k (0,0)).1,((xT a b l).getD k (0,0)).2+1)
 |[],a,b,k,h=>absurd h (by simp)
 |r::l,a,b,0,h=>by
  rw [oK];simp only [List.getElem_cons_zero];rw [xT,List.getD_cons_succ];split
  ·rw [oK]
  ·rw [oK]
 |r::l,a,b,k+1,h=>by
  simp only [List.getElem_cons_succ];rw [xT,List.getD_cons_succ,List.getD_cons_succ];split
  ·exact tR l _ _ k (by simpa using h)
  ·exact tR l _ _ k (by simpa using h)
structure At (s:List UInt8) (l:List Int) (i k:Nat):Prop where
 r:ai s i=l.drop k
 i:i≤s.length
 k:k≤l.length
theorem At.next {s:List UInt8} {l:List Int} {i k:Nat} (h:At s l i k) (g:k<l.length):i<s.length∧(ak s i).1=l[k]∧At s l (i+(ak s i).2) (k+1):=by
 have e:=h.r;rw [oU g] at e;by_cases c:i<s.length
 ·rw [aW c] at e;injection e with e1 e2;exact ⟨c,e1,e2,gQ s i c,g⟩
 ·rw [aH c] at e;cases e
theorem At.end {s:List UInt8} {l:List Int} {i:Nat} (h:At s l i l.length):i=s.length:=by
 have e:=h.r;rw [A6] at e;by_cases c:i<s.length
 ·rw [aW c] at e;cases e
 ·have:=h.i;omega
theorem jR {l:List Int} {a j:Nat} (h:j<l.length) (ha:a≤j):dw l a (j+1)=dw l a j++[l[j]]:=by
 unfold dw;rw [Dg h,List.drop_append_of_le_length (by rw [rH];omega)]
theorem lG (l:List Int) (a:Nat):dw l a a=[]:=by
 unfold dw;rw [ui (by rw [rH];omega)]
theorem Eu (V:List UInt8→TV) (U:List UInt8→List UInt8×Int) (s:List UInt8) (x:Sc) (i:Nat) (r:Int) (h:x.st=0):bO V U s x i r=db x i r:=by
 unfold bO;rw [if_neg (by omega),if_neg (by omega),if_neg (by omega)]
theorem Jh (V:List UInt8→TV) (s:List UInt8) (x:Sc) (h:x.st=0∨x.st=4):ky V s x=((x.begin s.length 0).add (.t 0 [] 0),true):=by
 unfold ky;rw [if_neg (by omega),if_neg (by omega)]
theorem tS (V:List UInt8→TV) (U:List UInt8→List UInt8×Int) (s:List UInt8) (x:Sc) (h:x.st=0∨x.st=4):kL V s (eP V U s x s.length)=⟨x.out++[⟨0,[],0,x.al,x.ac⟩],0,0,0⟩:=by
 rw [jQ V U s x s.length (by omega)];unfold kL;rw [if_pos rfl,Jh V s x h,if_pos rfl];rfl
theorem pT (VR:List Int→TV) (U:List UInt8→List UInt8×Int) (l:List Int) (P:List (Int×Int)) (f:Nat) (out:List Tk):bL VR U l P (f+1) l.length out=⟨out++[⟨0,[],0,(P.getD l.length (0,0)).1,(P.getD l.length (0,0)).2⟩],0,0,0⟩:=by
 rw [bL,EG (by omega)]
theorem Ap (VR:List Int→TV) (U:List UInt8→List UInt8×Int) (l:List Int) (P:List (Int×Int)) (f k:Nat) (out:List Tk) (h:k<l.length):bL VR U l P (f+1) k out=
  if l[k]=32∨l[k]=9∨l[k]=10 then bL VR U l P f (k+1) out
   else if l[k]=35 then bL VR U l P f (C0 l k) out
   else if (dB VR U l k l[k]).c=0 then bL VR U l P f (dB VR U l k l[k]).en (out++[⟨(dB VR U l k l[k]).k,(dB VR U l k l[k]).w,(dB VR U l k l[k]).n,(P.getD k (0,0)).1,(P.getD k (0,0)).2⟩])
   else ⟨[],(dB VR U l k l[k]).c,(P.getD k (0,0)).1,(P.getD k (0,0)).2⟩:=by
 rw [bL,rG h]
def jb (l:List Int) (x:Sc) (k:Nat):Prop:=(x.al,x.ac)=(xT 1 1 l).getD k (0,0)
theorem jb.adv {l:List Int} {x:Sc} {k:Nat} (h:jb l x k) (g:k<l.length) {y:Sc} (h1:y.al=x.al) (h2:y.ac=x.ac):jb l (y.adv l[k]) (k+1):=by
 unfold jb at h ⊢;rw [tR l 1 1 k g,←h];unfold Sc.adv;split
 ·rw [←h1]
 ·rw [←h1,←h2]
theorem jb.one {l:List Int} {x:Sc} {k:Nat} (h:jb l x k):((xT 1 1 l).getD k (0,0)).1=x.al∧((xT 1 1 l).getD k (0,0)).2=x.ac:=by
 unfold jb at h;rw [←h];exact ⟨rfl,rfl⟩
theorem Sc.adv_st (x:Sc) (r:Int):(x.adv r).st=x.st:=by unfold Sc.adv;split<;>rfl
theorem Sc.adv_f (x:Sc) (r:Int):(x.adv r).fl=x.fl∧(x.adv r).fc=x.fc:=by unfold Sc.adv;split<;>exact ⟨rfl,rfl⟩
open Go.Proofs
structure FZ (V:List UInt8→TV) (U:List UInt8→List UInt8×Int) (VR:List Int→TV) (U':List Int→List UInt8×Int):Prop where
 u: ∀w,U w=U' (ai w 0)
 v: ∀m:List Int,m≠[]→(∀r∈m,wthn r=true)→VR m=V (au m)
 e: ∀w c,V w= .e c→c≠0
def N2 (V:List UInt8→TV) (U:List UInt8→List UInt8×Int) (VR:List Int→TV) (s:List UInt8) (l:List Int) (k:Nat):Prop:=
 ∀i x f,At s l i k→x.st=0→jb l x k→l.length+1 - k≤f→kL V s (eP V U s x i)=bL VR U l (xT 1 1 l) f k x.out
variable {V:List UInt8→TV} {U:List UInt8→List UInt8×Int} {VR:List Int→TV} {U':List Int→List UInt8×Int} {s:List UInt8} {l:List Int}
theorem Ev:N2 V U VR s l l.length:=by
 intro i x f hA hst hP hf;obtain rfl:=hA.end;obtain ⟨f,rfl⟩: ∃g,f=g+1:=⟨f - 1,by omega⟩;rw [tS V U s x (.inl hst),pT,hP.one.1,hP.one.2]
theorem Lq (x:Sc) (i:Nat) (r:Int) (h:x.st=4):bO V U s x i r=((if r=10 then {x with st:=0} else x),true):=by
 unfold bO;rw [if_neg (by omega),if_pos h]
theorem PS: ∀n j,l.length - j≤n→(∀k',j<k'→k'≤l.length→N2 V U VR s l k')→ ∀i x f,At s l i j→x.st=4→jb l x j→l.length+1 - j≤f→kL V s (eP V U s x i)=bL VR U l (xT 1 1 l) f (C0 l j) x.out:=by
 intro n;induction n with
 |zero=>
  intro j hj hB i x f hA hst hP hf
  have:j=l.length:=by have:=hA.k;omega
  subst this;obtain rfl:=hA.end;obtain ⟨f,rfl⟩: ∃g,f=g+1:=⟨f - 1,by omega⟩;rw [tS V U s x (.inr hst),rB (by omega),pT,hP.one.1,hP.one.2]
 |succ n ih=>
  intro j hj hB i x f hA hst hP hf;by_cases g:j<l.length
  ·obtain ⟨hi,hr,hA'⟩:=hA.next g
   rw [fI V U s x i hi,hr,Lq x i _ hst,if_pos rfl];dsimp only;rw [xD g];by_cases c:l[j]=10
   ·rw [if_pos c,if_pos c];obtain ⟨f,rfl⟩: ∃g,f=g+1:=⟨f - 1,by omega⟩;rw [Ap VR U l _ f j _ g,if_pos (.inr (.inr c))]
    have:=hB (j+1) (by omega) (by omega) _ (({x with st:=0}:Sc).adv l[j]) f hA' (by rw [Sc.adv_st]) (hP.adv g rfl rfl) (by omega)
    rw [Sc.adv_out] at this;exact this
   ·rw [if_neg c,if_neg c]
    have:=ih (j+1) (by omega) (fun k' a b=>hB k' (by omega) b) _ (x.adv l[j]) f hA' (by rw [Sc.adv_st];exact hst) (hP.adv g rfl rfl) (by omega)
    rw [Sc.adv_out] at this;exact this
  ·have:j=l.length:=by have:=hA.k;omega
   subst this;obtain rfl:=hA.end;obtain ⟨f,rfl⟩: ∃g,f=g+1:=⟨f - 1,by omega⟩;rw [tS V U s x (.inr hst),rB (by omega),pT,hP.one.1,hP.one.2]
theorem Ew {k0 j:Nat} (h:k0<j) (hj:j≤l.length):dw l k0 j≠[]:=by
 intro e
 have:(dw l k0 j).length=0:=by rw [e];rfl
 unfold dw at this;rw [uk,rH] at this;omega
theorem Lr {r:Int} (h:wthn r=true):r≠ -1:=by
 intro e;rw [e,lF.1] at h;cases h
def Aq (VR:List Int→TV) (U:List UInt8→List UInt8×Int) (l:List Int) (f e:Nat) (v:TV) (x:Sc):TR:=match v with
 | .e c=>⟨[],c,x.fl,x.fc⟩
 | .t k w n=>bL VR U l (xT 1 1 l) f e (x.out++[⟨k,w,n,x.fl,x.fc⟩])
theorem tT (H:FZ V U VR U') {j k0 i f:Nat} {x:Sc} (hB: ∀k',k0<k'→k'≤l.length→N2 V U VR s l k') (hk:k0<j) (hA:At s l i j) (hst:x.st=1) (hP:jb l x j) (hW:Wk s x.sa (dw l k0 j) i) (hw: ∀r∈dw l k0 j,wthn r=true) (hf:l.length≤f+k0)
  (hn: ∀h:j<l.length,wthn l[j]=false):kL V s (eP V U s x i)=Aq VR U l f j (VR (dw l k0 j)) x:=by
 have et:dF s x.sa i=au (dw l k0 j):=xx s _ _ _ hA.i hW (fun r hr=>Lr (hw r hr));have ev:=H.v (dw l k0 j) (Ew hk hA.k) hw;rw [ev,←et];cases hv:V (dF s x.sa i) with
 |e c=>
  by_cases g:j<l.length
  ·obtain ⟨hi,hr,hA'⟩:=hA.next g
   rw [fI V U s x i hi,hr];have ht:bO V U s x i l[j]=(x.add (.e c),false):=by
    unfold bO;rw [if_pos hst,if_neg (by rw [hn g];decide),hv,if_neg (show ¬(TV.e c).ok=true from by intro h;cases h)]
   rw [ht,if_neg (show ¬(x.add (.e c),false).2=true from by intro h;cases h)];rfl
  ·have:j=l.length:=by have:=hA.k;omega
   subst this;obtain rfl:=hA.end;rw [jQ V U s x _ (by omega)];unfold kL;rw [if_pos rfl];have ht:ky V s x=(x.add (.e c),false):=by
    unfold ky;rw [if_pos hst,hv,if_neg (show ¬(TV.e c).ok=true from by intro h;cases h)]
   rw [ht,if_neg (show ¬(x.add (.e c),false).2=true from by intro h;cases h)];rfl
 |t k w n=>
  have hs:eP V U s x i=eP V U s (x.add (.t k w n)) i∨kL V s (eP V U s x i)=kL V s (eP V U s (x.add (.t k w n)) i):=by
   by_cases g:j<l.length
   ·obtain ⟨hi,hr,hA'⟩:=hA.next g
    left;rw [fI V U s x i hi,fI V U s (x.add (.t k w n)) i hi,hr,Eu V U s (x.add (.t k w n)) i _ rfl];have ht:bO V U s x i l[j]=db (x.add (.t k w n)) i l[j]:=by
     unfold bO;rw [if_pos hst,if_neg (by rw [hn g];decide),hv,if_pos (show (TV.t k w n).ok=true from rfl)]
    rw [ht]
   ·right
    have:j=l.length:=by have:=hA.k;omega
    subst this;obtain rfl:=hA.end;rw [jQ V U s x _ (by omega),jQ V U s (x.add (.t k w n)) _ (by omega)];unfold kL;rw [if_pos rfl,if_pos rfl];have ht:ky V s x=(((x.add (.t k w n)).begin s.length 0).add (.t 0 [] 0),true):=by
     unfold ky;rw [if_pos hst,hv,if_pos (show (TV.t k w n).ok=true from rfl)]
    have ht2:=Jh V s (x.add (.t k w n)) (.inl rfl);simp only [ht,ht2]
  have hs:kL V s (eP V U s x i)=kL V s (eP V U s (x.add (.t k w n)) i):=by
   rcases hs with h|h
   ·rw [h]
   ·exact h
  rw [hs];exact hB j hk hA.k i (x.add (.t k w n)) f hA rfl hP (by omega)
theorem N3 (H:FZ V U VR U'): ∀n j,l.length - j≤n→ ∀k0 i x f,k0<j→(∀k',k0<k'→k'≤l.length→N2 V U VR s l k')→At s l i j→x.st=1→jb l x j→Wk s x.sa (dw l k0 j) i→(∀r∈dw l k0 j,wthn r=true)→l.length≤f+k0→
  kL V s (eP V U s x i)=Aq VR U l f (hY l j) (VR (dw l k0 (hY l j))) x:=by
 intro n;induction n with
 |zero=>
  intro j hj k0 i x f hk hB hA hst hP hW hw hf;have g: ¬j<l.length:=by omega
  rw [iN g];exact tT H hB hk hA hst hP hW hw hf (fun h=>absurd h g)
 |succ n ih=>
  intro j hj k0 i x f hk hB hA hst hP hW hw hf;by_cases g:j<l.length
  ·rw [kx g];by_cases c:wthn l[j]=true
   ·rw [if_pos c];obtain ⟨hi,hr,hA'⟩:=hA.next g
    have ht:bO V U s x i l[j]=(x,true):=by
     unfold bO;rw [if_pos hst,if_pos c]
    rw [fI V U s x i hi,hr,ht,if_pos rfl];have hsn:=jR g (show k0≤j by omega);have hW':=rz s _ _ _ hW hi;rw [hr,←hsn] at hW'
    have:=ih (j+1) (by omega) k0 _ (x.adv l[j]) f (by omega) hB hA' (by rw [Sc.adv_st];exact hst) (hP.adv g rfl rfl) (by rw [Sc.adv_sa];exact hW') (fun r hr=>by
     rw [hsn,iB,oZ] at hr;rcases hr with hr|rfl
     ·exact hw r hr
     ·exact c) hf
    rw [this];unfold Aq;rw [Sc.adv_out,(Sc.adv_f x _).1,(Sc.adv_f x _).2]
   ·rw [if_neg c];exact tT H hB hk hA hst hP hW hw hf (fun h=>by simpa using c)
  ·rw [iN g];exact tT H hB hk hA hst hP hW hw hf (fun h=>absurd h g)
open Go.Proofs
variable {V:List UInt8→TV} {U:List UInt8→List UInt8×Int} {VR:List Int→TV} {U':List Int→List UInt8×Int} {s:List UInt8} {l:List Int}
theorem qC {i:Nat} {r:Int} (h:(ak s i).1=r) (h0:0≤r) (h1:r<128):(aX s i:Int)=r∧(ak s i).2=1:=by
 have ff: ∀n r0 least,128≤least→(bG s i n r0 least).1=r→False:=by
  intro n r0 least hl e;unfold bG at e;split at e
  ·rename_i c;rw [aE] at c
   have:=iv c.2
   dsimp only at e;omega
  ·dsimp only at e;omega
 unfold ak at h ⊢;simp only at h ⊢;split
 ·rename_i c;rw [if_pos c] at h;exact ⟨h,rfl⟩
 ·rename_i c;rw [if_neg c] at h;split
  ·rename_i c2;rw [if_pos c2] at h;exact (ff _ _ _ (by omega) h).elim
  ·rename_i c2;rw [if_neg c2] at h;split
   ·rename_i c3;rw [if_pos c3] at h;exact (ff _ _ _ (by omega) h).elim
   ·rename_i c3;rw [if_neg c3] at h;split
    ·rename_i c4;rw [if_pos c4] at h;exact (ff _ _ _ (by omega) h).elim
    ·rename_i c4;rw [if_neg c4] at h;dsimp only at h;omega
def Ji (VR:List Int→TV) (U:List UInt8→List UInt8×Int) (U':List Int→List UInt8×Int) (l:List Int) (f k0 e:Nat) (out:List Tk) (a b:Int):TR:=
 if e=0 then ⟨[],5,a,b⟩
 else if (U' (dw l k0 e)).2=0 then bL VR U l (xT 1 1 l) f e (out++[⟨2,(U' (dw l k0 e)).1,0,a,b⟩]) else ⟨[],(U' (dw l k0 e)).2,a,b⟩
theorem Ex (x:Sc) (i:Nat) (r:Int) (h:x.st=2∨x.st=3):bO V U s x i r=bF U s x i r:=by
 unfold bO;rw [if_neg (by omega),if_neg (by omega),if_pos h]
theorem vP (x:Sc) (h:x.st=2∨x.st=3):kL V s (eP V U s x s.length)=⟨[],5,x.fl,x.fc⟩:=by
 rw [jQ V U s x _ (by omega)];unfold kL;rw [if_pos rfl]
 have:ky V s x=(x.wrong 5,false):=by
  unfold ky;rw [if_neg (by omega),if_pos h]
 rw [this,if_neg (show ¬(x.wrong 5,false).2=true from by intro h;cases h)];rfl
theorem oL (x:Sc) (e:Int):kL V s (x.wrong e,false)=⟨[],e,x.fl,x.fc⟩:=by
 unfold kL;rw [if_neg (show ¬(x.wrong e,false).2=true from by intro h;cases h)];rfl
theorem oM (x:Sc) (i:Nat):bF U s x i 10=(x.wrong 5,false):=by unfold bF;rw [if_pos rfl]
theorem N4 (H:FZ V U VR U'): ∀n j,l.length - j≤n→ ∀k0 i x f,k0<j→(∀k',k0<k'→k'≤l.length→N2 V U VR s l k')→At s l i j→x.st=2→jb l x j→Wk s x.sa (dw l k0 j) i→l.length≤f+k0→
  kL V s (eP V U s x i)=Ji VR U U' l f k0 (nk l j) x.out x.fl x.fc:=by
 intro n;induction n using Nat.strongRecOn with
 |ind n ih=>
 intro j hj k0 i x f hk hB hA hst hP hW hf;by_cases g:j<l.length
 ·obtain ⟨hi,hr,hA'⟩:=hA.next g
  have hsn:=jR g (show k0≤j by omega);have hW':=rz s _ _ _ hW hi;rw [hr,←hsn] at hW';rw [fI V U s x i hi,hr,Ex x i _ (.inl hst),tJ g];by_cases c1:l[j]=10
  ·rw [if_pos c1,c1,oM,if_neg (show ¬(x.wrong 5,false).2=true from by intro h;cases h),oL];rfl
  rw [if_neg c1];by_cases c2:l[j]=34
  ·rw [if_pos c2];have pl:=qC (s:=s) (i:=i) (r:=34) (by rw [hr,c2]) (by decide) (by decide);rw [pl.2] at hW' hA';have hsub:ai (dF s x.sa (i+1)) 0=dw l k0 (j+1):=by
    have:=Jc s x.sa i hi (by omega) _ x.sa (eI _) hW'
    rw [Nat.sub_self] at this;exact this
   have hq:U (dF s x.sa (i+1))=U' (dw l k0 (j+1)):=by rw [H.u,hsub]
   have ht:bF U s x i l[j]=gG U s x (i+1):=by
    unfold bF;rw [if_neg c1,if_neg (by omega),if_neg (by omega),if_pos c2]
   rw [ht];unfold gG Ji;rw [hq,if_neg (show ¬j+1=0 by omega)];dsimp only;generalize U' (dw l k0 (j+1))=q at *
   by_cases c:q.2=0
   ·rw [if_pos c,Es c,if_pos (show (TV.t 2 q.1 0).ok=true from rfl),pl.2]
    have:=hB (j+1) (by omega) (by omega) _ ((x.add (.t 2 q.1 0)).adv l[j]) f hA' (by rw [Sc.adv_st];rfl) (hP.adv g rfl rfl) (by omega)
    rw [Sc.adv_out] at this;exact this
   ·rw [if_neg c,Er c,if_neg (show ¬(TV.e q.2).ok=true from by intro h;cases h)];exact oL x q.2
  rw [if_neg c2];by_cases c3:l[j]=92
  ·rw [if_pos c3];have ht:bF U s x i l[j]=({x with st:=3},true):=by
    unfold bF;rw [if_neg c1,if_neg (by omega),if_pos c3]
   rw [ht,if_pos rfl];dsimp only;obtain ⟨y,hy⟩: ∃y,y=({x with st:=3}:Sc).adv l[j]:=⟨_,rfl⟩;have y1:y.st=3:=by rw [hy,Sc.adv_st]
   have y2:y.out=x.out:=by rw [hy,Sc.adv_out]
   have y3:y.fl=x.fl∧y.fc=x.fc:=by rw [hy];exact Sc.adv_f _ _
   have y4:y.sa=x.sa:=by rw [hy,Sc.adv_sa]
   have y5:jb l y (j+1):=by rw [hy];exact hP.adv g rfl rfl
   rw [←hy];by_cases g2:j+1<l.length
   ·obtain ⟨hi2,hr2,hA2⟩:=hA'.next g2
    have hsn2:=jR g2 (show k0≤j+1 by omega);have hW2:=rz s _ _ _ hW' hi2;rw [hr2,←hsn2] at hW2;rw [rG g2,fI V U s y _ hi2,hr2,Ex y _ _ (.inr y1)];by_cases c4:l[j+1]=10
    ·rw [if_pos (show some l[j+1]=some 10 by rw [c4]),c4,oM,if_neg (show ¬(y.wrong 5,false).2=true from by intro h;cases h),oL,y3.1,y3.2];rfl
    ·rw [if_neg (show ¬some l[j+1]=some 10 by simpa using c4)];have ht2:bF U s y (i+(ak s i).2) l[j+1]=({y with st:=2},true):=by
      unfold bF;rw [if_neg c4,if_pos y1]
     rw [ht2,if_pos rfl]
     have:=ih (l.length - (j+2)) (by omega) (j+2) (eI _) k0 _ (({y with st:=2}:Sc).adv l[j+1]) f (by omega) hB hA2 (by rw [Sc.adv_st]) (y5.adv g2 rfl rfl) (by rw [Sc.adv_sa];show Wk s y.sa _ _;rw [y4];exact hW2) hf
     dsimp only;rw [this,Sc.adv_out,(Sc.adv_f _ _).1,(Sc.adv_f _ _).2];dsimp only;rw [y2,y3.1,y3.2]
   ·have e:j+1=l.length:=by omega
    rw [e] at hA';have hs:=hA'.end;rw [EG (by omega),if_neg (show ¬(none:Option Int)=some 10 by simp),xy (by omega),hs,vP y (.inr y1),y3.1,y3.2];rfl
  rw [if_neg c3];have ht:bF U s x i l[j]=(x,true):=by
   unfold bF;rw [if_neg c1,if_neg (by omega),if_neg c3,if_neg c2]
  rw [ht,if_pos rfl]
  have:=ih (l.length - (j+1)) (by omega) (j+1) (eI _) k0 _ (x.adv l[j]) f (by omega) hB hA' (by rw [Sc.adv_st];exact hst) (hP.adv g rfl rfl) (by rw [Sc.adv_sa];exact hW') hf
  dsimp only;rw [this,Sc.adv_out,(Sc.adv_f _ _).1,(Sc.adv_f _ _).2]
 ·have:j=l.length:=by have:=hA.k;omega
  subst this;obtain rfl:=hA.end;rw [xy (by omega),vP x (.inl hst)];rfl
theorem Jj (H:FZ V U VR U') (hl: ∀r∈l,ug r): ∀n k,l.length - k≤n→k≤l.length→N2 V U VR s l k:=by
 intro n;induction n with
 |zero=>
  intro k hk hk2
  have:k=l.length:=by omega
  subst this;exact Ev
 |succ n ih=>
  intro k hk hk2;by_cases g:k<l.length
  ·have hB: ∀k',k<k'→k'≤l.length→N2 V U VR s l k':=fun k' a b=>ih k' (by omega) b
   intro i x f hA hst hP hf;obtain ⟨f,rfl⟩: ∃g,f=g+1:=⟨f - 1,by omega⟩;obtain ⟨hi,hr,hA'⟩:=hA.next g
   rw [fI V U s x i hi,hr,Eu V U s x i _ hst,Ap VR U l _ f k _ g,hP.one.1,hP.one.2];have p1: ∀y:Sc,y.al=x.al→y.ac=x.ac→jb l (y.adv l[k]) (k+1):=fun y a b=>hP.adv g a b
   unfold db;dsimp only;by_cases c1:l[k]=32∨l[k]=9∨l[k]=10
   ·rw [if_pos c1,if_pos c1,if_pos rfl]
    have:=hB (k+1) (by omega) (by omega) _ ((x.begin i 0).adv l[k]) f hA' (by rw [Sc.adv_st];rfl) (p1 _ rfl rfl) (by omega)
    rw [Sc.adv_out] at this;exact this
   rw [if_neg c1,if_neg c1];by_cases c2:l[k]=35
   ·rw [if_pos c2,if_pos c2,if_pos rfl]
    have:=PS l.length (k+1) (by omega) (fun k' a b=>hB k' (by omega) b) _ (({x.begin i 0 with st:=4}:Sc).adv l[k]) f hA' (by rw [Sc.adv_st]) (p1 _ rfl rfl) (by omega)
    rw [Sc.adv_out] at this;have e:C0 l k=C0 l (k+1):=by rw [xD g,if_neg (by omega)]
    rw [e];exact this
   rw [if_neg c2,if_neg c2];have w1:Wk s i (dw l k (k+1)) (i+(ak s i).2):=by
    rw [jR g (eI _),lG];exact ⟨hi,hr,rfl⟩
   unfold dB;by_cases c3:l[k]=34
   ·rw [if_pos c3,if_pos rfl];rw [if_neg (show ¬l[k]=123 by omega),if_neg (show ¬l[k]=125 by omega),if_neg (show ¬l[k]=59 by omega),if_pos c3]
    have:=N4 (s:=s) H l.length (k+1) (by omega) k _ (({x.begin i 0 with st:=2}:Sc).adv l[k]) f (by omega) hB hA' (by rw [Sc.adv_st]) (p1 _ rfl rfl) (by rw [Sc.adv_sa];exact w1) (by omega)
    rw [Sc.adv_out,(Sc.adv_f _ _).1,(Sc.adv_f _ _).2] at this;have hu:U (au (dw l k (nk l (k+1))))=U' (dw l k (nk l (k+1))):=by
     rw [H.u,dS _ (fun r hr=>hl r (Jd hr))]
    rw [hu];refine this.trans ?_;unfold Ji;by_cases c:nk l (k+1)=0
    ·rw [if_pos c,if_pos c];rfl
    ·rw [if_neg c,if_neg c];dsimp only;rfl
   rw [if_neg c3];by_cases c4:l[k]=123
   ·rw [if_pos c4,if_pos rfl,if_pos c4,if_pos rfl]
    have:=hB (k+1) (by omega) (by omega) _ (((x.begin i 0).add (.t 7 [] 0)).adv l[k]) f hA' (by rw [Sc.adv_st];rfl) (p1 _ rfl rfl) (by omega)
    rw [Sc.adv_out] at this;exact this
   rw [if_neg c4,if_neg c4];by_cases c5:l[k]=125
   ·rw [if_pos c5,if_pos rfl,if_pos c5,if_pos rfl]
    have:=hB (k+1) (by omega) (by omega) _ (((x.begin i 0).add (.t 8 [] 0)).adv l[k]) f hA' (by rw [Sc.adv_st];rfl) (p1 _ rfl rfl) (by omega)
    rw [Sc.adv_out] at this;exact this
   rw [if_neg c5,if_neg c5];by_cases c6:l[k]=59
   ·rw [if_pos c6,if_pos rfl,if_pos c6,if_pos rfl]
    have:=hB (k+1) (by omega) (by omega) _ (((x.begin i 0).add (.t 9 [] 0)).adv l[k]) f hA' (by rw [Sc.adv_st];rfl) (p1 _ rfl rfl) (by omega)
    rw [Sc.adv_out] at this;exact this
   rw [if_neg c6,if_neg c6,if_neg c3];by_cases c7:wthn l[k]=true
   ·rw [if_pos c7,if_pos rfl,if_pos c7];have hw: ∀r∈dw l k (k+1),wthn r=true:=fun r hr=>by
     rw [jR g (eI _),lG,bR,oZ] at hr;rw [hr];exact c7
    have:=N3 (s:=s) H l.length (k+1) (by omega) k _ (({x.begin i 0 with st:=1}:Sc).adv l[k]) f (by omega) hB hA' (by rw [Sc.adv_st]) (p1 _ rfl rfl) (by rw [Sc.adv_sa];exact w1) hw (by omega)
    have e:hY l k=hY l (k+1):=by rw [kx g,if_pos c7]
    rw [e];refine this.trans ?_;have we:=rA l l.length (k+1) (by omega) (by omega);have hall: ∀n j,l.length - j≤n→ ∀r∈dw l j (hY l j),wthn r=true:=by
     intro n;induction n with
     |zero=>
      intro j hj r hr;rw [iN (by omega),lG] at hr;cases hr
     |succ n ih2=>
      intro j hj r hr;by_cases gj:j<l.length
      ·rw [kx gj] at hr;by_cases cj:wthn l[j]=true
       ·rw [if_pos cj] at hr;have wl:=rA l l.length (j+1) (by omega) (by omega);have es:dw l j (hY l (j+1))=l[j]::dw l (j+1) (hY l (j+1)):=by
         unfold dw;rw [oU (by rw [rH];omega)];simp
        rw [es] at hr;rcases jU.1 hr with rfl|hr
        ·exact cj
        ·exact ih2 (j+1) (by omega) r hr
       ·rw [if_neg cj,lG] at hr;cases hr
      ·rw [iN gj,lG] at hr;cases hr
    have ev:=H.v (dw l k (hY l (k+1))) (Ew (by omega) we.2) (by
     have:=hall l.length k (by omega)
     rw [e] at this;exact this)
    cases hv:VR (dw l k (hY l (k+1))) with
    |e c=>
     have hc:=H.e (au (dw l k (hY l (k+1)))) c (by rw [←ev];exact hv);rw [if_neg (show ¬((TV.e c).on (hY l (k+1))).c=0 from hc)];unfold Aq;dsimp only [TV.on];rw [(Sc.adv_f _ _).1,(Sc.adv_f _ _).2];rfl
    |t kk w nn=>
     rw [if_pos (show ((TV.t kk w nn).on (hY l (k+1))).c=0 from rfl)];unfold Aq;dsimp only [TV.on];rw [Sc.adv_out,(Sc.adv_f _ _).1,(Sc.adv_f _ _).2];rfl
   ·rw [if_neg c7,if_neg (show ¬((x.begin i 0).wrong 5,false).2=true from by intro h;cases h),if_neg c7,if_neg (by decide)];exact oL (x.begin i 0) 5
  ·have:k=l.length:=by omega
   subst this;exact Ev
theorem Jk (H:FZ V U VR U') (s:List UInt8):qB V U s=C4 VR U s:=by
 unfold qB C4;by_cases c:40000<s.length
 ·rw [if_pos c,if_pos c]
 ·rw [if_neg c,if_neg c]
  have:=Jj (s:=s) (l:=ai s 0) H (fE s s.length 0 (by omega)) (ai s 0).length 0 (by omega) (iA _) 0 xU ((ai s 0).length+1) ⟨rfl,iA _,iA _⟩ rfl (oK _ _ _).symm (eI _)
  unfold kL at this;exact this
open Go.Proofs
def kA (s:List UInt8):Nat×Int:=if bJ s=true then (if aL s<18446744073709551616 then (aL s,0) else (0,8)) else (0,5)
theorem F4 (s:List UInt8):(bJ s=false∧gO s=(0,5)∧kA s=(0,5))∨(bJ s=true∧aL s<18446744073709551616∧gO s=(aL s,0)∧kA s=(aL s,0))∨
  (bJ s=true∧18446744073709551616≤aL s∧aL s<340282366920938463463374607431768211456∧gO s=(aL s,0)∧kA s=(0,8))∨(gO s=(0,3)∧kA s=(0,8)):=by
 unfold gO kA;by_cases c:bJ s=true
 ·by_cases c1:aL s<18446744073709551616
  ·right;left;refine ⟨c,c1,?_,?_⟩
   ·rw [if_pos c,if_pos (by omega)]
   ·rw [if_pos c,if_pos c1]
  ·by_cases c2:aL s<340282366920938463463374607431768211456
   ·right;right;left;refine ⟨c,by omega,c2,?_,?_⟩
    ·rw [if_pos c,if_pos c2]
    ·rw [if_pos c,if_neg c1]
   ·right;right;right;refine ⟨?_,?_⟩
    ·rw [if_pos c,if_neg c2]
    ·rw [if_pos c,if_neg c1]
 ·left;have c':bJ s=false:=by simpa using c
  refine ⟨c',?_,?_⟩
  ·rw [if_neg c]
  ·rw [if_neg c]
def Ls (q:Nat×Int):AV:=if q.2=0 then .ifc 44 (u q.1) else .ifc 28 (i6 q.2)
theorem oN (s:List UInt8) (hl:s.length≤1000000):Sp Tryz.prog gl 143 [.str s] (Ls (kA s)):=by
 refine RA rfl rfl ?_;have R:=CU s hl;unfold Ls;rcases F4 s with ⟨_,h1,h2⟩|⟨_,h0,h1,h2⟩|⟨_,h0,h3,h1,h2⟩|⟨h1,h2⟩
 ·rw [h1] at R;rw [h2,if_neg (by decide)];unfold wide at R;simp [GF];apply ab R;simp
 ·rw [h1] at R;rw [h2,if_pos rfl];unfold wide at R;have e1:aL s / 18446744073709551616=0:=Nat.div_eq_of_lt h0;have e2:aL s%18446744073709551616=aL s:=nE h0;simp only [e1,e2] at R;generalize aL s=n at *
  simp [GF];apply ab R;simp
 ·rw [h1] at R;rw [h2,if_neg (by decide)];unfold wide at R;obtain ⟨hi,e1⟩: ∃hi,hi=aL s / 18446744073709551616:=⟨_,rfl⟩;have e2:0<hi:=by omega
  have e2':(0:Int)<hi:=by omega
  dsimp only at R;rw [←e1] at R;generalize aL s%18446744073709551616=lo at *
  clear e1 h0 h3 h1 h2;simp [GF];apply ab R;simp [e2,e2']
 ·rw [h1] at R;rw [h2,if_neg (by decide)];unfold wide at R;simp [GF];apply ab R;simp
def bZ (k:Int) (q:Nat×Int):TV:=if q.2=0 then .t k [] q.1 else .e q.2
theorem nq (k:Int) (n:Nat) (e:Int):Sp Tryz.prog gl 144 [i6 k,u n,i6 e] (bZ k (n,e)).av:=by
 refine RB rfl rfl ?_;unfold bZ;by_cases c:e=0
 ·subst c;rw [if_pos rfl];unfold TV.av;simp [Mm]
 ·have c1:(e !=0)=true:=bne_iff_ne.2 c;have c2:(e==0)=false:=cI.2 c;rw [if_neg c];unfold TV.av;simp [Mm,c1,c2,c]
def iO (s:List UInt8):Bool:=s.all aC&&decide (0<s.length)
open Go.Proofs
def aY (r:Int):Nat:=if r=119 then 604800 else if r=100 then 86400 else if r=104 then 3600 else if r=109 then 60 else if r=115 then 1 else 0
theorem Jl (r:Int):aY r≤604800:=by
 unfold aY;repeat' split
 all_goals omega
theorem gD (r:Int):Sp Tryz.prog gl 131 [i3 r] (i6 (aY r)):=by
 refine Rt rfl rfl ?_;unfold aY;have ne: ∀z:Int,¬r=z→(r==z)=false:=fun z h=>cI.2 h
 by_cases c1:r=119
 ·subst c1;simp [A3]
 rw [if_neg c1];by_cases c2:r=100
 ·subst c2;simp [A3]
 rw [if_neg c2];by_cases c3:r=104
 ·subst c3;simp [A3]
 rw [if_neg c3];by_cases c4:r=109
 ·subst c4;simp [A3]
 rw [if_neg c4];by_cases c5:r=115
 ·subst c5;simp [A3]
 rw [if_neg c5];simp [A3,c1,c2,c3,c4,c5,ne _ c1,ne _ c2,ne _ c3,ne _ c4,ne _ c5]
theorem f8 (r:Int):Sp Tryz.prog gl 105 [.int .u8 r] (i6 (aY r)):=by
 refine Rg rfl rfl ?_;have ne: ∀z:Int,¬r=z→(z==r)=false:=fun z h=>cI.2 (Ne.symm h)
 obtain ⟨R,hR⟩: ∃R,R=aY r:=⟨_,rfl⟩;rw [←hR];unfold aY at hR;simp [OB];refine aP (α:=Nat) (fun i=>⟨[(0,.int .u8 r),(3,.str [119,100,104,109,115]),(4,.sl [[i6 604800],[i6 86400],[i6 3600],[i6 60],[i6 1]]),(5,i6 i)],[],[]⟩) (fun i=>i≤5∧(0<i→r≠119)∧(1<i→r≠100)∧(2<i→r≠104)∧(3<i→r≠109)∧(4<i→r≠115)) (fun i=>5 - i) ?_ 0 ?_ ?_
 ·rintro K i hK ⟨h0,h1,h2,h3,h4,h5⟩;obtain rfl|rfl|rfl|rfl|rfl|rfl:i=0∨i=1∨i=2∨i=3∨i=4∨i=5:=by omega
  ·by_cases c:r=119
   ·subst c;rw [if_pos rfl] at hR;subst hR;simp
   ·simp [c,ne _ c];have w:IntKind.i64.wrap 1=1:=by decide
    refine hK 1 _ ⟨by omega,fun _=>c,by omega,by omega,by omega,by omega⟩ (by omega) ?_;apply ae<;>simp [w]
  ·by_cases c:r=100
   ·subst c;rw [if_neg (h1 (by omega)),if_pos rfl] at hR;subst hR;simp
   ·simp [c,ne _ c];have w:IntKind.i64.wrap 2=2:=by decide
    refine hK 2 _ ⟨by omega,fun _=>h1 (by omega),fun _=>c,by omega,by omega,by omega⟩ (by omega) ?_;apply ae<;>simp [w]
  ·by_cases c:r=104
   ·subst c;rw [if_neg (h1 (by omega)),if_neg (h2 (by omega)),if_pos rfl] at hR;subst hR;simp
   ·simp [c,ne _ c];have w:IntKind.i64.wrap 3=3:=by decide
    refine hK 3 _ ⟨by omega,fun _=>h1 (by omega),fun _=>h2 (by omega),fun _=>c,by omega,by omega⟩ (by omega) ?_;apply ae<;>simp [w]
  ·by_cases c:r=109
   ·subst c;rw [if_neg (h1 (by omega)),if_neg (h2 (by omega)),if_neg (h3 (by omega)),if_pos rfl] at hR;subst hR;simp
   ·simp [c,ne _ c];have w:IntKind.i64.wrap 4=4:=by decide
    refine hK 4 _ ⟨by omega,fun _=>h1 (by omega),fun _=>h2 (by omega),fun _=>h3 (by omega),fun _=>c,by omega⟩ (by omega) ?_;apply ae<;>simp [w]
  ·by_cases c:r=115
   ·subst c;rw [if_neg (h1 (by omega)),if_neg (h2 (by omega)),if_neg (h3 (by omega)),if_neg (h4 (by omega)),if_pos rfl] at hR;subst hR;simp
   ·simp [c,ne _ c];have w:IntKind.i64.wrap 5=5:=by decide
    refine hK 5 _ ⟨by omega,fun _=>h1 (by omega),fun _=>h2 (by omega),fun _=>h3 (by omega),fun _=>h4 (by omega),fun _=>c⟩ (by omega) ?_;apply ae<;>simp [w]
  ·rw [if_neg (h1 (by omega)),if_neg (h2 (by omega)),if_neg (h3 (by omega)),if_neg (h4 (by omega)),if_neg (h5 (by omega))] at hR;subst hR;clear hK;simp
 ·exact ⟨by omega,by omega,by omega,by omega,by omega,by omega⟩
 ·apply ae<;>simp
def xE:List UInt8→Bool→Nat→Nat→Nat→Bool→Nat×Int
 |[],dg,n,la,sm,fr=>if dg=true then (0,5) else if fr=true then (0,8) else (sm,0)
 |c::l,dg,n,la,sm,fr=>
  if aC c=true then xE l true (if n≤253402300799 then 10*n+(c.toNat - 48) else n) la sm fr
  else if dg=false∨aY c.toNat=0∨la≤aY c.toNat then (0,5)
  else if 253402300799 / aY c.toNat<n then xE l false 0 (aY c.toNat) sm true
  else if 253402300799<sm+n*aY c.toNat then xE l false 0 (aY c.toNat) 0 true
  else xE l false 0 (aY c.toNat) (sm+n*aY c.toNat) fr
def vQ (s:List UInt8):Nat×Int:=if s=[] then (0,5) else xE s false 0 1000000 0 false
open Go.Proofs
end Go.Ai
namespace Go.Ai
open Go.Proofs
def gS (s t:List UInt8):Bool:=decide (t.length≤s.length)&&(s.drop (s.length - t.length)==t)
theorem qD (s t:List UInt8) (hl:s.length≤1000000) (ht:t.length≤1000000):Sp Tryz.prog gl 186 [.str s,.str t] (.bool (gS s t)):=by
 refine R4 rfl rfl ?_;unfold gS;by_cases g:t.length≤s.length
 ·have g':(t.length:Int)≤s.length:=by omega
  have w:IntKind.i64.wrap ((s.length:Int) - (t.length:Int))=(s.length - t.length:Nat):=by rw [aj]<;>omega
  have gm:s.length - t.length≤s.length:=Nat.sub_le _ _;rw [io g,ib];generalize s.length - t.length=m at *
  simp [Mt,g,g',w,gm]
 ·have g': ¬(t.length:Int)≤s.length:=by omega
  rw [jd g,iR];simp [Mt,g,g']
theorem oO (s t:List UInt8) (hl:s.length≤1000000) (ht:t.length≤1000000):Sp Tryz.prog gl 145 [.str s,.str t] (.bool (gS s t)):=by
 refine RH rfl rfl ?_;have H:=qD s t hl ht;generalize gS s t=b at *
 simp [OJ];apply ab H;simp
def dT (s t:List UInt8):List UInt8:=if gS s t=true then s.take (s.length - t.length) else s
theorem xF (s t:List UInt8) (hl:s.length≤1000000) (ht:t.length≤1000000):Sp Tryz.prog gl 211 [.str s,.str t] (.tup [.str (dT s t),.bool (gS s t)]):=by
 refine Sk rfl rfl ?_;have H:=qD s t hl ht;have k:gS s t=true→t.length≤s.length:=fun h=>by
  unfold gS at h;rw [aE,kO] at h;exact h.1
 unfold dT;have w:t.length≤s.length→IntKind.i64.wrap ((s.length:Int) - (t.length:Int))=(s.length - t.length:Nat):=fun h=>by rw [aj]<;>omega
 have gm:s.length - t.length≤s.length:=Nat.sub_le _ _;cases hb:gS s t
 ·rw [hb] at H;simp [Mw];apply ab H;simp
 ·rw [hb] at H;have w':=w (k hb);generalize s.length - t.length=m at *
  simp [Mw];apply ab H;simp [w',gm]
theorem Ar (s t:List UInt8) (hl:s.length≤1000000) (ht:t.length≤1000000):Sp Tryz.prog gl 187 [.str s,.str t] (.tup [.str (dT s t),.bool (gS s t)]):=by
 refine R5 rfl rfl ?_;have H:=xF s t hl ht;generalize dT s t=a at *
 generalize gS s t=b at *
 simp [OQ];apply ab H;simp
open Go.Proofs
theorem As (s:List UInt8) (hl:s.length≤1000000):Sp Tryz.prog gl 213 [.str s] (i6 (ai s 0).length):=by
 refine Sm rfl rfl ?_;obtain ⟨R,hR⟩: ∃R,R=(ai s 0).length:=⟨_,rfl⟩;rw [←hR];simp [O1];refine aP (α:=Nat×Nat) (fun x=>⟨[(2,i6 x.2),(4,.itp 4)],[(.it 4,[.itr s x.1])],[]⟩)
  (fun x=>x.2≤x.1∧x.1≤s.length∧x.2+(ai s x.1).length=R) (fun x=>s.length - x.1) ?_ (0,0) ?_ ?_
 ·rintro K ⟨i,n⟩ hK ⟨h1,h2,h3⟩;simp only at h1 h2 h3;by_cases g:i<s.length
  ·rw [aW g,em] at h3;have sr:=cS s i g;have sl:=gQ s i g;have sp:=bI s i;have t1:IntKind.i64.wrap ((n:Int)+1)=(n+1:Nat):=by rw [aj]<;>omega
   have fin: ∀σ',dL σ' ⟨[(2,i6 (n+1:Nat)),(4,.itp 4)],[(.it 4,[.itr s (i+(ak s i).2)])],[]⟩→K σ':=
    fun σ' hσ=>hK (i+(ak s i).2,n+1) σ' ⟨by simp only;omega,sl,by simp only;omega⟩ (by simp only;omega) hσ
   clear hK hR h3;by_cases hb:(ak s i).1= -1
   ·rw [if_pos hb] at sr;rw [tO s i hb] at fin;clear sl sp;simp [g,sr];refine fin _ ?_;apply ae<;>simp [t1]
   ·rw [if_neg hb] at sr;have esr:(ak s i)=((ak s i).1,(ak s i).2):=rfl;rw [esr] at sr;clear esr hb sl sp;generalize (ak s i).1=r at *
    generalize (ak s i).2=w at *
    simp [g,sr];refine fin _ ?_;apply ae<;>simp [t1]
  ·rw [aH g] at h3;have h3':n=R:=by simpa using h3
   subst h3';clear hK;simp [g]
 ·exact ⟨eI _,iA _,by simp only;omega⟩
 ·apply ae<;>simp
open Go.Proofs
def Au (l:List UInt8) (i:Nat):Nat:=match l[i]? with |some b=>b.toNat - 48|none=>0
def kG (l:List UInt8):Nat→Nat
 |0=>0
 |i+1=>10*kG l i+Au l i
def C5 (hd tail:List UInt8):Nat×Int:=
 if iO tail=false∨3<tail.length then (0,5)
 else if (kA hd).2≠0 then (0,(kA hd).2)
 else if (18446744073709551615 - kG tail 3) / 1000<(kA hd).1 then (0,8)
 else (1000*(kA hd).1+kG tail 3,0)
theorem Lt (s:List UInt8):(kA s).1<18446744073709551616:=by
 unfold kA;repeat' split
 all_goals first|assumption|omega
theorem Jm {l:List UInt8} {i:Nat} (h:i<l.length):Au l i=l[i].toNat - 48:=by
 unfold Au;rw [rG h]
theorem xG {l:List UInt8} {i:Nat} (h: ¬i<l.length):Au l i=0:=by
 unfold Au;rw [EG (by omega)]
theorem C6 (l:List UInt8) (h: ∀i,Au l i≤9): ∀i,kG l i<10^i
 |0=>Nat.one_pos
 |i+1=>by
  have h1:=C6 l h i;have h2:=h i;rw [kG,EI];omega
theorem Ey {l:List UInt8} (h:iO l=true) (i:Nat):Au l i≤9:=by
 by_cases g:i<l.length
 ·rw [Jm g];unfold iO at h;rw [aE] at h
  have:=gE.1 h.1 _ (ml g)
  unfold aC at this;rw [kO] at this;omega
 ·rw [xG g];omega
open Go.Proofs
def uM:List Int→Nat→Option Nat
 |[],n=>some n
 |r::l,n=>if 48≤r∧r≤57 then uM l ((n*10%4294967296+(r - 48).toNat)%4294967296) else none
def xH:Nat→Nat→Nat
 |0,n=>n
 |k+1,n=>xH k (n*10%4294967296)
def xI (l:List Int) (most:Nat):Nat×Bool:=
 match uM l 0 with
 |none=>(0,false)
 |some n=>if l=[]∨most<l.length then (0,false) else (xH (most - l.length) n,true)
def Av (e:Bool) (n:Option Nat) (m:Int):Nat×Bool:=
 match n with
 |none=>(0,false)
 |some n=>if e=true∨m<0 then (0,false) else (xH m.toNat n,true)
theorem oP (s:List UInt8) (hl:s.length≤1000000) (most:Nat) (hm:most≤1000000):
  Sp Tryz.prog gl 190 [.str s,i6 most] (.tup [.int .u32 (xI (ai s 0) most).1,.bool (xI (ai s 0) most).2]):=by
 refine R8 rfl rfl ?_;obtain ⟨R,hR⟩: ∃R,R=xI (ai s 0) most:=⟨_,rfl⟩;rw [←hR];have hR2:Av (s==[]) (uM (ai s 0) 0) ((most:Int) - (ai s 0).length)=R:=by
  rw [hR];unfold xI Av;cases uM (ai s 0) 0 with
  |none=>rfl
  |some n=>
   dsimp only;have e1:(s==[])=true↔ai s 0=[]:=by
    rw [bP];constructor
    ·rintro rfl;exact aH (by simp)
    ·intro h;by_cases g:0<s.length
     ·rw [aW g] at h;cases h
     ·exact AN (by omega)
   have e2:(most:Int) - (ai s 0).length<0↔most<(ai s 0).length:=by omega
   have e3:((most:Int) - (ai s 0).length).toNat=most - (ai s 0).length:=by omega
   simp only [e1,e2,e3]
 clear hR;simp [OS];refine aP (α:=Nat×Nat×Int) (fun x=>⟨[(0,.str s),(1,i6 x.2.2),(6,.int .u32 x.2.1),(10,.itp 10)],[(.it 10,[.itr s x.1])],[]⟩)
  (fun x=>x.1≤s.length∧x.2.1<4294967296∧(most:Int) - x.1≤x.2.2∧x.2.2≤most∧Av (s==[]) (uM (ai s x.1) x.2.1) (x.2.2 - (ai s x.1).length)=R) (fun x=>s.length - x.1) ?_ (0,0,(most:Int)) ?_ ?_
 ·rintro K ⟨i,n,m⟩ hK ⟨h1,h2,h3,h4,h5⟩;simp only at h1 h2 h3 h4 h5;by_cases g:i<s.length
  ·rw [aW g,uM,em] at h5;have sr:=cS s i g;have sl:=gQ s i g;have sp:=bI s i;have t1:IntKind.i64.wrap (m - 1)=m - 1:=by rw [aj]<;>omega
   have fin: ∀n':Nat,n'<4294967296→Av (s==[]) (uM (ai s (i+(ak s i).2)) n') (m - 1 - (ai s (i+(ak s i).2)).length)=R→
     ∀σ',dL σ' ⟨[(0,.str s),(1,i6 (m - 1)),(6,.int .u32 n'),(10,.itp 10)],[(.it 10,[.itr s (i+(ak s i).2)])],[]⟩→K σ':=
    fun n' a1 a2 σ' hσ=>hK (i+(ak s i).2,n',m - 1) σ' ⟨sl,a1,by simp only;omega,by simp only;omega,a2⟩ (by simp only;omega) hσ
   rw [show m - ((ai s (i+(ak s i).2)).length+1:Nat)=m - 1 - (ai s (i+(ak s i).2)).length by omega] at h5;clear hK hR2;by_cases hb:(ak s i).1= -1
   ·rw [if_pos hb] at sr;rw [hb,if_neg (by omega)] at h5;have h5':R=(0,false):=by rw [←h5];rfl
    subst h5';clear sl sp fin h5;simp [g,sr]
   ·rw [if_neg hb] at sr;have esr:(ak s i)=((ak s i).1,(ak s i).2):=rfl;rw [esr] at sr;clear esr hb sl sp;generalize (ak s i).1=r at *
    generalize (ak s i).2=w at *
    by_cases d1:48≤r
    ·by_cases d2:r≤57
     ·rw [if_pos ⟨d1,d2⟩] at h5;have f:=fin _ (Nat.mod_lt _ (by decide)) h5;clear fin h5;have d1': ¬r<48:=by omega
      have d2': ¬57<r:=by omega
      have w1:IntKind.i32.wrap (r - 48)=r - 48:=by rw [aR]<;>omega
      have w2:IntKind.u32.wrap (r - 48)=r - 48:=by rw [cJ]<;>omega
      have w3:IntKind.u32.wrap (IntKind.u32.wrap ((n:Int)*10)+(r - 48))=(((n*10%4294967296+(r - 48).toNat)%4294967296:Nat):Int):=by
       rw [gy,gy];omega
      generalize (n*10%4294967296+(r - 48).toNat)%4294967296=n' at *
      simp [g,sr,d1',d2',w1,w2,w3];refine f _ ?_;apply ae<;>simp [t1,w1,w2,w3]
     ·rw [if_neg (by omega)] at h5;have h5':R=(0,false):=by rw [←h5];rfl
      subst h5';have d1': ¬r<48:=by omega
      have d2':57<r:=by omega
      clear fin h5;simp [g,sr,d1',d2']
    ·rw [if_neg (by omega)] at h5;have h5':R=(0,false):=by rw [←h5];rfl
     subst h5';have d1':r<48:=by omega
     clear fin h5;simp [g,sr,d1']
  ·rw [aH g,uM] at h5;clear hK hR2;have lb:((([]:List Int).length:Nat):Int)=0:=rfl;rw [lb,Int.sub_zero] at h5;unfold Av at h5;dsimp only at h5;by_cases e:s=[]
   ·subst e;rw [if_pos (Or.inl (show (([]:List UInt8)==[])=true from rfl))] at h5;subst h5;simp [g]
   have en:(s==[])=false:=cI.2 e;by_cases mn:m<0
   ·rw [if_pos (Or.inr mn)] at h5;subst h5;simp [g,e,en,mn]
   rw [if_neg (by rw [en];rintro (h|h);cases h;exact mn h)] at h5;simp [g,e,en,mn];obtain ⟨M,rfl⟩: ∃M:Nat,m=M:=⟨m.toNat,by omega⟩;rw [Int.toNat_natCast] at h5;refine aP (α:=Nat×Nat) (fun x=>⟨[(1,i6 x.1),(6,.int .u32 x.2)],[],[]⟩) (fun x=>x.1≤M∧x.2<4294967296∧(xH x.1 x.2,true)=R) (fun x=>x.1) ?_ (M,n) ?_ ?_
   ·rintro K ⟨k,q⟩ hK ⟨k1,k2,k3⟩;simp only at k1 k2 k3;cases k with
    |zero=>
     rw [xH] at k3;subst k3;clear hK;simp
    |succ k=>
     rw [xH] at k3;have t1:IntKind.i64.wrap (((k+1:Nat):Int) - 1)=k:=by rw [aj]<;>omega
     have w3:IntKind.u32.wrap ((q:Int)*10)=((q*10%4294967296:Nat):Int):=by
      rw [gy];omega
     have f:=fun σ' hσ=>hK (k,q*10%4294967296) σ' ⟨by simp only;omega,Nat.mod_lt _ (by decide),k3⟩ (by simp only;omega) hσ
     have k0:(0:Int)<((k+1:Nat):Int):=by omega
     clear hK k3;generalize q*10%4294967296=q' at *
     generalize hkk:((k+1:Nat):Int)=kk at *
     simp [k0,w3];refine f _ ?_;apply ae<;>simp [t1,w3]
   ·exact ⟨eI _,h2,h5⟩
   ·apply ae<;>simp
 ·exact ⟨iA _,by simp only;omega,by simp only;omega,by simp only;omega,hR2⟩
 ·apply ae<;>simp
end Go.Ai
