/- P6: a part of the proof. Conditions: as each theorem says. -/
import Derived.Test.YtggemlhclppciaaGreatDoorP5
set_option linter.unusedSimpArgs false
set_option linter.unusedVariables false
set_option maxRecDepth 20000
namespace Go.Ai
open Go.Proofs
theorem Aj {a b:List UInt8} {i j:Nat} (h:aX a i=aX b j):eE a i=eE b j:=by unfold eE;rw [h]
theorem CX {a b:List UInt8} {i j:Nat} (r0:Nat): ∀n,(∀q,1≤q→q≤n→aX a (i+q)=aX b (j+q))→rv a i r0 n=rv b j r0 n
 |0,_=>rfl
 |n+1,h=>by
  have e:=CX r0 n (fun q h1 h2=>h q h1 (by omega));have f:=h (n+1) (by omega) (eI _);show 64*rv a i r0 n+(aX a (i+(n+1)) - 128)=64*rv b j r0 n+(aX b (j+(n+1)) - 128);rw [e,f]
theorem pS {a b:List UInt8} {i j:Nat}: ∀n,(∀q,1≤q→q≤n→aX a (i+q)=aX b (j+q))→fH a i n=fH b j n
 |0,_=>rfl
 |n+1,h=>by
  have e:=pS n (fun q h1 h2=>h q h1 (by omega));have f:=Aj (h (n+1) (by omega) (eI _));show (fH a i n&&eE a (i+(n+1)))=(fH b j n&&eE b (j+(n+1)));rw [e,f]
theorem lE {a:List UInt8} {i:Nat} (q:Nat) (h1:1≤q) (h2:eE a (i+q)=false): ∀n,q≤n→fH a i n=false
 |0,h=>by omega
 |n+1,h=>by
  rw [fH];by_cases c:q=n+1
  ·rw [←c,h2,Mz]
  ·rw [lE q h1 h2 n (by omega),iR]
theorem I9 {a b:List UInt8} {i j m:Nat} (h: ∀q,q≤m→aX a (i+q)=aX b (j+q)) (hm:1≤m) (h0:aX b (j+m)<128) (n r0 l:Nat):bG a i n r0 l=bG b j n r0 l:=by
 unfold bG;by_cases c:n<m
 ·rw [pS (a:=a) (b:=b) (i:=i) (j:=j) n (fun q _ h2=>h q (by omega)),CX (a:=a) (b:=b) (i:=i) (j:=j) r0 n (fun q _ h2=>h q (by omega))]
 ·have c1:eE b (j+m)=false:=by unfold eE;exact jd (by omega)
  have c2:eE a (i+m)=false:=by rw [Aj (h m (eI _))];exact c1
  rw [lE m hm c2 n (by omega),lE m hm c1 n (by omega)];rfl
theorem Ja {a b:List UInt8} {i j m:Nat} (h: ∀q,q≤m→aX a (i+q)=aX b (j+q)) (h0:aX b (j+m)<128):ak a i=ak b j:=by
 have e:=h 0 (iA _);rw [rI,rI] at e;unfold ak;simp only [e];by_cases c:m=0
 ·subst c;rw [rI] at h0;rw [if_pos h0,if_pos h0]
 ·simp only [I9 h (by omega) h0]
theorem FV {a b:List UInt8} {i j:Nat} (h: ∀q,aX a (i+q)=aX b (j+q)):ak a i=ak b j:=by
 have e:=h 0;rw [rI,rI] at e;have f: ∀n r0 l,bG a i n r0 l=bG b j n r0 l:=fun n r0 l=>by
  unfold bG;rw [pS (a:=a) (b:=b) (i:=i) (j:=j) n (fun q _ _=>h q),CX (a:=a) (b:=b) (i:=i) (j:=j) r0 n (fun q _ _=>h q)]
 unfold ak;simp only [e,f]
theorem Ep (a b:List UInt8) (q:Nat):aX (a++b) (a.length+q)=aX b q:=by
 unfold aX;rw [List.getElem?_append_right (by omega),show a.length+q - a.length=q by omega]
theorem nj (a b:List UInt8): ∀(n q:Nat),b.length - q≤n→ai (a++b) (a.length+q)=ai b q
 |n,q,h=>by
  by_cases g:q<b.length
  ·have g2:a.length+q<(a++b).length:=by rw [cG];omega
   have e:ak (a++b) (a.length+q)=ak b q:=FV (fun z=>by rw [EH];exact Ep a b (q+z));have p:=bI b q;rw [aW g,aW g2,e,EH];cases n with
   |zero=>omega
   |succ n=>rw [nj a b n (q+(ak b q).2) (by omega)]
  ·rw [aH g,aH (by rw [cG];omega)]
theorem vO {r:Int} (h:ug r) (t:List UInt8):ak (jn r++t) 0=(r,(jn r).length):=by
 rcases h with rfl|⟨h1,h2,h3⟩
 ·have e:jn (-1)=[255]:=rfl;rw [e];simp only [bH,bR];unfold ak;simp only [show aX (255::t) 0=255 from rfl];rw [if_neg (by omega),if_neg (by omega),if_neg (by omega),if_neg (by omega)];rfl
 ·have e:jn r=cX r.toNat:=if_neg (by omega);have hz:((r.toNat:Nat):Int)=r:=by omega
  rw [e,Ln r.toNat (by omega) (by omega) t,hz]
theorem Ak (r:Int):1≤(jn r).length:=by
 unfold jn;split
 ·simp
 ·exact (tI _).2
theorem dS: ∀l:List Int,(∀r∈l,ug r)→ai (au l) 0=l
 |[],_=>by rw [au,aH (by simp)]
 |r::l,h=>by
  have p:=Ak r;rw [au,aW (by rw [cG];omega),vO (h r (by simp))];simp only;rw [mM,show (jn r).length=(jn r).length+0 from rfl,nj (jn r) (au l) (au l).length 0 (by omega),dS l (fun x hx=>h x (by simp [hx]))]
def Wk (s:List UInt8):Nat→List Int→Nat→Prop
 |i,[],j=>i=j
 |i,r::m,j=>i<s.length∧(ak s i).1=r∧Wk s (i+(ak s i).2) m j
theorem rz (s:List UInt8): ∀(m:List Int) (i j:Nat),Wk s i m j→j<s.length→Wk s i (m++[(ak s j).1]) (j+(ak s j).2)
 |[],i,j,h,hj=>by
  cases h;exact ⟨hj,rfl,rfl⟩
 |r::m,i,j,h,hj=>⟨h.1,h.2.1,rz s m _ j h.2.2 hj⟩
theorem Jb (s:List UInt8): ∀(m:List Int) (i j:Nat),Wk s i m j→i≤j
 |[],i,j,h=>Nat.le_of_eq h
 |r::m,i,j,h=>by
  have:=Jb s m _ j h.2.2
  omega
theorem oG {s:List UInt8} {j q:Nat} (h:q<j):aX (s.take j) q=aX s q:=by
 unfold aX;rw [pY,if_pos h]
theorem Al (s:List UInt8) (i q:Nat):aX (s.drop i) q=aX s (i+q):=by
 unfold aX;rw [List.getElem?_drop]
theorem Jc (s:List UInt8) (i0 e:Nat) (he:e<s.length) (h0:aX s e<128): ∀(m:List Int) (i:Nat),i0≤i→Wk s i m (e+1)→ai ((s.take (e+1)).drop i0) (i - i0)=m
 |[],i,hi,h=>by
  rw [aH]
  have:i=e+1:=h
  rw [uk,rH];omega
 |r::m,i,hi,h=>by
  have hle:=Jb s m _ _ h.2.2;have hp:=bI s i;have g:i - i0<((s.take (e+1)).drop i0).length:=by rw [uk,rH];omega
  have es:ak ((s.take (e+1)).drop i0) (i - i0)=ak s i:=by
   refine Ja (m:=e - i) (fun q hq=>?_) ?_
   ·rw [Al,oG (by omega),show i0+(i - i0+q)=i+q by omega]
   ·rw [show i+(e - i)=e by omega];exact h0
  rw [aW g,es,h.2.1,show i - i0+(ak s i).2=(i+(ak s i).2) - i0 by omega,Jc s i0 e he h0 m _ (by omega) h.2.2]
theorem xx (s:List UInt8): ∀(m:List Int) (i j:Nat),j≤s.length→Wk s i m j→(∀r∈m,r≠ -1)→(s.take j).drop i=au m
 |[],i,j,hj,h,_=>by
  have:i=j:=h
  subst this;rw [au,ui (by rw [rH];omega)]
 |r::m,i,j,hj,h,hr=>by
  have hle:=Jb s m _ _ h.2.2;have ih:=xx s m _ j hj h.2.2 (fun x hx=>hr x (by simp [hx]));have h1:=h.2.1;have hne:(ak s i).1≠ -1:=by rw [h1];exact hr r (by simp)
  have en:=I7 s i h.1 hne;have ok:=lX s i;have er:jn r=cX (ak s i).1.toNat:=by
   rw [←h1];unfold jn;rw [if_neg];rcases ok with h|h
   ·exact absurd h hne
   ·omega
  rw [au,er,en,←ih]
  have:(s.take j).drop i=((s.drop i).take (ak s i).2)++(s.take j).drop (i+(ak s i).2):=by
   rw [←List.drop_drop,List.drop_take,show List.take (ak s i).2 (List.drop i s)=List.take (ak s i).2 (List.take (j - i) (List.drop i s)) by rw [List.take_take,Nat.min_eq_left (by omega)],EF]
  exact this
def nk (l:List Int) (i:Nat):Nat:=
 if h:i<l.length then
  if l[i]=10 then 0 else if l[i]=34 then i+1
  else if l[i]=92 then (if l[i+1]?=some 10 then 0 else nk l (i+2))
  else nk l (i+1)
 else 0
termination_by l.length - i
theorem tJ {l:List Int} {i:Nat} (h:i<l.length):nk l i=if l[i]=10 then 0 else if l[i]=34 then i+1 else if l[i]=92 then (if l[i+1]?=some 10 then 0 else nk l (i+2)) else nk l (i+1):=by
 rw [nk,dif_pos h]
theorem xy {l:List Int} {i:Nat} (h: ¬i<l.length):nk l i=0:=by rw [nk,dif_neg h]
def xT (a b:Int):List Int→List (Int×Int)
 |[]=>[(a,b)]
 |r::l=>(a,b)::(if r=10 then xT (a+1) 1 l else xT a (b+1) l)
def wthn (r:Int):Bool:=bB r||(cT r||(decide (r=95)||(decide (r=45)||(decide (r=46)||decide (r=37)))))
theorem qy (r:Int):Sp Tryz.prog gl 141 [i3 r] (.bool (cT r)):=by
 refine Rz rfl rfl ?_;unfold cT;by_cases h:48≤r
 ·simp [Ml,h]
 ·simp [Ml,h]
theorem xz (a b:Int):(a==b)=decide (a=b):=by
 by_cases h:a=b<;>simp [h]
theorem oH (r:Int):Sp Tryz.prog gl 107 [i3 r] (.bool (wthn r)):=by
 refine Ri rfl rfl ?_;have L:=il r;have D:=qy r;unfold wthn;generalize bB r=a at *
 generalize cT r=b at *
 cases a
 ·cases b
  ·have ne: ∀z:Int,¬r=z→(r==z)=false:=fun z h=>cI.2 h
   by_cases h1:r=95
   ·simp [A0];apply ab L;simp;apply ab D;simp [h1]
   ·by_cases h2:r=45
    ·simp [A0];apply ab L;simp;apply ab D;simp [h1,h2,ne 95 h1]
    ·by_cases h3:r=46
     ·simp [A0];apply ab L;simp;apply ab D;simp [h1,h2,h3,ne 95 h1,ne 45 h2]
     ·simp [A0];apply ab L;simp;apply ab D;simp [h1,h2,h3,ne 95 h1,ne 45 h2,ne 46 h3];exact xz r 37
  ·simp [A0];apply ab L;simp;apply ab D;simp
 ·simp [A0];apply ab L;simp
structure Sc where
 out:List Tk
 st:Int
 sa:Nat
 fl:Int
 fc:Int
 al:Int
 ac:Int
 cd:Int
 xl:Int
 xc:Int
def fw (s:List UInt8) (x:Sc):List AV:=[.str s,.sl (x.out.map Tk.row),i6 x.st,i6 x.sa,i6 x.fl,i6 x.fc,i6 x.al,i6 x.ac,i6 x.cd,i6 x.xl,i6 x.xc]
def Sc.begin (x:Sc) (i:Nat) (st:Int):Sc:={x with sa:=i,st:=st,fl:=x.al,fc:=x.ac}
def Sc.wrong (x:Sc) (e:Int):Sc:={x with cd:=e,xl:=x.fl,xc:=x.fc}
inductive TV where
 |e (c:Int)
 |t (k:Int) (w:List UInt8) (n:Nat)
def TV.av:TV→AV
 | .e c=> .ifc 28 (i6 c)
 | .t k w n=> .ifc 55 (.agg [i6 k,.str w,u n,i6 0,i6 0])
def TV.ok:TV→Bool
 | .e _=>false
 | .t _ _ _=>true
def Sc.add (x:Sc):TV→Sc
 | .e c=>x.wrong c
 | .t k w n=>{x with out:=x.out++[⟨k,w,n,x.fl,x.fc⟩],st:=0}
theorem xA (l:List Tk): ∀r∈l.map Tk.row,r.length=5:=by
 intro r hr;obtain ⟨_,_,rfl⟩:=vY.1 hr;rfl
theorem gP (s:List UInt8) (x:Sc) (i:Nat) (st:Int) (d:Nat) (b:Id) (hb:b.isIt=false) (hbd:b.isNw d=false):
  cB Tryz.prog gl 75 d ⟨[.ptr b 0,i6 i,i6 st],[(b,fw s x)],[(.b b 1,5)]⟩ ⟨.tup [],[(b,fw s (x.begin i st))],[(.b b 1,5)]⟩:=by
 refine VI rfl ?_;have hib:=aV hbd;unfold fw Sc.begin;generalize x.out.map Tk.row=L at *
 simp only [aF,bV,bp,AV.mp,b7,Pl.mp];simp [US];apply am<;>simp [hib,hb]
theorem eG (s:List UInt8) (x:Sc) (e:Int) (d:Nat) (b:Id) (hb:b.isIt=false) (hbd:b.isNw d=false):
  cB Tryz.prog gl 76 d ⟨[.ptr b 0,i6 e],[(b,fw s x)],[(.b b 1,5)]⟩ ⟨.bool false,[(b,fw s (x.wrong e))],[(.b b 1,5)]⟩:=by
 refine VJ rfl ?_;have hib:=aV hbd;unfold fw Sc.wrong;generalize x.out.map Tk.row=L at *
 simp only [aF,bV,bp,AV.mp,b7,Pl.mp];simp [UT];apply am<;>simp [hib,hb]
theorem iw (s:List UInt8) (x:Sc) (hl:x.out.length≤1000000) (v:TV) (d:Nat) (b:Id) (hb:b.isIt=false) (hbd:b.isNw d=false):
  cB Tryz.prog gl 108 d ⟨[.ptr b 0,v.av],[(b,fw s x)],[(.b b 1,5)]⟩ ⟨.bool v.ok,[(b,fw s (x.add v))],[(.b b 1,5)]⟩:=by
 refine Rj rfl ?_;have hib:=aV hbd;have hlim:l8=140737488355328:=rfl;cases v with
 |e c=>
  have W:=fun e=>eG s x c e (.up b) hb
  unfold fw Sc.wrong at W;unfold fw Sc.add Sc.wrong TV.av TV.ok;generalize x.out.map Tk.row=L at *
  simp only [aF,bV,bp,AV.mp,b7,Pl.mp];simp [Mh];refine aQ _ _ (W _ rfl) ⟨?_,?_,?_,?_,?_,?_,?_⟩ ?_;iterate 7 (· simp [hb])
  simp;apply am<;>simp [hib,hb]
 |t k w n=>
  have h5:=xA x.out;have hll:((x.out.map Tk.row).length+1)*48≤140737488355328:=by simp;omega
  have he:(x.out++[(⟨k,w,n,x.fl,x.fc⟩:Tk)]).map Tk.row=x.out.map Tk.row++[[i6 k,.str w,u n,i6 x.fl,i6 x.fc]]:=by simp [Tk.row]
  unfold fw Sc.add TV.av TV.ok;simp only [he];clear he;generalize x.out.map Tk.row=L at *
  simp only [aF,bV,bp,AV.mp,b7,Pl.mp];simp [Mh,hlim];refine ⟨hll,h5,?_⟩;apply am<;>simp [hib,hb]
def dw (l:List Int) (a b:Nat):List Int:=(l.take b).drop a
theorem Jd {l:List Int} {a b:Nat} {r:Int} (h:r∈dw l a b):r∈l:=A5 (List.mem_of_mem_drop h)
def hY (l:List Int) (i:Nat):Nat:=if h:i<l.length then (if wthn l[i]=true then hY l (i+1) else i) else i
termination_by l.length - i
theorem kx {l:List Int} {i:Nat} (h:i<l.length):hY l i=if wthn l[i]=true then hY l (i+1) else i:=by rw [hY,dif_pos h]
theorem iN {l:List Int} {i:Nat} (h: ¬i<l.length):hY l i=i:=by rw [hY,dif_neg h]
theorem rA (l:List Int): ∀(n i:Nat),l.length - i≤n→i≤l.length→i≤hY l i∧hY l i≤l.length
 |0,i,h,hi=>by rw [iN (by omega)];omega
 |n+1,i,h,hi=>by
  by_cases g:i<l.length
  ·rw [kx g];split
   ·have:=rA l n (i+1) (by omega) (by omega)
    omega
   ·omega
  ·rw [iN g];omega
theorem CY (l:List Int): ∀(n i:Nat),l.length - i≤n→nk l i=0∨(i<nk l i∧nk l i≤l.length)
 |n,i,h=>by
  by_cases g:i<l.length
  ·rw [tJ g];split
   ·exact .inl rfl
   ·split
    ·right;omega
    ·split
     ·split
      ·exact .inl rfl
      ·cases n with
       |zero=>omega
       |succ n=>
        rcases CY l n (i+2) (by omega) with h|h
        ·exact .inl h
        ·right;omega
     ·cases n with
      |zero=>omega
      |succ n=>
       rcases CY l n (i+1) (by omega) with h|h
       ·exact .inl h
       ·right;omega
  ·rw [xy g];exact .inl rfl
structure On where
 k:Int
 w:List UInt8
 n:Nat
 en:Nat
 c:Int
def TV.on (en:Nat):TV→On
 | .e c=>⟨0,[],0,en,c⟩
 | .t k w n=>⟨k,w,n,en,0⟩
def TV.rs:TV→AV
 | .e c=> .tup [.agg [i6 0,.str [],u 0,i6 0,i6 0],i6 c]
 | .t k w n=> .tup [.agg [i6 k,.str w,u n,i6 0,i6 0],i6 0]
def On.av (x:On):AV:= .tup [.agg [i6 x.k,.str x.w,u x.n,i6 0,i6 0],i6 x.en,i6 x.c]
def dB (VR:List Int→TV) (U:List UInt8→List UInt8×Int) (l:List Int) (i:Nat) (r:Int):On:=
 if r=123 then ⟨7,[],0,i+1,0⟩ else if r=125 then ⟨8,[],0,i+1,0⟩ else if r=59 then ⟨9,[],0,i+1,0⟩
 else if r=34 then (if nk l (i+1)=0 then ⟨0,[],0,0,5⟩ else ⟨2,(U (au (dw l i (nk l (i+1))))).1,0,nk l (i+1),(U (au (dw l i (nk l (i+1))))).2⟩)
 else if wthn r=true then (VR (dw l i (hY l i))).on (hY l i)
 else ⟨0,[],0,0,5⟩
def Am (q:List UInt8×Int):TV:=if q.2=0 then .t 2 q.1 0 else .e q.2
def db (x:Sc) (i:Nat) (r:Int):Sc×Bool:=
 let y:=x.begin i 0
 if r=32∨r=9∨r=10 then (y,true)
 else if r=35 then ({y with st:=4},true)
 else if r=34 then ({y with st:=2},true)
 else if r=123 then (y.add (.t 7 [] 0),true)
 else if r=125 then (y.add (.t 8 [] 0),true)
 else if r=59 then (y.add (.t 9 [] 0),true)
 else if wthn r=true then ({y with st:=1},true)
 else (y.wrong 5,false)
def dF (s:List UInt8) (a b:Nat):List UInt8:=(s.take b).drop a
def gG (U:List UInt8→List UInt8×Int) (s:List UInt8) (x:Sc) (e:Nat):Sc×Bool:=(x.add (Am (U (dF s x.sa e))),(Am (U (dF s x.sa e))).ok)
def bF (U:List UInt8→List UInt8×Int) (s:List UInt8) (x:Sc) (i:Nat) (r:Int):Sc×Bool:=
 if r=10 then (x.wrong 5,false)
 else if x.st=3 then ({x with st:=2},true)
 else if r=92 then ({x with st:=3},true)
 else if r=34 then gG U s x (i+1)
 else (x,true)
def bO (V:List UInt8→TV) (U:List UInt8→List UInt8×Int) (s:List UInt8) (x:Sc) (i:Nat) (r:Int):Sc×Bool:=
 if x.st=1 then (if wthn r=true then (x,true) else if (V (dF s x.sa i)).ok=true then db (x.add (V (dF s x.sa i))) i r else (x.add (V (dF s x.sa i)),false))
 else if x.st=4 then ((if r=10 then {x with st:=0} else x),true)
 else if x.st=2∨x.st=3 then bF U s x i r
 else db x i r
def ky (V:List UInt8→TV) (s:List UInt8) (x:Sc):Sc×Bool:=
 if x.st=1 then (if (V (dF s x.sa s.length)).ok=true then (((x.add (V (dF s x.sa s.length))).begin s.length 0).add (.t 0 [] 0),true) else (x.add (V (dF s x.sa s.length)),false))
 else if x.st=2∨x.st=3 then (x.wrong 5,false)
 else ((x.begin s.length 0).add (.t 0 [] 0),true)
theorem Sc.begin_out (x:Sc) (i:Nat) (st:Int):(x.begin i st).out=x.out:=rfl
theorem Sc.wrong_out (x:Sc) (e:Int):(x.wrong e).out=x.out:=rfl
theorem Sc.add_out (x:Sc) (v:TV):(x.add v).out.length≤x.out.length+1:=by
 cases v with
 |e c=>simp [Sc.add,Sc.wrong_out]
 |t k w n=>simp [Sc.add]
theorem tK (x:Sc) (i:Nat) (r:Int):(db x i r).1.out.length≤x.out.length+1:=by
 unfold db;simp only;repeat' split
 all_goals first|exact Nat.le_succ _|exact Sc.add_out (x.begin i 0) _|skip
theorem An (U:List UInt8→List UInt8×Int) (s:List UInt8) (x:Sc) (i:Nat) (r:Int):(bF U s x i r).1.out.length≤x.out.length+1:=by
 unfold bF gG;repeat' split
 all_goals first|exact Nat.le_succ _|exact Sc.add_out x _|skip
theorem FW (V:List UInt8→TV) (U:List UInt8→List UInt8×Int) (s:List UInt8) (x:Sc) (i:Nat) (r:Int):(bO V U s x i r).1.out.length≤x.out.length+2:=by
 unfold bO;by_cases c1:x.st=1
 ·rw [if_pos c1];by_cases c2:wthn r=true
  ·rw [if_pos c2];simp
  ·rw [if_neg c2];by_cases c3:(V (dF s x.sa i)).ok=true
   ·rw [if_pos c3];have h1:=tK (x.add (V (dF s x.sa i))) i r;have h2:=Sc.add_out x (V (dF s x.sa i));omega
   ·rw [if_neg c3];have h2:=Sc.add_out x (V (dF s x.sa i));simp only;omega
 ·rw [if_neg c1];by_cases c2:x.st=4
  ·rw [if_pos c2];simp only;split<;>simp
  ·rw [if_neg c2];by_cases c3:x.st=2∨x.st=3
   ·rw [if_pos c3]
    have:=An U s x i r
    omega
   ·rw [if_neg c3]
    have:=tK x i r
    omega
theorem qz (s:List UInt8) (x:Sc) (hl:x.out.length≤900000) (i:Nat) (r:Int) (d:Nat) (b:Id) (hb:b.isIt=false) (hbd:b.isNw d=false):
  cB Tryz.prog gl 110 d ⟨[.ptr b 0,i6 i,i3 r],[(b,fw s x)],[(.b b 1,5)]⟩ ⟨.bool (db x i r).2,[(b,fw s (db x i r).1)],[(.b b 1,5)]⟩:=by
 refine Rl rfl ?_;have hib:=aV hbd;have ne: ∀z:Int,¬r=z→(r==z)=false:=fun z h=>cI.2 h
 have B:=fun e=>gP s x i 0 e (.up b) hb
 have A:=fun v e=>iw s (x.begin i 0) (by rw [Sc.begin_out];omega) v e (.up b) hb
 have W:=fun e=>eG s (x.begin i 0) 5 e (.up b) hb
 have WI:=oH r;have hz: ∀k:Int,(TV.t k [] 0).av= .ifc 55 (.agg [.int .i64 k,.str [],.int .u64 0,.int .i64 0,.int .i64 0]):=fun _=>rfl
 have ho: ∀k:Int,(TV.t k [] 0).ok=true:=fun _=>rfl
 unfold db;simp only;obtain ⟨y,hy⟩: ∃y,y=x.begin i 0:=⟨_,rfl⟩;rw [←hy] at B A W ⊢;clear hy;by_cases c1:r=32
 ·subst c1;rw [if_pos (by omega)];dsimp only;unfold fw at *
  generalize y.out.map Tk.row=L at *
  generalize x.out.map Tk.row=L0 at *
  simp only [aF,bV,bp,AV.mp,b7,Pl.mp];simp [rD];refine aQ _ _ (B _ rfl) ⟨?_,?_,?_,?_,?_,?_,?_⟩ ?_;iterate 7 (· simp [hb])
  simp;apply am<;>simp [hib,hb]
 by_cases c2:r=9
 ·subst c2;rw [if_pos (by omega)];dsimp only;unfold fw at *
  generalize y.out.map Tk.row=L at *
  generalize x.out.map Tk.row=L0 at *
  simp only [aF,bV,bp,AV.mp,b7,Pl.mp];simp [rD];refine aQ _ _ (B _ rfl) ⟨?_,?_,?_,?_,?_,?_,?_⟩ ?_;iterate 7 (· simp [hb])
  simp;apply am<;>simp [hib,hb]
 by_cases c3:r=10
 ·subst c3;rw [if_pos (by omega)];dsimp only;unfold fw at *
  generalize y.out.map Tk.row=L at *
  generalize x.out.map Tk.row=L0 at *
  simp only [aF,bV,bp,AV.mp,b7,Pl.mp];simp [rD];refine aQ _ _ (B _ rfl) ⟨?_,?_,?_,?_,?_,?_,?_⟩ ?_;iterate 7 (· simp [hb])
  simp;apply am<;>simp [hib,hb]
 rw [if_neg (by omega)];have n1:=ne 32 c1;have n2:=ne 9 c2;have n3:=ne 10 c3;by_cases c4:r=35
 ·subst c4;rw [if_pos rfl];dsimp only;unfold fw at *
  generalize y.out.map Tk.row=L at *
  generalize x.out.map Tk.row=L0 at *
  simp only [aF,bV,bp,AV.mp,b7,Pl.mp];simp [rD];refine aQ _ _ (B _ rfl) ⟨?_,?_,?_,?_,?_,?_,?_⟩ ?_;iterate 7 (· simp [hb])
  simp;apply am<;>simp [hib,hb]
 rw [if_neg c4];have n4:=ne 35 c4;by_cases c5:r=34
 ·subst c5;rw [if_pos rfl];dsimp only;unfold fw at *
  generalize y.out.map Tk.row=L at *
  generalize x.out.map Tk.row=L0 at *
  simp only [aF,bV,bp,AV.mp,b7,Pl.mp];simp [rD];refine aQ _ _ (B _ rfl) ⟨?_,?_,?_,?_,?_,?_,?_⟩ ?_;iterate 7 (· simp [hb])
  simp;apply am<;>simp [hib,hb]
 rw [if_neg c5];have n5:=ne 34 c5;by_cases c6:r=123
 ·subst c6;have A:=A (.t 7 [] 0);rw [hz,ho] at A;rw [if_pos rfl];dsimp only;generalize y.add (.t 7 [] 0)=z at *
  unfold fw at *
  generalize y.out.map Tk.row=L at *
  generalize x.out.map Tk.row=L0 at *
  generalize z.out.map Tk.row=L1 at *
  simp only [aF,bV,bp,AV.mp,b7,Pl.mp];simp [rD];refine aQ _ _ (B _ rfl) ⟨?_,?_,?_,?_,?_,?_,?_⟩ ?_;iterate 7 (· simp [hb])
  simp;refine aQ _ _ (A _ rfl) ⟨?_,?_,?_,?_,?_,?_,?_⟩ ?_;iterate 7 (· simp [hb])
  simp;apply am<;>simp [hib,hb]
 rw [if_neg c6];have n6:=ne 123 c6;by_cases c7:r=125
 ·subst c7;have A:=A (.t 8 [] 0);rw [hz,ho] at A;rw [if_pos rfl];dsimp only;generalize y.add (.t 8 [] 0)=z at *
  unfold fw at *
  generalize y.out.map Tk.row=L at *
  generalize x.out.map Tk.row=L0 at *
  generalize z.out.map Tk.row=L1 at *
  simp only [aF,bV,bp,AV.mp,b7,Pl.mp];simp [rD];refine aQ _ _ (B _ rfl) ⟨?_,?_,?_,?_,?_,?_,?_⟩ ?_;iterate 7 (· simp [hb])
  simp;refine aQ _ _ (A _ rfl) ⟨?_,?_,?_,?_,?_,?_,?_⟩ ?_;iterate 7 (· simp [hb])
  simp;apply am<;>simp [hib,hb]
 rw [if_neg c7];have n7:=ne 125 c7;by_cases c8:r=59
 ·subst c8;have A:=A (.t 9 [] 0);rw [hz,ho] at A;rw [if_pos rfl];dsimp only;generalize y.add (.t 9 [] 0)=z at *
  unfold fw at *
  generalize y.out.map Tk.row=L at *
  generalize x.out.map Tk.row=L0 at *
  generalize z.out.map Tk.row=L1 at *
  simp only [aF,bV,bp,AV.mp,b7,Pl.mp];simp [rD];refine aQ _ _ (B _ rfl) ⟨?_,?_,?_,?_,?_,?_,?_⟩ ?_;iterate 7 (· simp [hb])
  simp;refine aQ _ _ (A _ rfl) ⟨?_,?_,?_,?_,?_,?_,?_⟩ ?_;iterate 7 (· simp [hb])
  simp;apply am<;>simp [hib,hb]
 rw [if_neg c8];have n8:=ne 59 c8;generalize wthn r=q at *
 cases q
 ·rw [if_neg (by decide)];dsimp only;generalize y.wrong 5=z at *
  unfold fw at *
  generalize y.out.map Tk.row=L at *
  generalize x.out.map Tk.row=L0 at *
  generalize z.out.map Tk.row=L1 at *
  simp only [aF,bV,bp,AV.mp,b7,Pl.mp];simp [rD];refine aQ _ _ (B _ rfl) ⟨?_,?_,?_,?_,?_,?_,?_⟩ ?_;iterate 7 (· simp [hb])
  simp [n1,n2,n3,n4,n5,n6,n7,n8];apply ab WI;simp;refine aQ _ _ (W _ rfl) ⟨?_,?_,?_,?_,?_,?_,?_⟩ ?_;iterate 7 (· simp [hb])
  simp;apply am<;>simp [hib,hb]
 ·rw [if_pos rfl];dsimp only;unfold fw at *
  generalize y.out.map Tk.row=L at *
  generalize x.out.map Tk.row=L0 at *
  simp only [aF,bV,bp,AV.mp,b7,Pl.mp];simp [rD];refine aQ _ _ (B _ rfl) ⟨?_,?_,?_,?_,?_,?_,?_⟩ ?_;iterate 7 (· simp [hb])
  simp [n1,n2,n3,n4,n5,n6,n7,n8];apply ab WI;simp;apply am<;>simp [hib,hb]
theorem tL (s:List UInt8) (a b:Nat):(dF s a b).length≤s.length:=by
 unfold dF;rw [uk,rH];omega
theorem Er {q:List UInt8×Int} (h:q.2≠0):Am q= .e q.2:=if_neg h
theorem Es {q:List UInt8×Int} (h:q.2=0):Am q= .t 2 q.1 0:=if_pos h
theorem xB (U:List UInt8→List UInt8×Int) (s:List UInt8) (hU: ∀w,w.length≤s.length→Sp Tryz.prog gl 196 [.str w] (.tup [.str (U w).1,i6 (U w).2])) (x:Sc) (hl:x.out.length≤900000) (e:Nat) (h1:x.sa≤e) (h2:e≤s.length)
  (d:Nat) (b:Id) (hb:b.isIt=false) (hbd:b.isNw d=false):
  cB Tryz.prog gl 150 d ⟨[.ptr b 0,i6 e],[(b,fw s x)],[(.b b 1,5)]⟩ ⟨.bool (gG U s x e).2,[(b,fw s (gG U s x e).1)],[(.b b 1,5)]⟩:=by
 refine RV rfl ?_;have hib:=aV hbd;have HU:=hU (dF s x.sa e) (tL s x.sa e);unfold gG;dsimp only;have hs:List.drop x.sa (List.take e s)=dF s x.sa e:=rfl;generalize dF s x.sa e=W at *
 generalize U W=q at *
 obtain ⟨qt,qc⟩:=q;dsimp only at HU;have h1':(x.sa:Int)≤e:=by omega
 have h2':(e:Int)≤s.length:=by omega
 by_cases c:qc=0
 ·subst c;rw [Es rfl];dsimp only;have A:=fun e=>iw s x (by omega) (.t 2 qt 0) e (.up b) hb
  have hz:(TV.t 2 qt 0).av= .ifc 55 (.agg [.int .i64 2,.str qt,.int .u64 0,.int .i64 0,.int .i64 0]):=rfl;have ho:(TV.t 2 qt 0).ok=true:=rfl;rw [hz,ho] at A;rw [ho];generalize x.add (.t 2 qt 0)=y at *
  unfold fw at *
  generalize x.out.map Tk.row=L at *
  generalize y.out.map Tk.row=L1 at *
  simp only [aF,bV,bp,AV.mp,b7,Pl.mp];simp [Mo,h1,h2,h1',h2',hs];apply ab HU;simp;refine aQ _ _ (A _ rfl) ⟨?_,?_,?_,?_,?_,?_,?_⟩ ?_;iterate 7 (· simp [hb])
  simp;apply am<;>simp [hib,hb]
 ·rw [Er c];have W1:=fun e=>eG s x qc e (.up b) hb
  have hc:(qc==0)=false:=cI.2 c;have hc2:(qc !=0)=true:=by rw [bne,hc];rfl
  dsimp only [TV.ok,Sc.add];generalize x.wrong qc=y at *
  unfold fw at *
  generalize x.out.map Tk.row=L at *
  generalize y.out.map Tk.row=L1 at *
  simp only [aF,bV,bp,AV.mp,b7,Pl.mp];simp [Mo,h1,h2,h1',h2',hs];apply ab HU;simp [hc,hc2,c];refine aQ _ _ (W1 _ rfl) ⟨?_,?_,?_,?_,?_,?_,?_⟩ ?_;iterate 7 (· simp [hb])
  simp;apply am<;>simp [hib,hb]
theorem xC (U:List UInt8→List UInt8×Int) (s:List UInt8) (hU: ∀w,w.length≤s.length→Sp Tryz.prog gl 196 [.str w] (.tup [.str (U w).1,i6 (U w).2])) (x:Sc) (hl:x.out.length≤900000) (hs:s.length≤1000000) (i:Nat) (h1:x.sa≤i) (h2:i<s.length) (r:Int)
  (d:Nat) (b:Id) (hb:b.isIt=false) (hbd:b.isNw d=false):
  cB Tryz.prog gl 111 d ⟨[.ptr b 0,i6 i,i3 r],[(b,fw s x)],[(.b b 1,5)]⟩ ⟨.bool (bF U s x i r).2,[(b,fw s (bF U s x i r).1)],[(.b b 1,5)]⟩:=by
 refine Rm rfl ?_;have hib:=aV hbd;have ne: ∀z:Int,¬r=z→(r==z)=false:=fun z h=>cI.2 h
 have Q:=fun e=>xB U s hU x hl (i+1) (by omega) (by omega) e (.up b) hb
 have t1:IntKind.i64.wrap ((i:Int)+1)=(i+1:Nat):=by rw [aj]<;>omega
 have W:=fun e=>eG s x 5 e (.up b) hb
 unfold bF;by_cases c1:r=10
 ·subst c1;rw [if_pos rfl];dsimp only;generalize x.wrong 5=y at *
  unfold fw at *
  generalize x.out.map Tk.row=L at *
  generalize y.out.map Tk.row=L1 at *
  simp only [aF,bV,bp,AV.mp,b7,Pl.mp];simp [ED];refine aQ _ _ (W _ rfl) ⟨?_,?_,?_,?_,?_,?_,?_⟩ ?_;iterate 7 (· simp [hb])
  simp;apply am<;>simp [hib,hb]
 rw [if_neg c1];have n1:=ne 10 c1;by_cases c2:x.st=3
 ·rw [if_pos c2];dsimp only;unfold fw at *
  generalize x.out.map Tk.row=L at *
  simp only [aF,bV,bp,AV.mp,b7,Pl.mp];simp [ED,n1,c2];apply am<;>simp [hib,hb]
 rw [if_neg c2];have n2:(x.st==3)=false:=cI.2 c2;by_cases c3:r=92
 ·subst c3;rw [if_pos rfl];dsimp only;unfold fw at *
  generalize x.out.map Tk.row=L at *
  simp only [aF,bV,bp,AV.mp,b7,Pl.mp];simp [ED,n1,n2];apply am<;>simp [hib,hb]
 rw [if_neg c3];have n3:=ne 92 c3;by_cases c4:r=34
 ·subst c4;rw [if_pos rfl];generalize (gG U s x (i+1)).2=ok at *
  generalize (gG U s x (i+1)).1=y at *
  unfold fw at *
  generalize x.out.map Tk.row=L at *
  generalize y.out.map Tk.row=L1 at *
  simp only [aF,bV,bp,AV.mp,b7,Pl.mp];simp [ED,n1,n2,n3,t1];refine aQ _ _ (Q _ rfl) ⟨?_,?_,?_,?_,?_,?_,?_⟩ ?_;iterate 7 (· simp [hb])
  simp;apply am<;>simp [hib,hb]
 rw [if_neg c4];have n4:=ne 34 c4;dsimp only;unfold fw at *
 generalize x.out.map Tk.row=L at *
 simp only [aF,bV,bp,AV.mp,b7,Pl.mp];simp [ED,n1,n2,n3,n4];apply am<;>simp [hib,hb]
theorem CZ (V:List UInt8→TV) (U:List UInt8→List UInt8×Int) (s:List UInt8) (hU: ∀w,w.length≤s.length→Sp Tryz.prog gl 196 [.str w] (.tup [.str (U w).1,i6 (U w).2])) (hV: ∀w,w.length≤s.length→Sp Tryz.prog gl 109 [.str w] (V w).av)
  (x:Sc) (hl:x.out.length≤800000) (hs:s.length≤1000000) (i:Nat) (h1:x.sa≤i) (h2:i<s.length) (r:Int) (d:Nat) (b:Id) (hb:b.isIt=false) (hbd:b.isNw d=false):
  cB Tryz.prog gl 77 d ⟨[.ptr b 0,i6 i,i3 r],[(b,fw s x)],[(.b b 1,5)]⟩ ⟨.bool (bO V U s x i r).2,[(b,fw s (bO V U s x i r).1)],[(.b b 1,5)]⟩:=by
 refine VK rfl ?_;have hib:=aV hbd;have ne: ∀z:Int,¬r=z→(r==z)=false:=fun z h=>cI.2 h
 have I:=fun e=>xC U s hU x (by omega) hs i h1 h2 r e (.up b) hb
 have F:=fun e=>qz s x (by omega) i r e (.up b) hb
 have WI:=oH r;have HV:=hV (dF s x.sa i) (tL s x.sa i);have h1':(x.sa:Int)≤i:=by omega
 have h2':(i:Int)≤s.length:=by omega
 have h3:i≤s.length:=by omega
 have hss:List.drop x.sa (List.take i s)=dF s x.sa i:=rfl;unfold bO;by_cases c1:x.st=1
 ·rw [if_pos c1];cases hw:wthn r
  ·rw [if_neg (by decide)];rw [hw] at WI;have A:=fun e=>iw s x (by omega) (V (dF s x.sa i)) e (.up b) hb
   have ao:=Sc.add_out x (V (dF s x.sa i));have F2:=fun e=>qz s (x.add (V (dF s x.sa i))) (by omega) i r e (.up b) hb
   generalize dF s x.sa i=W at *
   cases hk:(V W).ok
   ·rw [if_neg (by decide)];dsimp only;rw [hk] at A;have hsh:dY (V W).av=some (V W).av:=by cases V W<;>rfl
    have hid:(V W).av.ids=[]:=by cases V W<;>rfl
    have hmp: ∀f,(V W).av.mp f=(V W).av:=fun f=>by cases V W<;>rfl
    generalize (V W).av=vv at *
    generalize x.add (V W)=y at *
    unfold fw at *
    generalize x.out.map Tk.row=L at *
    generalize y.out.map Tk.row=L1 at *
    simp only [aF,bV,bp,AV.mp,b7,Pl.mp];simp [JO,c1];apply ab WI;simp [h1,h3,h1',h2',hss];apply ab HV;simp [hsh,hid,hmp];refine ka _ _ (A _ rfl) ⟨?_,?_,?_,?_,?_,?_,?_⟩ ⟨?_,?_,?_⟩ ?_;iterate 10 (· simp [Pl.isB,Pl.isF,hb,hid,hmp,c1])
    simp [hid,hmp];apply am<;>simp [hib,hb,hid,hmp]
   ·rw [if_pos rfl];rw [hk] at A;have hsh:dY (V W).av=some (V W).av:=by cases V W<;>rfl
    have hid:(V W).av.ids=[]:=by cases V W<;>rfl
    have hmp: ∀f,(V W).av.mp f=(V W).av:=fun f=>by cases V W<;>rfl
    generalize (V W).av=vv at *
    generalize x.add (V W)=y at *
    generalize (db y i r).2=ok2 at *
    generalize (db y i r).1=y2 at *
    unfold fw at *
    generalize x.out.map Tk.row=L at *
    generalize y.out.map Tk.row=L1 at *
    generalize y2.out.map Tk.row=L2 at *
    simp only [aF,bV,bp,AV.mp,b7,Pl.mp];simp [JO,c1];apply ab WI;simp [h1,h3,h1',h2',hss];apply ab HV;simp [hsh,hid,hmp];refine ka _ _ (A _ rfl) ⟨?_,?_,?_,?_,?_,?_,?_⟩ ⟨?_,?_,?_⟩ ?_;iterate 10 (· simp [Pl.isB,Pl.isF,hb,hid,hmp,c1])
    simp [hid,hmp];refine ka _ _ (F2 _ rfl) ⟨?_,?_,?_,?_,?_,?_,?_⟩ ⟨?_,?_,?_⟩ ?_;iterate 10 (· simp [Pl.isB,Pl.isF,hb,hid,hmp])
    simp [hid,hmp];apply am<;>simp [hib,hb,hid,hmp]
  ·rw [if_pos rfl];rw [hw] at WI;dsimp only;unfold fw at *
   generalize x.out.map Tk.row=L at *
   simp only [aF,bV,bp,AV.mp,b7,Pl.mp];simp [JO,c1];apply ab WI;simp;apply am<;>simp [hib,hb]
 rw [if_neg c1];have n1:(x.st==1)=false:=cI.2 c1;by_cases c2:x.st=4
 ·rw [if_pos c2];by_cases c3:r=10
  ·subst c3;rw [if_pos rfl];dsimp only;unfold fw at *
   generalize x.out.map Tk.row=L at *
   simp only [aF,bV,bp,AV.mp,b7,Pl.mp];simp [JO,c2];apply am<;>simp [hib,hb]
  ·rw [if_neg c3];have n3:=ne 10 c3;dsimp only;unfold fw at *
   generalize x.out.map Tk.row=L at *
   simp only [aF,bV,bp,AV.mp,b7,Pl.mp];simp [JO,c2,n3,c3];apply am<;>simp [hib,hb,c2]
 rw [if_neg c2];have n2:(x.st==4)=false:=cI.2 c2;by_cases c3:x.st=2
 ·rw [if_pos (.inl c3)];generalize (bF U s x i r).2=ok at *
  generalize (bF U s x i r).1=y at *
  unfold fw at *
  generalize x.out.map Tk.row=L at *
  generalize y.out.map Tk.row=L1 at *
  simp only [aF,bV,bp,AV.mp,b7,Pl.mp];simp [JO,c3];refine aQ _ _ (I _ rfl) ⟨?_,?_,?_,?_,?_,?_,?_⟩ ?_;iterate 7 (· simp [hb,c3])
  simp;apply am<;>simp [hib,hb]
 have n3:(x.st==2)=false:=cI.2 c3;by_cases c4:x.st=3
 ·rw [if_pos (.inr c4)];generalize (bF U s x i r).2=ok at *
  generalize (bF U s x i r).1=y at *
  unfold fw at *
  generalize x.out.map Tk.row=L at *
  generalize y.out.map Tk.row=L1 at *
  simp only [aF,bV,bp,AV.mp,b7,Pl.mp];simp [JO,c4];refine aQ _ _ (I _ rfl) ⟨?_,?_,?_,?_,?_,?_,?_⟩ ?_;iterate 7 (· simp [hb,c4])
  simp;apply am<;>simp [hib,hb]
 have n4:(x.st==3)=false:=cI.2 c4;rw [if_neg (by omega)];generalize (db x i r).2=ok at *
 generalize (db x i r).1=y at *
 unfold fw at *
 generalize x.out.map Tk.row=L at *
 generalize y.out.map Tk.row=L1 at *
 simp only [aF,bV,bp,AV.mp,b7,Pl.mp];simp [JO,n1,n2,n3,n4];refine aQ _ _ (F _ rfl) ⟨?_,?_,?_,?_,?_,?_,?_⟩ ?_;iterate 7 (· simp [hb])
 simp;apply am<;>simp [hib,hb]
theorem Sc.add_keep (x:Sc) (v:TV):(x.add v).al=x.al∧(x.add v).ac=x.ac∧(x.add v).sa=x.sa:=by
 cases v<;>exact ⟨rfl,rfl,rfl⟩
theorem qA (x:Sc) (i:Nat) (r:Int):(db x i r).1.al=x.al∧(db x i r).1.ac=x.ac∧(db x i r).1.sa=i:=by
 unfold db;dsimp only;repeat' split
 all_goals first|exact ⟨rfl,rfl,rfl⟩|exact Sc.add_keep (x.begin i 0) _
theorem tN (V:List UInt8→TV) (U:List UInt8→List UInt8×Int) (s:List UInt8) (x:Sc) (i:Nat) (r:Int) (h:x.sa≤i):(bO V U s x i r).1.al=x.al∧(bO V U s x i r).1.ac=x.ac∧(bO V U s x i r).1.sa≤i:=by
 unfold bO;by_cases c1:x.st=1
 ·rw [if_pos c1];by_cases c2:wthn r=true
  ·rw [if_pos c2];exact ⟨rfl,rfl,h⟩
  ·rw [if_neg c2];have a:=Sc.add_keep x (V (dF s x.sa i));by_cases c3:(V (dF s x.sa i)).ok=true
   ·rw [if_pos c3];have f:=qA (x.add (V (dF s x.sa i))) i r;exact ⟨f.1.trans a.1,f.2.1.trans a.2.1,by omega⟩
   ·rw [if_neg c3];exact ⟨a.1,a.2.1,by dsimp only;omega⟩
 ·rw [if_neg c1];by_cases c2:x.st=4
  ·rw [if_pos c2];dsimp only;split
   ·exact ⟨rfl,rfl,h⟩
   ·exact ⟨rfl,rfl,h⟩
  ·rw [if_neg c2];by_cases c3:x.st=2∨x.st=3
   ·rw [if_pos c3];unfold bF gG;repeat' split
    all_goals first|exact ⟨rfl,rfl,h⟩|exact ⟨(Sc.add_keep x _).1,(Sc.add_keep x _).2.1,by have:=(Sc.add_keep x (Am (U (dF s x.sa (i+1))))).2.2;dsimp only;omega⟩
   ·rw [if_neg c3];have f:=qA x i r;exact ⟨f.1,f.2.1,by omega⟩
def kz (r:Int):Int:=if r= -1 then 65533 else r
def Sc.adv (x:Sc) (r:Int):Sc:=if r=10 then {x with al:=x.al+1,ac:=1} else {x with ac:=x.ac+1}
def eP (V:List UInt8→TV) (U:List UInt8→List UInt8×Int) (s:List UInt8) (x:Sc) (i:Nat):Sc×Bool:=
 if h:i<s.length then
  if (bO V U s x i (kz (ak s i).1)).2=true then eP V U s ((bO V U s x i (kz (ak s i).1)).1.adv (kz (ak s i).1)) (i+(ak s i).2)
  else ((bO V U s x i (kz (ak s i).1)).1,false)
 else (x,true)
termination_by s.length - i
decreasing_by have:=bI s i;omega
def xU:Sc:=⟨[],0,0,1,1,1,1,0,0,0⟩
structure TR where
 l:List Tk
 c:Int
 a:Int
 b:Int
def TR.bad (x:Sc):TR:=⟨[],x.cd,x.xl,x.xc⟩
def qB (V:List UInt8→TV) (U:List UInt8→List UInt8×Int) (s:List UInt8):TR:=
 if 40000<s.length then ⟨[],9,1,1⟩
 else if (eP V U s xU 0).2=true then (if (ky V s (eP V U s xU 0).1).2=true then ⟨(ky V s (eP V U s xU 0).1).1.out,0,0,0⟩ else .bad (ky V s (eP V U s xU 0).1).1)
 else .bad (eP V U s xU 0).1
def TR.av (x:TR):AV:= .tup [.sl (x.l.map Tk.row),.agg [i6 x.c,i6 x.a,i6 x.b]]
theorem FX (V:List UInt8→TV) (s:List UInt8) (hV: ∀w,w.length≤s.length→Sp Tryz.prog gl 109 [.str w] (V w).av)
  (x:Sc) (hl:x.out.length≤800000) (hs:s.length≤1000000) (h1:x.sa≤s.length) (d:Nat) (b:Id) (hb:b.isIt=false) (hbd:b.isNw d=false):
  cB Tryz.prog gl 78 d ⟨[.ptr b 0],[(b,fw s x)],[(.b b 1,5)]⟩ ⟨.bool (ky V s x).2,[(b,fw s (ky V s x).1)],[(.b b 1,5)]⟩:=by
 refine VL rfl ?_;have hib:=aV hbd;have HV:=hV (dF s x.sa s.length) (tL s x.sa s.length);have h1':(x.sa:Int)≤s.length:=by omega
 have hss:List.drop x.sa s=dF s x.sa s.length:=by unfold dF;rw [qJ]
 have hz:(TV.t 0 [] 0).av= .ifc 55 (.agg [.int .i64 0,.str [],.int .u64 0,.int .i64 0,.int .i64 0]):=rfl;have ho:(TV.t 0 [] 0).ok=true:=rfl;have W:=fun e=>eG s x 5 e (.up b) hb
 unfold ky;by_cases c1:x.st=1
 ·rw [if_pos c1];have A:=fun e=>iw s x (by omega) (V (dF s x.sa s.length)) e (.up b) hb
  have ao:=Sc.add_out x (V (dF s x.sa s.length));have B:=fun e=>gP s (x.add (V (dF s x.sa s.length))) s.length 0 e (.up b) hb
  have A2:=fun e=>iw s ((x.add (V (dF s x.sa s.length))).begin s.length 0) (by rw [Sc.begin_out];omega) (.t 0 [] 0) e (.up b) hb
  rw [hz,ho] at A2;generalize dF s x.sa s.length=W0 at *
  cases hk:(V W0).ok
  ·rw [if_neg (by decide)];dsimp only;rw [hk] at A;have hsh:dY (V W0).av=some (V W0).av:=by cases V W0<;>rfl
   have hid:(V W0).av.ids=[]:=by cases V W0<;>rfl
   have hmp: ∀f,(V W0).av.mp f=(V W0).av:=fun f=>by cases V W0<;>rfl
   generalize (V W0).av=vv at *
   generalize x.add (V W0)=y at *
   clear B A2;unfold fw at *
   generalize x.out.map Tk.row=L at *
   generalize y.out.map Tk.row=L1 at *
   simp only [aF,bV,bp,AV.mp,b7,Pl.mp];simp [Oe,c1,h1,h1',hss];apply ab HV;simp [hsh,hid,hmp];refine ka _ _ (A _ rfl) ⟨?_,?_,?_,?_,?_,?_,?_⟩ ⟨?_,?_,?_⟩ ?_;iterate 10 (· simp [Pl.isB,Pl.isF,hb,hid,hmp,c1])
   simp [hid,hmp];apply am<;>simp [hib,hb,hid,hmp]
  ·rw [if_pos rfl];rw [hk] at A;have hsh:dY (V W0).av=some (V W0).av:=by cases V W0<;>rfl
   have hid:(V W0).av.ids=[]:=by cases V W0<;>rfl
   have hmp: ∀f,(V W0).av.mp f=(V W0).av:=fun f=>by cases V W0<;>rfl
   generalize (V W0).av=vv at *
   generalize x.add (V W0)=y at *
   generalize y.begin s.length 0=y1 at *
   generalize y1.add (.t 0 [] 0)=y2 at *
   unfold fw at *
   generalize x.out.map Tk.row=L at *
   generalize y.out.map Tk.row=L1 at *
   generalize y1.out.map Tk.row=L2 at *
   generalize y2.out.map Tk.row=L3 at *
   simp only [aF,bV,bp,AV.mp,b7,Pl.mp];simp [Oe,c1,h1,h1',hss];apply ab HV;simp [hsh,hid,hmp];refine ka _ _ (A _ rfl) ⟨?_,?_,?_,?_,?_,?_,?_⟩ ⟨?_,?_,?_⟩ ?_;iterate 10 (· simp [Pl.isB,Pl.isF,hb,hid,hmp,c1])
   simp [hid,hmp];refine aQ _ _ (B _ rfl) ⟨?_,?_,?_,?_,?_,?_,?_⟩ ?_;iterate 7 (· simp [hb,hid,hmp])
   simp [hid,hmp];refine aQ _ _ (A2 _ rfl) ⟨?_,?_,?_,?_,?_,?_,?_⟩ ?_;iterate 7 (· simp [hb,hid,hmp])
   simp [hid,hmp];apply am<;>simp [hib,hb,hid,hmp]
 rw [if_neg c1];have n1:(x.st==1)=false:=cI.2 c1;by_cases c3:x.st=2
 ·rw [if_pos (.inl c3)];dsimp only;generalize x.wrong 5=y at *
  unfold fw at *
  generalize x.out.map Tk.row=L at *
  generalize y.out.map Tk.row=L1 at *
  simp only [aF,bV,bp,AV.mp,b7,Pl.mp];simp [Oe,c3];refine aQ _ _ (W _ rfl) ⟨?_,?_,?_,?_,?_,?_,?_⟩ ?_;iterate 7 (· simp [hb,c3])
  simp;apply am<;>simp [hib,hb]
 have n3:(x.st==2)=false:=cI.2 c3;by_cases c4:x.st=3
 ·rw [if_pos (.inr c4)];dsimp only;generalize x.wrong 5=y at *
  unfold fw at *
  generalize x.out.map Tk.row=L at *
  generalize y.out.map Tk.row=L1 at *
  simp only [aF,bV,bp,AV.mp,b7,Pl.mp];simp [Oe,c4];refine aQ _ _ (W _ rfl) ⟨?_,?_,?_,?_,?_,?_,?_⟩ ?_;iterate 7 (· simp [hb,c4])
  simp;apply am<;>simp [hib,hb]
 have n4:(x.st==3)=false:=cI.2 c4;rw [if_neg (by omega)];have B:=fun e=>gP s x s.length 0 e (.up b) hb
 have A2:=fun e=>iw s (x.begin s.length 0) (by rw [Sc.begin_out];omega) (.t 0 [] 0) e (.up b) hb
 rw [hz,ho] at A2;dsimp only;generalize x.begin s.length 0=y1 at *
 generalize y1.add (.t 0 [] 0)=y2 at *
 clear W;unfold fw at *
 generalize x.out.map Tk.row=L at *
 generalize y1.out.map Tk.row=L2 at *
 generalize y2.out.map Tk.row=L3 at *
 simp only [aF,bV,bp,AV.mp,b7,Pl.mp];simp [Oe,n1,n3,n4];refine aQ _ _ (B _ rfl) ⟨?_,?_,?_,?_,?_,?_,?_⟩ ?_;iterate 7 (· simp [hb])
 simp;refine aQ _ _ (A2 _ rfl) ⟨?_,?_,?_,?_,?_,?_,?_⟩ ?_;iterate 7 (· simp [hb])
 simp;apply am<;>simp [hib,hb]
def C0 (l:List Int) (i:Nat):Nat:=if h:i<l.length then (if l[i]=10 then i else C0 l (i+1)) else i
termination_by l.length - i
theorem xD {l:List Int} {i:Nat} (h:i<l.length):C0 l i=if l[i]=10 then i else C0 l (i+1):=by rw [C0,dif_pos h]
theorem rB {l:List Int} {i:Nat} (h: ¬i<l.length):C0 l i=i:=by rw [C0,dif_neg h]
theorem Je (l:List Int): ∀(n i:Nat),l.length - i≤n→i≤l.length→i≤C0 l i∧C0 l i≤l.length
 |0,i,h,hi=>by rw [rB (by omega)];omega
 |n+1,i,h,hi=>by
  by_cases g:i<l.length
  ·rw [xD g];split
   ·omega
   ·have:=Je l n (i+1) (by omega) (by omega)
    omega
  ·rw [rB g];omega
def bL (VR:List Int→TV) (U:List UInt8→List UInt8×Int) (l:List Int) (P:List (Int×Int)):Nat→Nat→List Tk→TR
 |0,_,_=>⟨[],0,0,0⟩
 |f+1,i,out=>match l[i]? with
  |none=>⟨out++[⟨0,[],0,(P.getD l.length (0,0)).1,(P.getD l.length (0,0)).2⟩],0,0,0⟩
  |some r=>if r=32∨r=9∨r=10 then bL VR U l P f (i+1) out
   else if r=35 then bL VR U l P f (C0 l i) out
   else if (dB VR U l i r).c=0 then bL VR U l P f (dB VR U l i r).en (out++[⟨(dB VR U l i r).k,(dB VR U l i r).w,(dB VR U l i r).n,(P.getD i (0,0)).1,(P.getD i (0,0)).2⟩])
   else ⟨[],(dB VR U l i r).c,(P.getD i (0,0)).1,(P.getD i (0,0)).2⟩
def C4 (VR:List Int→TV) (U:List UInt8→List UInt8×Int) (s:List UInt8):TR:=
 if 40000<s.length then ⟨[],9,1,1⟩ else bL VR U (ai s 0) (xT 1 1 (ai s 0)) ((ai s 0).length+1) 0 []
theorem Lo (VR:List Int→TV) (U:List UInt8→List UInt8×Int) (l:List Int) (i:Nat) (h:i<l.length) (hc:(dB VR U l i l[i]).c=0):i<(dB VR U l i l[i]).en∧(dB VR U l i l[i]).en≤l.length:=by
 unfold dB at hc ⊢;by_cases c1:l[i]=123
 ·rw [if_pos c1];exact ⟨Of _,h⟩
 rw [if_neg c1] at hc ⊢;by_cases c2:l[i]=125
 ·rw [if_pos c2];exact ⟨Of _,h⟩
 rw [if_neg c2] at hc ⊢;by_cases c3:l[i]=59
 ·rw [if_pos c3];exact ⟨Of _,h⟩
 rw [if_neg c3] at hc ⊢;by_cases c4:l[i]=34
 ·rw [if_pos c4] at hc ⊢
  have:=CY l l.length (i+1) (by omega)
  by_cases c5:nk l (i+1)=0
  ·rw [if_pos c5] at hc;exact absurd hc (by decide)
  ·rw [if_neg c5];dsimp only;omega
 rw [if_neg c4] at hc ⊢;by_cases c5:wthn l[i]=true
 ·rw [if_pos c5] at hc ⊢;have w1:=kx h;rw [if_pos c5] at w1;have w2:=rA l l.length (i+1) (by omega) (by omega);rw [←w1] at w2;generalize VR (dw l i (hY l i))=v at *
  cases v<;>(dsimp only [TV.on];omega)
 ·rw [if_neg c5] at hc;exact absurd hc (by decide)
end Go.Ai
