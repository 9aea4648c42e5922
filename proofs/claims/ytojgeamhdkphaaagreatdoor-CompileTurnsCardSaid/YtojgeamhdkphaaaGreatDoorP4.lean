/- P4: a part of the proof. Conditions: as each theorem says. -/
import Derived.Test.YtojgeamhdkphaaaGreatDoorP3
set_option linter.unusedSimpArgs false
set_option linter.unusedVariables false
set_option maxRecDepth 20000
namespace Go.Ai
open Go.Proofs
theorem fp {s:List UInt8} {i:Nat} (h:i<s.length):s.drop i=UInt8.ofNat (bF s i)::s.drop (i+1):=by
 rw[xI h,pq h,UInt8.ofNat_toNat]
theorem kW {s:List UInt8} {i:Nat} (h:fC s i=true):i<s.length:=(hY.1 h).1
theorem mr {s:List UInt8} {i:Nat} (h:fC s i=true):128<=bF s i/\bF s i<=191:=by
 unfold fC at h;exact FJ h
theorem iT {l r:Nat} (h:dX l r=true):l<=r/\r<=1114111/\ ¬(55296<=r/\r<57344):=by
 unfold dX at h;exact FJ h
theorem Iw (s:List UInt8) (i:Nat) (h:i<s.length) (hr:(aq s i).1≠ -1):fm (aq s i).1.toNat=(s.drop i).take (aq s i).2:=by
 have b0:=lP s i;unfold aq at hr ⊢;simp only at hr ⊢;by_cases c1:bF s i<128
 ·rw[if_pos c1];simp only[Int.toNat_natCast];rw[fp h];unfold fm;rw[if_pos c1];rfl
 ·rw[if_neg c1] at hr ⊢;by_cases c2:192<=bF s i/\bF s i<224
  ·rw[if_pos c2] at hr ⊢;rw[Bz] at hr ⊢;split at hr
   ·rename_i hc;rw[if_pos hc];rw[aJ] at hc;have k1:=mr hc.1;have m1:=kW hc.1;have q:=iT hc.2;simp only[Int.toNat_natCast];rw[fp h,fp m1];generalize bF s i=x,bF s (i+1)=y at*;unfold fm;rw[if_neg (by omega),if_pos (by omega),show 192+(64*(x - 192)+(y - 128)) / 64=x by omega,show 128+(64*(x - 192)+(y - 128))%64=y by omega];rfl
   ·exact absurd rfl hr
  ·rw[if_neg c2] at hr ⊢;by_cases c3:224<=bF s i/\bF s i<240
   ·rw[if_pos c3] at hr ⊢;rw[BA] at hr ⊢;split at hr
    ·rename_i hc;rw[if_pos hc];rw[aJ,aJ] at hc;have k1:=mr hc.1.1;have m1:=kW hc.1.1;have k2:=mr hc.1.2;have m2:=kW hc.1.2;have q:=iT hc.2;simp only[Int.toNat_natCast];rw[fp h,fp m1,fp m2];generalize bF s i=x,bF s (i+1)=y,bF s (i+2)=z at*;unfold fm;rw[if_neg (by omega),if_neg (by omega),if_pos (by omega),show 224+(64*(64*(x - 224)+(y - 128))+(z - 128)) / 4096=x by omega,show 128+(64*(64*(x - 224)+(y - 128))+(z - 128)) / 64%64=y by omega,show 128+(64*(64*(x - 224)+(y - 128))+(z - 128))%64=z by omega];rfl
    ·exact absurd rfl hr
   ·rw[if_neg c3] at hr ⊢;by_cases c4:240<=bF s i/\bF s i<248
    ·rw[if_pos c4] at hr ⊢;rw[BB] at hr ⊢;split at hr
     ·rename_i hc;rw[if_pos hc];rw[aJ,aJ,aJ] at hc;have k1:=mr hc.1.1.1;have m1:=kW hc.1.1.1;have k2:=mr hc.1.1.2;have m2:=kW hc.1.1.2;have k3:=mr hc.1.2;have m3:=kW hc.1.2;have q:=iT hc.2;simp only[Int.toNat_natCast];rw[fp h,fp m1,fp m2,fp m3];generalize bF s i=x,bF s (i+1)=y,bF s (i+2)=z,bF s (i+3)=v at*;unfold fm;rw[if_neg (by omega),if_neg (by omega),if_neg (by omega),show 240+(64*(64*(64*(x - 240)+(y - 128))+(z - 128))+(v - 128)) / 262144=x by omega,show 128+(64*(64*(64*(x - 240)+(y - 128))+(z - 128))+(v - 128)) / 4096%64=y by omega,show 128+(64*(64*(64*(x - 240)+(y - 128))+(z - 128))+(v - 128)) / 64%64=z by omega,show 128+(64*(64*(64*(x - 240)+(y - 128))+(z - 128))+(v - 128))%64=v by omega];rfl
     ·exact absurd rfl hr
    ·rw[if_neg c4] at hr;exact absurd rfl hr
def uc (r:Int):Prop:=r= -1\/(0<=r/\r<=1114111/\ ¬(55296<=r/\r<57344))
theorem pJ (s:List UInt8) (i n r0 l:Nat):uc (cD s i n r0 l).1:=by
 unfold cD uc;split
 ·rename_i h;rw[aJ] at h
  have:=iT h.2
  right;simp only;omega
 ·left;rfl
theorem pK (s:List UInt8) (i:Nat):uc (aq s i).1:=by
 unfold aq;simp only;split
 ·right;simp only;omega
 ·split
  ·exact pJ ..
  ·split
   ·exact pJ ..
   ·split
    ·exact pJ ..
    ·left;rfl
theorem kX (s:List UInt8): ∀(n i:Nat),s.length - i<=n-> ∀r∈ay s i,uc r
 |0,i,h,r,hr=>by rw[aS (by omega)] at hr;cases hr
 |n+1,i,h,r,hr=>by
  by_cases hi:i<s.length
  ·rw[bp hi] at hr;rcases nH.1 hr with rfl|hr
   ·exact pK s i
   ·have:=cN s i
    exact kX s n _ (by omega) r hr
  ·rw[aS hi] at hr;cases hr
theorem Ix (b:UInt8) (t:List UInt8):bF (b::t) 0=b.toNat:=rfl
theorem jL (n:Nat) (h:n<256) (t:List UInt8):bF (UInt8.ofNat n::t) 0=n:=by
 rw[Ix,UInt8.toNat_ofNat_of_lt' (by simpa using h)]
theorem K1 (r:Nat) (h1:r<=1114111) (h2: ¬(55296<=r/\r<57344)) (t:List UInt8):aq (fm r++t) 0=((r:Int),(fm r).length):=by
 unfold fm;by_cases c1:r<128
 ·rw[if_pos c1];simp only[cB,cL];unfold aq;simp only[jL r (by omega) t];rw[if_pos c1];rfl
 ·rw[if_neg c1];by_cases c2:r<2048
  ·rw[if_pos c2];simp only[cB,cL];unfold aq;simp only[jL (192+r / 64) (by omega) _];rw[if_neg (by omega),if_pos (by omega),Bz];simp only[l5,fC,show ∀(b:UInt8) (t:List UInt8),bF (b::t) 1=bF t 0 from fun b t=>rfl,jL (128+r%64) (by omega) t];rw[if_pos (by simp[dX];omega)];simp only[e7,tO,jM];exact ⟨by omega,trivial⟩
  ·rw[if_neg c2];by_cases c3:r<65536
   ·rw[if_pos c3];simp only[cB,cL];unfold aq;simp only[jL (224+r / 4096) (by omega) _];rw[if_neg (by omega),if_neg (by omega),if_pos (by omega),BA];simp only[l5,fC,show ∀(b:UInt8) (t:List UInt8),bF (b::t) 1=bF t 0 from fun b t=>rfl,show ∀(b c:UInt8) (t:List UInt8),bF (b::c::t) 2=bF t 0 from fun b c t=>rfl,jL (128+r / 64%64) (by omega) _,jL (128+r%64) (by omega) t];rw[if_pos (by simp[dX];omega)];simp only[e7,tO,jM];exact ⟨by omega,trivial⟩
   ·rw[if_neg c3];simp only[cB,cL];unfold aq;simp only[jL (240+r / 262144) (by omega) _];rw[if_neg (by omega),if_neg (by omega),if_neg (by omega),if_pos (by omega),BB];simp only[l5,fC,show ∀(b:UInt8) (t:List UInt8),bF (b::t) 1=bF t 0 from fun b t=>rfl,show ∀(b c:UInt8) (t:List UInt8),bF (b::c::t) 2=bF t 0 from fun b c t=>rfl,show ∀(b c e:UInt8) (t:List UInt8),bF (b::c::e::t) 3=bF t 0 from fun b c e t=>rfl,jL (128+r / 4096%64) (by omega) _,jL (128+r / 64%64) (by omega) _,jL (128+r%64) (by omega) t];rw[if_pos (by simp[dX];omega)];simp only[e7,tO,jM];exact ⟨by omega,trivial⟩
theorem z7 {a b:List UInt8} {i j:Nat} (h:bF a i=bF b j):fC a i=fC b j:=by unfold fC;rw[h]
theorem BY {a b:List UInt8} {i j:Nat} (r0:Nat): ∀n,(∀q,1<=q->q<=n->bF a (i+q)=bF b (j+q))->rv a i r0 n=rv b j r0 n
 |0,_=>rfl
 |n+1,h=>by
  have e:=BY r0 n (fun q h1 h2=>h q h1 (by omega));have f:=h (n+1) (by omega) (eR _);show 64*rv a i r0 n+(bF a (i+(n+1)) - 128)=64*rv b j r0 n+(bF b (j+(n+1)) - 128);rw[e,f]
theorem pM {a b:List UInt8} {i j:Nat}: ∀n,(∀q,1<=q->q<=n->bF a (i+q)=bF b (j+q))->mO a i n=mO b j n
 |0,_=>rfl
 |n+1,h=>by
  have e:=pM n (fun q h1 h2=>h q h1 (by omega));have f:=z7 (h (n+1) (by omega) (eR _));show (mO a i n&&fC a (i+(n+1)))=(mO b j n&&fC b (j+(n+1)));rw[e,f]
theorem lX {a:List UInt8} {i:Nat} (q:Nat) (h1:1<=q) (h2:fC a (i+q)=false): ∀n,q<=n->mO a i n=false
 |0,h=>by omega
 |n+1,h=>by
  rw[mO];by_cases c:q=n+1
  ·rw[<-c,h2,Bool.and_false]
  ·rw[lX q h1 h2 n (by omega),qp]
theorem Iy {a b:List UInt8} {i j m:Nat} (h: ∀q,q<=m->bF a (i+q)=bF b (j+q)) (hm:1<=m) (h0:bF b (j+m)<128) (n r0 l:Nat):cD a i n r0 l=cD b j n r0 l:=by
 unfold cD;by_cases c:n<m
 ·rw[pM (a:=a) (b:=b) (i:=i) (j:=j) n (fun q _ h2=>h q (by omega)),BY (a:=a) (b:=b) (i:=i) (j:=j) r0 n (fun q _ h2=>h q (by omega))]
 ·have c1:fC b (j+m)=false:=by unfold fC;exact lm (by omega)
  have c2:fC a (i+m)=false:=by rw[z7 (h m (eR _))];exact c1
  rw[lX m hm c2 n (by omega),lX m hm c1 n (by omega)];rfl
theorem Iz {a b:List UInt8} {i j m:Nat} (h: ∀q,q<=m->bF a (i+q)=bF b (j+q)) (h0:bF b (j+m)<128):aq a i=aq b j:=by
 have e:=h 0 (jq _);rw[tF,tF] at e;unfold aq;simp only[e];by_cases c:m=0
 ·subst c;rw[tF] at h0;rw[if_pos h0,if_pos h0]
 ·simp only[Iy h (by omega) h0]
theorem Fe {a b:List UInt8} {i j:Nat} (h: ∀q,bF a (i+q)=bF b (j+q)):aq a i=aq b j:=by
 have e:=h 0;rw[tF,tF] at e;have f: ∀n r0 l,cD a i n r0 l=cD b j n r0 l:=fun n r0 l=>by
  unfold cD;rw[pM (a:=a) (b:=b) (i:=i) (j:=j) n (fun q _ _=>h q),BY (a:=a) (b:=b) (i:=i) (j:=j) r0 n (fun q _ _=>h q)]
 unfold aq;simp only[e,f]
theorem K3 (a b:List UInt8) (q:Nat):bF (a++b) (a.length+q)=bF b q:=by
 unfold bF;rw[List.getElem?_append_right (by omega),show a.length+q - a.length=q by omega]
theorem nk (a b:List UInt8): ∀(n q:Nat),b.length - q<=n->ay (a++b) (a.length+q)=ay b q
 |n,q,h=>by
  by_cases g:q<b.length
  ·have g2:a.length+q<(a++b).length:=by rw[fT];omega
   have e:aq (a++b) (a.length+q)=aq b q:=Fe (fun z=>by rw[Gd];exact K3 a b (q+z));have p:=cN b q;rw[bp g,bp g2,e,Gd];cases n with
   |zero=>omega
   |succ n=>rw[nk a b n (q+(aq b q).2) (by omega)]
  ·rw[aS g,aS (by rw[fT];omega)]
theorem vz {r:Int} (h:uc r) (t:List UInt8):aq (lW r++t) 0=(r,(lW r).length):=by
 rcases h with rfl|⟨h1,h2,h3⟩
 ·have e:lW (-1)=[255]:=rfl;rw[e];simp only[cB,cL];unfold aq;simp only[show bF (255::t) 0=255 from rfl];rw[if_neg (by omega),if_neg (by omega),if_neg (by omega),if_neg (by omega)];rfl
 ·have e:lW r=fm r.toNat:=if_neg (by omega);have hz:((r.toNat:Nat):Int)=r:=by omega
  rw[e,K1 r.toNat (by omega) (by omega) t,hz]
theorem z8 (r:Int):1<=(lW r).length:=by
 unfold lW;split
 ·simp
 ·exact (z6 _).2
theorem eN: ∀l:List Int,(∀r∈l,uc r)->ay (aG l) 0=l
 |[],_=>by rw[aG,aS (by simp)]
 |r::l,h=>by
  have p:=z8 r;rw[aG,bp (by rw[fT];omega),vz (h r (by simp))];simp only;rw[l5,show (lW r).length=(lW r).length+0 from rfl,nk (lW r) (aG l) (aG l).length 0 (by omega),eN l (fun x hx=>h x (by simp[hx]))]
def Wk (s:List UInt8):Nat->List Int->Nat->Prop
 |i,[],j=>i=j
 |i,r::m,j=>i<s.length/\(aq s i).1=r/\Wk s (i+(aq s i).2) m j
theorem qU (s:List UInt8): ∀(m:List Int) (i j:Nat),Wk s i m j->j<s.length->Wk s i (m++[(aq s j).1]) (j+(aq s j).2)
 |[],i,j,h,hj=>by
  cases h;exact ⟨hj,rfl,rfl⟩
 |r::m,i,j,h,hj=>⟨h.1,h.2.1,qU s m _ j h.2.2 hj⟩
theorem IA (s:List UInt8): ∀(m:List Int) (i j:Nat),Wk s i m j->i<=j
 |[],i,j,h=>Nat.le_of_eq h
 |r::m,i,j,h=>by
  have:=IA s m _ j h.2.2
  omega
theorem oD {s:List UInt8} {j q:Nat} (h:q<j):bF (s.take j) q=bF s q:=by
 unfold bF;rw[qr,if_pos h]
theorem Aa (s:List UInt8) (i q:Nat):bF (s.drop i) q=bF s (i+q):=by
 unfold bF;rw[List.getElem?_drop]
theorem IB (s:List UInt8) (i0 e:Nat) (he:e<s.length) (h0:bF s e<128): ∀(m:List Int) (i:Nat),i0<=i->Wk s i m (e+1)->ay ((s.take (e+1)).drop i0) (i - i0)=m
 |[],i,hi,h=>by
  rw[aS]
  have:i=e+1:=h
  rw[xy,tD];omega
 |r::m,i,hi,h=>by
  have hle:=IA s m _ _ h.2.2;have hp:=cN s i;have g:i - i0<((s.take (e+1)).drop i0).length:=by rw[xy,tD];omega
  have es:aq ((s.take (e+1)).drop i0) (i - i0)=aq s i:=by
   refine Iz (m:=e - i) (fun q hq=>?_) ?_
   ·rw[Aa,oD (by omega),show i0+(i - i0+q)=i+q by omega]
   ·rw[show i+(e - i)=e by omega];exact h0
  rw[bp g,es,h.2.1,show i - i0+(aq s i).2=(i+(aq s i).2) - i0 by omega,IB s i0 e he h0 m _ (by omega) h.2.2]
theorem wW (s:List UInt8): ∀(m:List Int) (i j:Nat),j<=s.length->Wk s i m j->(∀r∈m,r≠ -1)->(s.take j).drop i=aG m
 |[],i,j,hj,h,_=>by
  have:i=j:=h
  subst this;rw[aG,Co (by rw[tD];omega)]
 |r::m,i,j,hj,h,hr=>by
  have hle:=IA s m _ _ h.2.2;have ih:=wW s m _ j hj h.2.2 (fun x hx=>hr x (by simp[hx]));have h1:=h.2.1;have hne:(aq s i).1≠ -1:=by rw[h1];exact hr r (by simp)
  have en:=Iw s i h.1 hne;have ok:=pK s i;have er:lW r=fm (aq s i).1.toNat:=by
   rw[<-h1];unfold lW;rw[if_neg];rcases ok with h|h
   ·exact absurd h hne
   ·omega
  rw[aG,er,en,<-ih]
  have:(s.take j).drop i=((s.drop i).take (aq s i).2)++(s.take j).drop (i+(aq s i).2):=by
   rw[<-List.drop_drop,List.drop_take,show List.take (aq s i).2 (List.drop i s)=List.take (aq s i).2 (List.take (j - i) (List.drop i s)) by rw[List.take_take,Nat.min_eq_left (by omega)],F9]
  exact this
def ud (l:List Int) (i:Nat):Nat:=
 if h:i<l.length then
  if l[i]=10 then 0 else if l[i]=34 then i+1
  else if l[i]=92 then (if l[i+1]?=some 10 then 0 else ud l (i+2))
  else ud l (i+1)
 else 0
termination_by l.length - i
theorem IC {l:List Int} {i:Nat} (h:i<l.length):ud l i=if l[i]=10 then 0 else if l[i]=34 then i+1 else if l[i]=92 then (if l[i+1]?=some 10 then 0 else ud l (i+2)) else ud l (i+1):=by
 rw[ud,dif_pos h]
theorem wX {l:List Int} {i:Nat} (h: ¬i<l.length):ud l i=0:=by rw[ud,dif_neg h]
def Ab (a b:Int):List Int->List (Int×Int)
 |[]=>[(a,b)]
 |r::l=>(a,b)::(if r=10 then Ab (a+1) 1 l else Ab a (b+1) l)
def eV (r:Int):Bool:=cR r||(ep r||(decide (r=95)||(decide (r=45)||(decide (r=46)||decide (r=37)))))
theorem qh (r:Int):Sp Tryz.prog gl 98 [i3 r] (.bool (ep r)):=by
 refine Vm rfl rfl ?_;unfold ep;by_cases h:48<=r
 ·simp[Qu,h]
 ·simp[Qu,h]
theorem wY (a b:Int):(a==b)=decide (a=b):=by
 by_cases h:a=b<;>simp[h]
theorem oE (r:Int):Sp Tryz.prog gl 83 [i3 r] (.bool (eV r)):=by
 refine Vf rfl rfl ?_;have L:=iG r;have D:=qh r;unfold eV;generalize cR r=a,ep r=b at*;cases a
 ·cases b
  ·have ne: ∀z:Int,¬r=z->(r==z)=false:=fun z h=>cH.2 h
   by_cases h1:r=95
   ·simp[LZ];apply ag L;simp;apply ag D;simp[h1]
   ·by_cases h2:r=45
    ·simp[LZ];apply ag L;simp;apply ag D;simp[h1,h2,ne 95 h1]
    ·by_cases h3:r=46
     ·simp[LZ];apply ag L;simp;apply ag D;simp[h1,h2,h3,ne 95 h1,ne 45 h2]
     ·simp[LZ];apply ag L;simp;apply ag D;simp[h1,h2,h3,ne 95 h1,ne 45 h2,ne 46 h3];exact wY r 37
  ·simp[LZ];apply ag L;simp;apply ag D;simp
 ·simp[LZ];apply ag L;simp
def dG (l:List Int) (a b:Nat):List Int:=(l.take b).drop a
theorem ID {l:List Int} {a b:Nat} {r:Int} (h:r∈dG l a b):r∈l:=DT (List.mem_of_mem_drop h)
def iv (l:List Int) (i:Nat):Nat:=if h:i<l.length then (if eV l[i]=true then iv l (i+1) else i) else i
termination_by l.length - i
theorem oF {l:List Int} {i:Nat} (h:i<l.length):iv l i=if eV l[i]=true then iv l (i+1) else i:=by rw[iv,dif_pos h]
theorem kq {l:List Int} {i:Nat} (h: ¬i<l.length):iv l i=i:=by rw[iv,dif_neg h]
theorem qV (l:List Int): ∀(n i:Nat),l.length - i<=n->i<=l.length->i<=iv l i/\iv l i<=l.length
 |0,i,h,hi=>by rw[kq (by omega)];omega
 |n+1,i,h,hi=>by
  by_cases g:i<l.length
  ·rw[oF g];split
   ·have:=qV l n (i+1) (by omega) (by omega)
    omega
   ·omega
  ·rw[kq g];omega
theorem B3 (l:List Int): ∀(n i:Nat),l.length - i<=n->ud l i=0\/(i<ud l i/\ud l i<=l.length)
 |n,i,h=>by
  by_cases g:i<l.length
  ·rw[IC g];split
   ·exact .inl rfl
   ·split
    ·right;omega
    ·split
     ·split
      ·exact .inl rfl
      ·cases n with
       |zero=>omega
       |succ n=>
        rcases B3 l n (i+2) (by omega) with h|h
        ·exact .inl h
        ·right;omega
     ·cases n with
      |zero=>omega
      |succ n=>
       rcases B3 l n (i+1) (by omega) with h|h
       ·exact .inl h
       ·right;omega
  ·rw[wX g];exact .inl rfl
structure On where
 k:Int
 w:List UInt8
 n:Nat
 en:Nat
 c:Int
def TV.on (en:Nat):TV->On
 | .e c=>⟨0,[],0,en,c⟩
 | .t k w n=>⟨k,w,n,en,0⟩
def TV.rs:TV->AV
 | .e c=> .tup [.agg [i6 0,.str [],u 0,i6 0,i6 0],i6 c]
 | .t k w n=> .tup [.agg [i6 k,.str w,u n,i6 0,i6 0],i6 0]
def On.av (x:On):AV:= .tup [.agg [i6 x.k,.str x.w,u x.n,i6 0,i6 0],i6 x.en,i6 x.c]
def dR (VR:List Int->TV) (U:List UInt8->List UInt8×Int) (l:List Int) (i:Nat) (r:Int):On:=
 if r=123 then ⟨7,[],0,i+1,0⟩ else if r=125 then ⟨8,[],0,i+1,0⟩ else if r=59 then ⟨9,[],0,i+1,0⟩
 else if r=34 then (if ud l (i+1)=0 then ⟨0,[],0,0,5⟩ else ⟨2,(U (aG (dG l i (ud l (i+1))))).1,0,ud l (i+1),(U (aG (dG l i (ud l (i+1))))).2⟩)
 else if eV r=true then (VR (dG l i (iv l i))).on (iv l i)
 else ⟨0,[],0,0,5⟩
def Ac (q:List UInt8×Int):TV:=if q.2=0 then .t 2 q.1 0 else .e q.2
def dj (x:Sc) (i:Nat) (r:Int):Sc×Bool:=
 let y:=x.begin i 0
 if r=32\/r=9\/r=10 then (y,true)
 else if r=35 then ({y with st:=4},true)
 else if r=34 then ({y with st:=2},true)
 else if r=123 then (y.add (.t 7 [] 0),true)
 else if r=125 then (y.add (.t 8 [] 0),true)
 else if r=59 then (y.add (.t 9 [] 0),true)
 else if eV r=true then ({y with st:=1},true)
 else (y.wrong 5,false)
def dJ (s:List UInt8) (a b:Nat):List UInt8:=(s.take b).drop a
def gT (U:List UInt8->List UInt8×Int) (s:List UInt8) (x:Sc) (e:Nat):Sc×Bool:=(x.add (Ac (U (dJ s x.sa e))),(Ac (U (dJ s x.sa e))).ok)
def bY (U:List UInt8->List UInt8×Int) (s:List UInt8) (x:Sc) (i:Nat) (r:Int):Sc×Bool:=
 if r=10 then (x.wrong 5,false)
 else if x.st=3 then ({x with st:=2},true)
 else if r=92 then ({x with st:=3},true)
 else if r=34 then gT U s x (i+1)
 else (x,true)
def cg (V:List UInt8->TV) (U:List UInt8->List UInt8×Int) (s:List UInt8) (x:Sc) (i:Nat) (r:Int):Sc×Bool:=
 if x.st=1 then (if eV r=true then (x,true) else if (V (dJ s x.sa i)).ok=true then dj (x.add (V (dJ s x.sa i))) i r else (x.add (V (dJ s x.sa i)),false))
 else if x.st=4 then ((if r=10 then {x with st:=0} else x),true)
 else if x.st=2\/x.st=3 then bY U s x i r
 else dj x i r
def kY (V:List UInt8->TV) (s:List UInt8) (x:Sc):Sc×Bool:=
 if x.st=1 then (if (V (dJ s x.sa s.length)).ok=true then (((x.add (V (dJ s x.sa s.length))).begin s.length 0).add (.t 0 [] 0),true) else (x.add (V (dJ s x.sa s.length)),false))
 else if x.st=2\/x.st=3 then (x.wrong 5,false)
 else ((x.begin s.length 0).add (.t 0 [] 0),true)
theorem Sc.begin_out (x:Sc) (i:Nat) (st:Int):(x.begin i st).out=x.out:=rfl
theorem Sc.wrong_out (x:Sc) (e:Int):(x.wrong e).out=x.out:=rfl
theorem Sc.add_out (x:Sc) (v:TV):(x.add v).out.length<=x.out.length+1:=by
 cases v with
 |e c=>simp[Sc.add,Sc.wrong_out]
 |t k w n=>simp[Sc.add]
theorem sN (x:Sc) (i:Nat) (r:Int):(dj x i r).1.out.length<=x.out.length+1:=by
 unfold dj;simp only;repeat' split
 all_goals first|exact Nat.le_succ _|exact Sc.add_out (x.begin i 0) _|skip
theorem Ad (U:List UInt8->List UInt8×Int) (s:List UInt8) (x:Sc) (i:Nat) (r:Int):(bY U s x i r).1.out.length<=x.out.length+1:=by
 unfold bY gT;repeat' split
 all_goals first|exact Nat.le_succ _|exact Sc.add_out x _|skip
theorem Ff (V:List UInt8->TV) (U:List UInt8->List UInt8×Int) (s:List UInt8) (x:Sc) (i:Nat) (r:Int):(cg V U s x i r).1.out.length<=x.out.length+2:=by
 unfold cg;by_cases c1:x.st=1
 ·rw[if_pos c1];by_cases c2:eV r=true
  ·rw[if_pos c2];simp
  ·rw[if_neg c2];by_cases c3:(V (dJ s x.sa i)).ok=true
   ·rw[if_pos c3];have h1:=sN (x.add (V (dJ s x.sa i))) i r;have h2:=Sc.add_out x (V (dJ s x.sa i));omega
   ·rw[if_neg c3];have h2:=Sc.add_out x (V (dJ s x.sa i));simp only;omega
 ·rw[if_neg c1];by_cases c2:x.st=4
  ·rw[if_pos c2];simp only;split<;>simp
  ·rw[if_neg c2];by_cases c3:x.st=2\/x.st=3
   ·rw[if_pos c3]
    have:=Ad U s x i r
    omega
   ·rw[if_neg c3]
    have:=sN x i r
    omega
theorem qi (s:List UInt8) (x:Sc) (hl:x.out.length<=900000) (i:Nat) (r:Int) (d:Nat) (b:Id) (hb:b.isIt=false) (hbd:b.isNw d=false):
  ba Tryz.prog gl 86 d ⟨[.ptr b 0,i6 i,i3 r],[(b,fv s x)],[(.b b 1,5)]⟩ ⟨.bool (dj x i r).2,[(b,fv s (dj x i r).1)],[(.b b 1,5)]⟩:=by
 refine Vi rfl ?_;have hib:=ae hbd;have ne: ∀z:Int,¬r=z->(r==z)=false:=fun z h=>cH.2 h
 have B:=fun e=>ic s x i 0 e (.up b) hb
 have A:=fun v e=>iS s (x.begin i 0) (by rw[Sc.begin_out];omega) v e (.up b) hb
 have W:=fun e=>eF s (x.begin i 0) 5 e (.up b) hb
 have WI:=oE r;have hz: ∀k:Int,(TV.t k [] 0).av= .ifc 94 (.agg [.int .i64 k,.str [],.int .u64 0,.int .i64 0,.int .i64 0]):=fun _=>rfl
 have ho: ∀k:Int,(TV.t k [] 0).ok=true:=fun _=>rfl
 unfold dj;simp only;obtain ⟨y,hy⟩: ∃y,y=x.begin i 0:=⟨_,rfl⟩;rw[<-hy] at B A W ⊢;clear hy;by_cases c1:r=32
 ·subst c1;rw[if_pos (by omega)];dsimp only;unfold fv at*;generalize y.out.map Tk.row=L,x.out.map Tk.row=L0 at*;simp only[ar,aW,aP,AV.mp,aY,Pl.mp];simp[F5];refine aE _ _ (B _ rfl) (by constructor<;>simp[hb]) ?_
  simp;apply ah<;>simp[hib,hb]
 by_cases c2:r=9
 ·subst c2;rw[if_pos (by omega)];dsimp only;unfold fv at*;generalize y.out.map Tk.row=L,x.out.map Tk.row=L0 at*;simp only[ar,aW,aP,AV.mp,aY,Pl.mp];simp[F5];refine aE _ _ (B _ rfl) (by constructor<;>simp[hb]) ?_
  simp;apply ah<;>simp[hib,hb]
 by_cases c3:r=10
 ·subst c3;rw[if_pos (by omega)];dsimp only;unfold fv at*;generalize y.out.map Tk.row=L,x.out.map Tk.row=L0 at*;simp only[ar,aW,aP,AV.mp,aY,Pl.mp];simp[F5];refine aE _ _ (B _ rfl) (by constructor<;>simp[hb]) ?_
  simp;apply ah<;>simp[hib,hb]
 rw[if_neg (by omega)];have n1:=ne 32 c1;have n2:=ne 9 c2;have n3:=ne 10 c3;by_cases c4:r=35
 ·subst c4;rw[if_pos rfl];dsimp only;unfold fv at*;generalize y.out.map Tk.row=L,x.out.map Tk.row=L0 at*;simp only[ar,aW,aP,AV.mp,aY,Pl.mp];simp[F5];refine aE _ _ (B _ rfl) (by constructor<;>simp[hb]) ?_
  simp;apply ah<;>simp[hib,hb]
 rw[if_neg c4];have n4:=ne 35 c4;by_cases c5:r=34
 ·subst c5;rw[if_pos rfl];dsimp only;unfold fv at*;generalize y.out.map Tk.row=L,x.out.map Tk.row=L0 at*;simp only[ar,aW,aP,AV.mp,aY,Pl.mp];simp[F5];refine aE _ _ (B _ rfl) (by constructor<;>simp[hb]) ?_
  simp;apply ah<;>simp[hib,hb]
 rw[if_neg c5];have n5:=ne 34 c5;by_cases c6:r=123
 ·subst c6;have A:=A (.t 7 [] 0);rw[hz,ho] at A;rw[if_pos rfl];dsimp only;generalize y.add (.t 7 [] 0)=z at*;unfold fv at*;generalize y.out.map Tk.row=L,x.out.map Tk.row=L0,z.out.map Tk.row=L1 at*;simp only[ar,aW,aP,AV.mp,aY,Pl.mp];simp[F5];refine aE _ _ (B _ rfl) (by constructor<;>simp[hb]) ?_
  simp;refine aE _ _ (A _ rfl) (by constructor<;>simp[hb]) ?_
  simp;apply ah<;>simp[hib,hb]
 rw[if_neg c6];have n6:=ne 123 c6;by_cases c7:r=125
 ·subst c7;have A:=A (.t 8 [] 0);rw[hz,ho] at A;rw[if_pos rfl];dsimp only;generalize y.add (.t 8 [] 0)=z at*;unfold fv at*;generalize y.out.map Tk.row=L,x.out.map Tk.row=L0,z.out.map Tk.row=L1 at*;simp only[ar,aW,aP,AV.mp,aY,Pl.mp];simp[F5];refine aE _ _ (B _ rfl) (by constructor<;>simp[hb]) ?_
  simp;refine aE _ _ (A _ rfl) (by constructor<;>simp[hb]) ?_
  simp;apply ah<;>simp[hib,hb]
 rw[if_neg c7];have n7:=ne 125 c7;by_cases c8:r=59
 ·subst c8;have A:=A (.t 9 [] 0);rw[hz,ho] at A;rw[if_pos rfl];dsimp only;generalize y.add (.t 9 [] 0)=z at*;unfold fv at*;generalize y.out.map Tk.row=L,x.out.map Tk.row=L0,z.out.map Tk.row=L1 at*;simp only[ar,aW,aP,AV.mp,aY,Pl.mp];simp[F5];refine aE _ _ (B _ rfl) (by constructor<;>simp[hb]) ?_
  simp;refine aE _ _ (A _ rfl) (by constructor<;>simp[hb]) ?_
  simp;apply ah<;>simp[hib,hb]
 rw[if_neg c8];have n8:=ne 59 c8;generalize eV r=q at*;cases q
 ·rw[if_neg (by decide)];dsimp only;generalize y.wrong 5=z at*;unfold fv at*;generalize y.out.map Tk.row=L,x.out.map Tk.row=L0,z.out.map Tk.row=L1 at*;simp only[ar,aW,aP,AV.mp,aY,Pl.mp];simp[F5];refine aE _ _ (B _ rfl) (by constructor<;>simp[hb]) ?_
  simp[n1,n2,n3,n4,n5,n6,n7,n8];apply ag WI;simp;refine aE _ _ (W _ rfl) (by constructor<;>simp[hb]) ?_
  simp;apply ah<;>simp[hib,hb]
 ·rw[if_pos rfl];dsimp only;unfold fv at*;generalize y.out.map Tk.row=L,x.out.map Tk.row=L0 at*;simp only[ar,aW,aP,AV.mp,aY,Pl.mp];simp[F5];refine aE _ _ (B _ rfl) (by constructor<;>simp[hb]) ?_
  simp[n1,n2,n3,n4,n5,n6,n7,n8];apply ag WI;simp;apply ah<;>simp[hib,hb]
theorem sO (s:List UInt8) (a b:Nat):(dJ s a b).length<=s.length:=by
 unfold dJ;rw[xy,tD];omega
theorem DD {q:List UInt8×Int} (h:q.2≠0):Ac q= .e q.2:=if_neg h
theorem DE {q:List UInt8×Int} (h:q.2=0):Ac q= .t 2 q.1 0:=if_pos h
theorem wZ (U:List UInt8->List UInt8×Int) (s:List UInt8) (hU: ∀w,w.length<=s.length->Sp Tryz.prog gl 135 [.str w] (.tup [.str (U w).1,i6 (U w).2])) (x:Sc) (hl:x.out.length<=900000) (e:Nat) (h1:x.sa<=e) (h2:e<=s.length)
  (d:Nat) (b:Id) (hb:b.isIt=false) (hbd:b.isNw d=false):
  ba Tryz.prog gl 107 d ⟨[.ptr b 0,i6 e],[(b,fv s x)],[(.b b 1,5)]⟩ ⟨.bool (gT U s x e).2,[(b,fv s (gT U s x e).1)],[(.b b 1,5)]⟩:=by
 refine QC rfl ?_;have hib:=ae hbd;have HU:=hU (dJ s x.sa e) (sO s x.sa e);unfold gT;dsimp only;have hs:List.drop x.sa (List.take e s)=dJ s x.sa e:=rfl;generalize dJ s x.sa e=W at*;generalize U W=q at*;obtain ⟨qt,qc⟩:=q;dsimp only at HU;have h1':(x.sa:Int)<=e:=by omega
 have h2':(e:Int)<=s.length:=by omega
 by_cases c:qc=0
 ·subst c;rw[DE rfl];dsimp only;have A:=fun e=>iS s x (by omega) (.t 2 qt 0) e (.up b) hb
  have hz:(TV.t 2 qt 0).av= .ifc 94 (.agg [.int .i64 2,.str qt,.int .u64 0,.int .i64 0,.int .i64 0]):=rfl;have ho:(TV.t 2 qt 0).ok=true:=rfl;rw[hz,ho] at A;rw[ho];generalize x.add (.t 2 qt 0)=y at*;unfold fv at*;generalize x.out.map Tk.row=L,y.out.map Tk.row=L1 at*;simp only[ar,aW,aP,AV.mp,aY,Pl.mp];simp[L6,h1,h2,h1',h2',hs];apply ag HU;simp;refine aE _ _ (A _ rfl) (by constructor<;>simp[hb]) ?_
  simp;apply ah<;>simp[hib,hb]
 ·rw[DD c];have W1:=fun e=>eF s x qc e (.up b) hb
  have hc:(qc==0)=false:=cH.2 c;have hc2:(qc !=0)=true:=by rw[bne,hc];rfl
  dsimp only[TV.ok,Sc.add];generalize x.wrong qc=y at*;unfold fv at*;generalize x.out.map Tk.row=L,y.out.map Tk.row=L1 at*;simp only[ar,aW,aP,AV.mp,aY,Pl.mp];simp[L6,h1,h2,h1',h2',hs];apply ag HU;simp[hc,hc2,c];refine aE _ _ (W1 _ rfl) (by constructor<;>simp[hb]) ?_
  simp;apply ah<;>simp[hib,hb]
theorem w9 (U:List UInt8->List UInt8×Int) (s:List UInt8) (hU: ∀w,w.length<=s.length->Sp Tryz.prog gl 135 [.str w] (.tup [.str (U w).1,i6 (U w).2])) (x:Sc) (hl:x.out.length<=900000) (hs:s.length<=1000000) (i:Nat) (h1:x.sa<=i) (h2:i<s.length) (r:Int)
  (d:Nat) (b:Id) (hb:b.isIt=false) (hbd:b.isNw d=false):
  ba Tryz.prog gl 87 d ⟨[.ptr b 0,i6 i,i3 r],[(b,fv s x)],[(.b b 1,5)]⟩ ⟨.bool (bY U s x i r).2,[(b,fv s (bY U s x i r).1)],[(.b b 1,5)]⟩:=by
 refine Vj rfl ?_;have hib:=ae hbd;have ne: ∀z:Int,¬r=z->(r==z)=false:=fun z h=>cH.2 h
 have Q:=fun e=>wZ U s hU x hl (i+1) (by omega) (by omega) e (.up b) hb
 have t1:IntKind.i64.wrap ((i:Int)+1)=(i+1:Nat):=by rw[aL]<;>omega
 have W:=fun e=>eF s x 5 e (.up b) hb
 unfold bY;by_cases c1:r=10
 ·subst c1;rw[if_pos rfl];dsimp only;generalize x.wrong 5=y at*;unfold fv at*;generalize x.out.map Tk.row=L,y.out.map Tk.row=L1 at*;simp only[ar,aW,aP,AV.mp,aY,Pl.mp];simp[No];refine aE _ _ (W _ rfl) (by constructor<;>simp[hb]) ?_
  simp;apply ah<;>simp[hib,hb]
 rw[if_neg c1];have n1:=ne 10 c1;by_cases c2:x.st=3
 ·rw[if_pos c2];dsimp only;unfold fv at*;generalize x.out.map Tk.row=L at*;simp only[ar,aW,aP,AV.mp,aY,Pl.mp];simp[No,n1,c2];apply ah<;>simp[hib,hb]
 rw[if_neg c2];have n2:(x.st==3)=false:=cH.2 c2;by_cases c3:r=92
 ·subst c3;rw[if_pos rfl];dsimp only;unfold fv at*;generalize x.out.map Tk.row=L at*;simp only[ar,aW,aP,AV.mp,aY,Pl.mp];simp[No,n1,n2];apply ah<;>simp[hib,hb]
 rw[if_neg c3];have n3:=ne 92 c3;by_cases c4:r=34
 ·subst c4;rw[if_pos rfl];generalize (gT U s x (i+1)).2=ok,(gT U s x (i+1)).1=y at*;unfold fv at*;generalize x.out.map Tk.row=L,y.out.map Tk.row=L1 at*;simp only[ar,aW,aP,AV.mp,aY,Pl.mp];simp[No,n1,n2,n3,t1];refine aE _ _ (Q _ rfl) (by constructor<;>simp[hb]) ?_
  simp;apply ah<;>simp[hib,hb]
 rw[if_neg c4];have n4:=ne 34 c4;dsimp only;unfold fv at*;generalize x.out.map Tk.row=L at*;simp only[ar,aW,aP,AV.mp,aY,Pl.mp];simp[No,n1,n2,n3,n4];apply ah<;>simp[hib,hb]
theorem B4 (V:List UInt8->TV) (U:List UInt8->List UInt8×Int) (s:List UInt8) (hU: ∀w,w.length<=s.length->Sp Tryz.prog gl 135 [.str w] (.tup [.str (U w).1,i6 (U w).2])) (hV: ∀w,w.length<=s.length->Sp Tryz.prog gl 85 [.str w] (V w).av)
  (x:Sc) (hl:x.out.length<=800000) (hs:s.length<=1000000) (i:Nat) (h1:x.sa<=i) (h2:i<s.length) (r:Int) (d:Nat) (b:Id) (hb:b.isIt=false) (hbd:b.isNw d=false):
  ba Tryz.prog gl 60 d ⟨[.ptr b 0,i6 i,i3 r],[(b,fv s x)],[(.b b 1,5)]⟩ ⟨.bool (cg V U s x i r).2,[(b,fv s (cg V U s x i r).1)],[(.b b 1,5)]⟩:=by
 refine UW rfl ?_;have hib:=ae hbd;have ne: ∀z:Int,¬r=z->(r==z)=false:=fun z h=>cH.2 h
 have I:=fun e=>w9 U s hU x (by omega) hs i h1 h2 r e (.up b) hb
 have F:=fun e=>qi s x (by omega) i r e (.up b) hb
 have WI:=oE r;have HV:=hV (dJ s x.sa i) (sO s x.sa i);have h1':(x.sa:Int)<=i:=by omega
 have h2':(i:Int)<=s.length:=by omega
 have h3:i<=s.length:=by omega
 have hss:List.drop x.sa (List.take i s)=dJ s x.sa i:=rfl;unfold cg;by_cases c1:x.st=1
 ·rw[if_pos c1];cases hw:eV r
  ·rw[if_neg (by decide)];rw[hw] at WI;have A:=fun e=>iS s x (by omega) (V (dJ s x.sa i)) e (.up b) hb
   have ao:=Sc.add_out x (V (dJ s x.sa i));have F2:=fun e=>qi s (x.add (V (dJ s x.sa i))) (by omega) i r e (.up b) hb
   generalize dJ s x.sa i=W at*;cases hk:(V W).ok
   ·rw[if_neg (by decide)];dsimp only;rw[hk] at A;have hsh:em (V W).av=some (V W).av:=by cases V W<;>rfl
    have hid:(V W).av.ids=[]:=by cases V W<;>rfl
    have hmp: ∀f,(V W).av.mp f=(V W).av:=fun f=>by cases V W<;>rfl
    generalize (V W).av=vv,x.add (V W)=y at*;unfold fv at*;generalize x.out.map Tk.row=L,y.out.map Tk.row=L1 at*;simp only[ar,aW,aP,AV.mp,aY,Pl.mp];simp[Ju,c1];apply ag WI;simp[h1,h3,h1',h2',hss];apply ag HV;simp[hsh,hid,hmp];refine eU _ _ (A _ rfl) ⟨?_,?_,?_,?_,?_,?_,?_⟩ ⟨?_,?_,?_⟩ ?_;iterate 10 (· simp[Pl.isB,Pl.isF,mJ,KF,AV.pid,hb,hid,hmp,c1])
    simp[hid,hmp];apply ah<;>simp[hib,hb,hid,hmp]
   ·rw[if_pos rfl];rw[hk] at A;have hsh:em (V W).av=some (V W).av:=by cases V W<;>rfl
    have hid:(V W).av.ids=[]:=by cases V W<;>rfl
    have hmp: ∀f,(V W).av.mp f=(V W).av:=fun f=>by cases V W<;>rfl
    generalize (V W).av=vv,x.add (V W)=y at*;generalize (dj y i r).2=ok2,(dj y i r).1=y2 at*;unfold fv at*;generalize x.out.map Tk.row=L,y.out.map Tk.row=L1,y2.out.map Tk.row=L2 at*;simp only[ar,aW,aP,AV.mp,aY,Pl.mp];simp[Ju,c1];apply ag WI;simp[h1,h3,h1',h2',hss];apply ag HV;simp[hsh,hid,hmp];refine eU _ _ (A _ rfl) ⟨?_,?_,?_,?_,?_,?_,?_⟩ ⟨?_,?_,?_⟩ ?_;iterate 10 (· simp[Pl.isB,Pl.isF,mJ,KF,AV.pid,hb,hid,hmp,c1])
    simp[hid,hmp];refine eU _ _ (F2 _ rfl) ⟨?_,?_,?_,?_,?_,?_,?_⟩ ⟨?_,?_,?_⟩ ?_;iterate 10 (· simp[Pl.isB,Pl.isF,mJ,KF,AV.pid,hb,hid,hmp])
    simp[hid,hmp];apply ah<;>simp[hib,hb,hid,hmp]
  ·rw[if_pos rfl];rw[hw] at WI;dsimp only;unfold fv at*;generalize x.out.map Tk.row=L at*;simp only[ar,aW,aP,AV.mp,aY,Pl.mp];simp[Ju,c1];apply ag WI;simp;apply ah<;>simp[hib,hb]
 rw[if_neg c1];have n1:(x.st==1)=false:=cH.2 c1;by_cases c2:x.st=4
 ·rw[if_pos c2];by_cases c3:r=10
  ·subst c3;rw[if_pos rfl];dsimp only;unfold fv at*;generalize x.out.map Tk.row=L at*;simp only[ar,aW,aP,AV.mp,aY,Pl.mp];simp[Ju,c2];apply ah<;>simp[hib,hb]
  ·rw[if_neg c3];have n3:=ne 10 c3;dsimp only;unfold fv at*;generalize x.out.map Tk.row=L at*;simp only[ar,aW,aP,AV.mp,aY,Pl.mp];simp[Ju,c2,n3,c3];apply ah<;>simp[hib,hb,c2]
 rw[if_neg c2];have n2:(x.st==4)=false:=cH.2 c2;by_cases c3:x.st=2
 ·rw[if_pos (.inl c3)];generalize (bY U s x i r).2=ok,(bY U s x i r).1=y at*;unfold fv at*;generalize x.out.map Tk.row=L,y.out.map Tk.row=L1 at*;simp only[ar,aW,aP,AV.mp,aY,Pl.mp];simp[Ju,c3];refine aE _ _ (I _ rfl) (by constructor<;>simp[hb,c3]) ?_
  simp;apply ah<;>simp[hib,hb]
 have n3:(x.st==2)=false:=cH.2 c3;by_cases c4:x.st=3
 ·rw[if_pos (.inr c4)];generalize (bY U s x i r).2=ok,(bY U s x i r).1=y at*;unfold fv at*;generalize x.out.map Tk.row=L,y.out.map Tk.row=L1 at*;simp only[ar,aW,aP,AV.mp,aY,Pl.mp];simp[Ju,c4];refine aE _ _ (I _ rfl) (by constructor<;>simp[hb,c4]) ?_
  simp;apply ah<;>simp[hib,hb]
 have n4:(x.st==3)=false:=cH.2 c4;rw[if_neg (by omega)];generalize (dj x i r).2=ok,(dj x i r).1=y at*;unfold fv at*;generalize x.out.map Tk.row=L,y.out.map Tk.row=L1 at*;simp only[ar,aW,aP,AV.mp,aY,Pl.mp];simp[Ju,n1,n2,n3,n4];refine aE _ _ (F _ rfl) (by constructor<;>simp[hb]) ?_
 simp;apply ah<;>simp[hib,hb]
theorem Sc.add_keep (x:Sc) (v:TV):(x.add v).al=x.al/\(x.add v).ac=x.ac/\(x.add v).sa=x.sa:=by
 cases v<;>exact ⟨rfl,rfl,rfl⟩
theorem qj (x:Sc) (i:Nat) (r:Int):(dj x i r).1.al=x.al/\(dj x i r).1.ac=x.ac/\(dj x i r).1.sa=i:=by
 unfold dj;dsimp only;repeat' split
 all_goals first|exact ⟨rfl,rfl,rfl⟩|exact Sc.add_keep (x.begin i 0) _
theorem sP (V:List UInt8->TV) (U:List UInt8->List UInt8×Int) (s:List UInt8) (x:Sc) (i:Nat) (r:Int) (h:x.sa<=i):(cg V U s x i r).1.al=x.al/\(cg V U s x i r).1.ac=x.ac/\(cg V U s x i r).1.sa<=i:=by
 unfold cg;by_cases c1:x.st=1
 ·rw[if_pos c1];by_cases c2:eV r=true
  ·rw[if_pos c2];exact ⟨rfl,rfl,h⟩
  ·rw[if_neg c2];have a:=Sc.add_keep x (V (dJ s x.sa i));by_cases c3:(V (dJ s x.sa i)).ok=true
   ·rw[if_pos c3];have f:=qj (x.add (V (dJ s x.sa i))) i r;exact ⟨f.1.trans a.1,f.2.1.trans a.2.1,by omega⟩
   ·rw[if_neg c3];exact ⟨a.1,a.2.1,by dsimp only;omega⟩
 ·rw[if_neg c1];by_cases c2:x.st=4
  ·rw[if_pos c2];dsimp only;split
   ·exact ⟨rfl,rfl,h⟩
   ·exact ⟨rfl,rfl,h⟩
  ·rw[if_neg c2];by_cases c3:x.st=2\/x.st=3
   ·rw[if_pos c3];unfold bY gT;repeat' split
    all_goals first|exact ⟨rfl,rfl,h⟩|exact ⟨(Sc.add_keep x _).1,(Sc.add_keep x _).2.1,by have:=(Sc.add_keep x (Ac (U (dJ s x.sa (i+1))))).2.2;dsimp only;omega⟩
   ·rw[if_neg c3];have f:=qj x i r;exact ⟨f.1,f.2.1,by omega⟩
def kZ (r:Int):Int:=if r= -1 then 65533 else r
def Sc.adv (x:Sc) (r:Int):Sc:=if r=10 then {x with al:=x.al+1,ac:=1} else {x with ac:=x.ac+1}
def eO (V:List UInt8->TV) (U:List UInt8->List UInt8×Int) (s:List UInt8) (x:Sc) (i:Nat):Sc×Bool:=
 if h:i<s.length then
  if (cg V U s x i (kZ (aq s i).1)).2=true then eO V U s ((cg V U s x i (kZ (aq s i).1)).1.adv (kZ (aq s i).1)) (i+(aq s i).2)
  else ((cg V U s x i (kZ (aq s i).1)).1,false)
 else (x,true)
termination_by s.length - i
decreasing_by have:=cN s i;omega
def xB:Sc:=⟨[],0,0,1,1,1,1,0,0,0⟩
structure TR where
 l:List Tk
 c:Int
 a:Int
 b:Int
def TR.bad (x:Sc):TR:=⟨[],x.cd,x.xl,x.xc⟩
def qk (V:List UInt8->TV) (U:List UInt8->List UInt8×Int) (s:List UInt8):TR:=
 if 40000<s.length then ⟨[],9,1,1⟩
 else if (eO V U s xB 0).2=true then (if (kY V s (eO V U s xB 0).1).2=true then ⟨(kY V s (eO V U s xB 0).1).1.out,0,0,0⟩ else .bad (kY V s (eO V U s xB 0).1).1)
 else .bad (eO V U s xB 0).1
def TR.av (x:TR):AV:= .tup [.sl (x.l.map Tk.row),.agg [i6 x.c,i6 x.a,i6 x.b]]
theorem Fg (V:List UInt8->TV) (s:List UInt8) (hV: ∀w,w.length<=s.length->Sp Tryz.prog gl 85 [.str w] (V w).av)
  (x:Sc) (hl:x.out.length<=800000) (hs:s.length<=1000000) (h1:x.sa<=s.length) (d:Nat) (b:Id) (hb:b.isIt=false) (hbd:b.isNw d=false):
  ba Tryz.prog gl 61 d ⟨[.ptr b 0],[(b,fv s x)],[(.b b 1,5)]⟩ ⟨.bool (kY V s x).2,[(b,fv s (kY V s x).1)],[(.b b 1,5)]⟩:=by
 refine UX rfl ?_;have hib:=ae hbd;have HV:=hV (dJ s x.sa s.length) (sO s x.sa s.length);have h1':(x.sa:Int)<=s.length:=by omega
 have hss:List.drop x.sa s=dJ s x.sa s.length:=by unfold dJ;rw[tJ]
 have hz:(TV.t 0 [] 0).av= .ifc 94 (.agg [.int .i64 0,.str [],.int .u64 0,.int .i64 0,.int .i64 0]):=rfl;have ho:(TV.t 0 [] 0).ok=true:=rfl;have W:=fun e=>eF s x 5 e (.up b) hb
 unfold kY;by_cases c1:x.st=1
 ·rw[if_pos c1];have A:=fun e=>iS s x (by omega) (V (dJ s x.sa s.length)) e (.up b) hb
  have ao:=Sc.add_out x (V (dJ s x.sa s.length));have B:=fun e=>ic s (x.add (V (dJ s x.sa s.length))) s.length 0 e (.up b) hb
  have A2:=fun e=>iS s ((x.add (V (dJ s x.sa s.length))).begin s.length 0) (by rw[Sc.begin_out];omega) (.t 0 [] 0) e (.up b) hb
  rw[hz,ho] at A2;generalize dJ s x.sa s.length=W0 at*;cases hk:(V W0).ok
  ·rw[if_neg (by decide)];dsimp only;rw[hk] at A;have hsh:em (V W0).av=some (V W0).av:=by cases V W0<;>rfl
   have hid:(V W0).av.ids=[]:=by cases V W0<;>rfl
   have hmp: ∀f,(V W0).av.mp f=(V W0).av:=fun f=>by cases V W0<;>rfl
   generalize (V W0).av=vv,x.add (V W0)=y at*;clear B A2;unfold fv at*;generalize x.out.map Tk.row=L,y.out.map Tk.row=L1 at*;simp only[ar,aW,aP,AV.mp,aY,Pl.mp];simp[Nn,c1,h1,h1',hss];apply ag HV;simp[hsh,hid,hmp];refine eU _ _ (A _ rfl) ⟨?_,?_,?_,?_,?_,?_,?_⟩ ⟨?_,?_,?_⟩ ?_;iterate 10 (· simp[Pl.isB,Pl.isF,mJ,KF,AV.pid,hb,hid,hmp,c1])
   simp[hid,hmp];apply ah<;>simp[hib,hb,hid,hmp]
  ·rw[if_pos rfl];rw[hk] at A;have hsh:em (V W0).av=some (V W0).av:=by cases V W0<;>rfl
   have hid:(V W0).av.ids=[]:=by cases V W0<;>rfl
   have hmp: ∀f,(V W0).av.mp f=(V W0).av:=fun f=>by cases V W0<;>rfl
   generalize (V W0).av=vv,x.add (V W0)=y at*;generalize y.begin s.length 0=y1 at*;generalize y1.add (.t 0 [] 0)=y2 at*;unfold fv at*;generalize x.out.map Tk.row=L,y.out.map Tk.row=L1,y1.out.map Tk.row=L2,y2.out.map Tk.row=L3 at*;simp only[ar,aW,aP,AV.mp,aY,Pl.mp];simp[Nn,c1,h1,h1',hss];apply ag HV;simp[hsh,hid,hmp];refine eU _ _ (A _ rfl) ⟨?_,?_,?_,?_,?_,?_,?_⟩ ⟨?_,?_,?_⟩ ?_;iterate 10 (· simp[Pl.isB,Pl.isF,mJ,KF,AV.pid,hb,hid,hmp,c1])
   simp[hid,hmp];refine aE _ _ (B _ rfl) (by constructor<;>simp[hb,hid,hmp]) ?_
   simp[hid,hmp];refine aE _ _ (A2 _ rfl) (by constructor<;>simp[hb,hid,hmp]) ?_
   simp[hid,hmp];apply ah<;>simp[hib,hb,hid,hmp]
 rw[if_neg c1];have n1:(x.st==1)=false:=cH.2 c1;by_cases c3:x.st=2
 ·rw[if_pos (.inl c3)];dsimp only;generalize x.wrong 5=y at*;unfold fv at*;generalize x.out.map Tk.row=L,y.out.map Tk.row=L1 at*;simp only[ar,aW,aP,AV.mp,aY,Pl.mp];simp[Nn,c3];refine aE _ _ (W _ rfl) (by constructor<;>simp[hb,c3]) ?_
  simp;apply ah<;>simp[hib,hb]
 have n3:(x.st==2)=false:=cH.2 c3;by_cases c4:x.st=3
 ·rw[if_pos (.inr c4)];dsimp only;generalize x.wrong 5=y at*;unfold fv at*;generalize x.out.map Tk.row=L,y.out.map Tk.row=L1 at*;simp only[ar,aW,aP,AV.mp,aY,Pl.mp];simp[Nn,c4];refine aE _ _ (W _ rfl) (by constructor<;>simp[hb,c4]) ?_
  simp;apply ah<;>simp[hib,hb]
 have n4:(x.st==3)=false:=cH.2 c4;rw[if_neg (by omega)];have B:=fun e=>ic s x s.length 0 e (.up b) hb
 have A2:=fun e=>iS s (x.begin s.length 0) (by rw[Sc.begin_out];omega) (.t 0 [] 0) e (.up b) hb
 rw[hz,ho] at A2;dsimp only;generalize x.begin s.length 0=y1 at*;generalize y1.add (.t 0 [] 0)=y2 at*;clear W;unfold fv at*;generalize x.out.map Tk.row=L,y1.out.map Tk.row=L2,y2.out.map Tk.row=L3 at*;simp only[ar,aW,aP,AV.mp,aY,Pl.mp];simp[Nn,n1,n3,n4];refine aE _ _ (B _ rfl) (by constructor<;>simp[hb]) ?_
 simp;refine aE _ _ (A2 _ rfl) (by constructor<;>simp[hb]) ?_
 simp;apply ah<;>simp[hib,hb]
def B5 (l:List Int) (i:Nat):Nat:=if h:i<l.length then (if l[i]=10 then i else B5 l (i+1)) else i
termination_by l.length - i
theorem xd {l:List Int} {i:Nat} (h:i<l.length):B5 l i=if l[i]=10 then i else B5 l (i+1):=by rw[B5,dif_pos h]
theorem qW {l:List Int} {i:Nat} (h: ¬i<l.length):B5 l i=i:=by rw[B5,dif_neg h]
theorem IE (l:List Int): ∀(n i:Nat),l.length - i<=n->i<=l.length->i<=B5 l i/\B5 l i<=l.length
 |0,i,h,hi=>by rw[qW (by omega)];omega
 |n+1,i,h,hi=>by
  by_cases g:i<l.length
  ·rw[xd g];split
   ·omega
   ·have:=IE l n (i+1) (by omega) (by omega)
    omega
  ·rw[qW g];omega
def eT (VR:List Int->TV) (U:List UInt8->List UInt8×Int) (l:List Int) (P:List (Int×Int)):Nat->Nat->List Tk->TR
 |0,_,_=>⟨[],0,0,0⟩
 |f+1,i,out=>match l[i]? with
  |none=>⟨out++[⟨0,[],0,(P.getD l.length (0,0)).1,(P.getD l.length (0,0)).2⟩],0,0,0⟩
  |some r=>if r=32\/r=9\/r=10 then eT VR U l P f (i+1) out
   else if r=35 then eT VR U l P f (B5 l i) out
   else if (dR VR U l i r).c=0 then eT VR U l P f (dR VR U l i r).en (out++[⟨(dR VR U l i r).k,(dR VR U l i r).w,(dR VR U l i r).n,(P.getD i (0,0)).1,(P.getD i (0,0)).2⟩])
   else ⟨[],(dR VR U l i r).c,(P.getD i (0,0)).1,(P.getD i (0,0)).2⟩
def IF (VR:List Int->TV) (U:List UInt8->List UInt8×Int) (s:List UInt8):TR:=
 if 40000<s.length then ⟨[],9,1,1⟩ else eT VR U (ay s 0) (Ab 1 1 (ay s 0)) ((ay s 0).length+1) 0 []
theorem K4 (VR:List Int->TV) (U:List UInt8->List UInt8×Int) (l:List Int) (i:Nat) (h:i<l.length) (hc:(dR VR U l i l[i]).c=0):i<(dR VR U l i l[i]).en/\(dR VR U l i l[i]).en<=l.length:=by
 unfold dR at hc ⊢;by_cases c1:l[i]=123
 ·rw[if_pos c1];exact ⟨Pb _,h⟩
 rw[if_neg c1] at hc ⊢;by_cases c2:l[i]=125
 ·rw[if_pos c2];exact ⟨Pb _,h⟩
 rw[if_neg c2] at hc ⊢;by_cases c3:l[i]=59
 ·rw[if_pos c3];exact ⟨Pb _,h⟩
 rw[if_neg c3] at hc ⊢;by_cases c4:l[i]=34
 ·rw[if_pos c4] at hc ⊢
  have:=B3 l l.length (i+1) (by omega)
  by_cases c5:ud l (i+1)=0
  ·rw[if_pos c5] at hc;exact absurd hc (by decide)
  ·rw[if_neg c5];dsimp only;omega
 rw[if_neg c4] at hc ⊢;by_cases c5:eV l[i]=true
 ·rw[if_pos c5] at hc ⊢;have w1:=oF h;rw[if_pos c5] at w1;have w2:=qV l l.length (i+1) (by omega) (by omega);rw[<-w1] at w2;generalize VR (dG l i (iv l i))=v at*;cases v<;>(dsimp only[TV.on];omega)
 ·rw[if_neg c5] at hc;exact absurd hc (by decide)
end Go.Ai
