/- P7: a part of the proof. Conditions: as each theorem says. -/
import Derived.Test.YtojgeamhdkphaaaGreatDoorP6
import Derived.Shelf.Strings.BuilderK
import Derived.Shelf.Strings.SlTrimAscii
import Derived.Shelf.Strings.Fields
import Derived.Shelf.Strings.Search2
import Derived.Lib.SplitLaws
import Derived.Lib.IndexBytes
set_option linter.unusedSimpArgs false
set_option linter.unusedVariables false
set_option maxRecDepth 20000
namespace Go.Ai
open Go.Proofs
def ii (s t:List UInt8):Bool:=decide (t.length<=s.length)&&(s.drop (s.length - t.length)==t)
theorem qm (s t:List UInt8) (hl:s.length<=1000000) (ht:t.length<=1000000):Sp Tryz.prog gl 125 [.str s,.str t] (.bool (ii s t)):=by
 refine QE rfl rfl ?_;unfold ii;by_cases g:t.length<=s.length
 ·have g':(t.length:Int)<=s.length:=by omega
  have w:IntKind.i64.wrap ((s.length:Int) - (t.length:Int))=(s.length - t.length:Nat):=by rw[aL]<;>omega
  have gm:s.length - t.length<=s.length:=Nat.sub_le _ _;rw[mI g,nC];generalize s.length - t.length=m at*;simp[L8,g,g',w,gm]
 ·have g': ¬(t.length:Int)<=s.length:=by omega
  rw[lm g,qp];simp[L8,g,g']
theorem oN (s t:List UInt8) (hl:s.length<=1000000) (ht:t.length<=1000000):Sp Tryz.prog gl 102 [.str s,.str t] (.bool (ii s t)):=by
 refine Qx rfl rfl ?_;have H:=qm s t hl ht;generalize ii s t=b at*;simp[NN];apply ag H;simp
def dk (s t:List UInt8):List UInt8:=if ii s t=true then s.take (s.length - t.length) else s
theorem xg (s t:List UInt8) (hl:s.length<=1000000) (ht:t.length<=1000000):Sp Tryz.prog gl 145 [.str s,.str t] (.tup [.str (dk s t),.bool (ii s t)]):=by
 refine QS rfl rfl ?_;have H:=qm s t hl ht;have k:ii s t=true->t.length<=s.length:=fun h=>by
  unfold ii at h;rw[aJ,Cn] at h;exact h.1
 unfold dk;have w:t.length<=s.length->IntKind.i64.wrap ((s.length:Int) - (t.length:Int))=(s.length - t.length:Nat):=fun h=>by rw[aL]<;>omega
 have gm:s.length - t.length<=s.length:=Nat.sub_le _ _;cases hb:ii s t
 ·rw[hb] at H;simp[Ma];apply ag H;simp
 ·rw[hb] at H;have w':=w (k hb);generalize s.length - t.length=m at*;simp[Ma];apply ag H;simp[w',gm]
theorem Aj (s t:List UInt8) (hl:s.length<=1000000) (ht:t.length<=1000000):Sp Tryz.prog gl 126 [.str s,.str t] (.tup [.str (dk s t),.bool (ii s t)]):=by
 refine QF rfl rfl ?_;have H:=xg s t hl ht;generalize dk s t=a,ii s t=b at*;simp[NQ];apply ag H;simp
theorem Ak (s:List UInt8) (hl:s.length<=1000000):Sp Tryz.prog gl 147 [.str s] (i6 (ay s 0).length):=by
 refine QU rfl rfl ?_;obtain ⟨R,hR⟩: ∃R,R=(ay s 0).length:=⟨_,rfl⟩;rw[<-hR];simp[N0];refine cP (α:=Nat×Nat) (fun x=>⟨[(2,i6 x.2),(4,.itp 4)],[(.it 4,[.itr s x.1])],[]⟩)
  (fun x=>x.2<=x.1/\x.1<=s.length/\x.2+(ay s x.1).length=R) (fun x=>s.length - x.1) ?_ (0,0) ?_ ?_
 ·rintro K ⟨i,n⟩ hK ⟨h1,h2,h3⟩;simp only at h1 h2 h3;by_cases g:i<s.length
  ·rw[bp g,e7] at h3;have sr:=gp s i g;have sl:=jl s i g;have sp:=cN s i;have t1:IntKind.i64.wrap ((n:Int)+1)=(n+1:Nat):=by rw[aL]<;>omega
   have fin: ∀σ',il σ' ⟨[(2,i6 (n+1:Nat)),(4,.itp 4)],[(.it 4,[.itr s (i+(aq s i).2)])],[]⟩->K σ':=
    fun σ' hσ=>hK (i+(aq s i).2,n+1) σ' ⟨by simp only;omega,sl,by simp only;omega⟩ (by simp only;omega) hσ
   clear hK hR h3;by_cases hb:(aq s i).1= -1
   ·rw[if_pos hb] at sr;rw[sQ s i hb] at fin;clear sl sp;simp[g,sr];refine fin _ ?_;apply aC<;>simp[t1]
   ·rw[if_neg hb] at sr;have esr:(aq s i)=((aq s i).1,(aq s i).2):=rfl;rw[esr] at sr;clear esr hb sl sp;generalize (aq s i).1=r,(aq s i).2=w at*;simp[g,sr];refine fin _ ?_;apply aC<;>simp[t1]
  ·rw[aS g] at h3;have h3':n=R:=by simpa using h3
   subst h3';clear hK;simp[g]
 ·exact ⟨eR _,jq _,by simp only;omega⟩
 ·apply aC<;>simp
def Js (l:List UInt8) (i:Nat):Nat:=match l[i]? with |some b=>b.toNat - 48|none=>0
def qX (l:List UInt8):Nat->Nat
 |0=>0
 |i+1=>10*qX l i+Js l i
def Ca (hd tail:List UInt8):Nat×Int:=
 if oM tail=false\/3<tail.length then (0,5)
 else if (l0 hd).2≠0 then (0,(l0 hd).2)
 else if (18446744073709551615 - qX tail 3) / 1000<(l0 hd).1 then (0,8)
 else (1000*(l0 hd).1+qX tail 3,0)
theorem DL (s:List UInt8):(l0 s).1<18446744073709551616:=by
 unfold l0;repeat' split
 all_goals first|assumption|omega
theorem IW {l:List UInt8} {i:Nat} (h:i<l.length):Js l i=l[i].toNat - 48:=by
 unfold Js;rw[uk h]
theorem xh {l:List UInt8} {i:Nat} (h: ¬i<l.length):Js l i=0:=by
 unfold Js;rw[Ga (by omega)]
theorem xi (l:List UInt8) (h: ∀i,Js l i<=9): ∀i,qX l i<10^i
 |0=>Nat.one_pos
 |i+1=>by
  have h1:=xi l h i;have h2:=h i;rw[qX,Ns];omega
theorem xj {l:List UInt8} (h:oM l=true) (i:Nat):Js l i<=9:=by
 by_cases g:i<l.length
 ·rw[IW g];unfold oM at h;rw[aJ] at h
  have:=ik.1 h.1 _ (xz g)
  unfold aV at this;rw[Cn] at this;omega
 ·rw[xh g];omega
def uf:List Int->Nat->Option Nat
 |[],n=>some n
 |r::l,n=>if 48<=r/\r<=57 then uf l ((n*10%4294967296+(r - 48).toNat)%4294967296) else none
def xm:Nat->Nat->Nat
 |0,n=>n
 |k+1,n=>xm k (n*10%4294967296)
def xo (l:List Int) (most:Nat):Nat×Bool:=
 match uf l 0 with
 |none=>(0,false)
 |some n=>if l=[]\/most<l.length then (0,false) else (xm (most - l.length) n,true)
def Al (e:Bool) (n:Option Nat) (m:Int):Nat×Bool:=
 match n with
 |none=>(0,false)
 |some n=>if e=true\/m<0 then (0,false) else (xm m.toNat n,true)
theorem oO (s:List UInt8) (hl:s.length<=1000000) (most:Nat) (hm:most<=1000000):
  Sp Tryz.prog gl 129 [.str s,i6 most] (.tup [.int .u32 (xo (ay s 0) most).1,.bool (xo (ay s 0) most).2]):=by
 refine QI rfl rfl ?_;obtain ⟨R,hR⟩: ∃R,R=xo (ay s 0) most:=⟨_,rfl⟩;rw[<-hR];have hR2:Al (s==[]) (uf (ay s 0) 0) ((most:Int) - (ay s 0).length)=R:=by
  rw[hR];unfold xo Al;cases uf (ay s 0) 0 with
  |none=>rfl
  |some n=>
   dsimp only;have e1:(s==[])=true↔ay s 0=[]:=by
    rw[cI];constructor
    ·rintro rfl;exact aS (by simp)
    ·intro h;by_cases g:0<s.length
     ·rw[bp g] at h;cases h
     ·exact Jy (by omega)
   have e2:(most:Int) - (ay s 0).length<0↔most<(ay s 0).length:=by omega
   have e3:((most:Int) - (ay s 0).length).toNat=most - (ay s 0).length:=by omega
   simp only[e1,e2,e3]
 clear hR;simp[NR];refine cP (α:=Nat×Nat×Int) (fun x=>⟨[(0,.str s),(1,i6 x.2.2),(6,.int .u32 x.2.1),(10,.itp 10)],[(.it 10,[.itr s x.1])],[]⟩)
  (fun x=>x.1<=s.length/\x.2.1<4294967296/\(most:Int) - x.1<=x.2.2/\x.2.2<=most/\Al (s==[]) (uf (ay s x.1) x.2.1) (x.2.2 - (ay s x.1).length)=R) (fun x=>s.length - x.1) ?_ (0,0,(most:Int)) ?_ ?_
 ·rintro K ⟨i,n,m⟩ hK ⟨h1,h2,h3,h4,h5⟩;simp only at h1 h2 h3 h4 h5;by_cases g:i<s.length
  ·rw[bp g,uf,e7] at h5;have sr:=gp s i g;have sl:=jl s i g;have sp:=cN s i;have t1:IntKind.i64.wrap (m - 1)=m - 1:=by rw[aL]<;>omega
   have fin: ∀n':Nat,n'<4294967296->Al (s==[]) (uf (ay s (i+(aq s i).2)) n') (m - 1 - (ay s (i+(aq s i).2)).length)=R->
     ∀σ',il σ' ⟨[(0,.str s),(1,i6 (m - 1)),(6,.int .u32 n'),(10,.itp 10)],[(.it 10,[.itr s (i+(aq s i).2)])],[]⟩->K σ':=
    fun n' a1 a2 σ' hσ=>hK (i+(aq s i).2,n',m - 1) σ' ⟨sl,a1,by simp only;omega,by simp only;omega,a2⟩ (by simp only;omega) hσ
   rw[show m - ((ay s (i+(aq s i).2)).length+1:Nat)=m - 1 - (ay s (i+(aq s i).2)).length by omega] at h5;clear hK hR2;by_cases hb:(aq s i).1= -1
   ·rw[if_pos hb] at sr;rw[hb,if_neg (by omega)] at h5;have h5':R=(0,false):=by rw[<-h5];rfl
    subst h5';clear sl sp fin h5;simp[g,sr]
   ·rw[if_neg hb] at sr;have esr:(aq s i)=((aq s i).1,(aq s i).2):=rfl;rw[esr] at sr;clear esr hb sl sp;generalize (aq s i).1=r,(aq s i).2=w at*;by_cases d1:48<=r
    ·by_cases d2:r<=57
     ·rw[if_pos ⟨d1,d2⟩] at h5;have f:=fin _ (Nat.mod_lt _ (by decide)) h5;clear fin h5;have d1': ¬r<48:=by omega
      have d2': ¬57<r:=by omega
      have w1:IntKind.i32.wrap (r - 48)=r - 48:=by rw[gq]<;>omega
      have w2:IntKind.u32.wrap (r - 48)=r - 48:=by rw[yQ]<;>omega
      have w3:IntKind.u32.wrap (IntKind.u32.wrap ((n:Int)*10)+(r - 48))=(((n*10%4294967296+(r - 48).toNat)%4294967296:Nat):Int):=by
       rw[gn,gn];omega
      generalize (n*10%4294967296+(r - 48).toNat)%4294967296=n' at*;simp[g,sr,d1',d2',w1,w2,w3];refine f _ ?_;apply aC<;>simp[t1,w1,w2,w3]
     ·rw[if_neg (by omega)] at h5;have h5':R=(0,false):=by rw[<-h5];rfl
      subst h5';have d1': ¬r<48:=by omega
      have d2':57<r:=by omega
      clear fin h5;simp[g,sr,d1',d2']
    ·rw[if_neg (by omega)] at h5;have h5':R=(0,false):=by rw[<-h5];rfl
     subst h5';have d1':r<48:=by omega
     clear fin h5;simp[g,sr,d1']
  ·rw[aS g,uf] at h5;clear hK hR2;have lb:((([]:List Int).length:Nat):Int)=0:=rfl;rw[lb,Int.sub_zero] at h5;unfold Al at h5;dsimp only at h5;by_cases e:s=[]
   ·subst e;rw[if_pos (Or.inl (show (([]:List UInt8)==[])=true from rfl))] at h5;subst h5;simp[g]
   have en:(s==[])=false:=cH.2 e;by_cases mn:m<0
   ·rw[if_pos (Or.inr mn)] at h5;subst h5;simp[g,e,en,mn]
   rw[if_neg (by rw[en];rintro (h|h);cases h;exact mn h)] at h5;simp[g,e,en,mn];obtain ⟨M,rfl⟩: ∃M:Nat,m=M:=⟨m.toNat,by omega⟩;rw[Int.toNat_natCast] at h5;refine cP (α:=Nat×Nat) (fun x=>⟨[(1,i6 x.1),(6,.int .u32 x.2)],[],[]⟩) (fun x=>x.1<=M/\x.2<4294967296/\(xm x.1 x.2,true)=R) (fun x=>x.1) ?_ (M,n) ?_ ?_
   ·rintro K ⟨k,q⟩ hK ⟨k1,k2,k3⟩;simp only at k1 k2 k3;cases k with
    |zero=>
     rw[xm] at k3;subst k3;clear hK;simp
    |succ k=>
     rw[xm] at k3;have t1:IntKind.i64.wrap (((k+1:Nat):Int) - 1)=k:=by rw[aL]<;>omega
     have w3:IntKind.u32.wrap ((q:Int)*10)=((q*10%4294967296:Nat):Int):=by
      rw[gn];omega
     have f:=fun σ' hσ=>hK (k,q*10%4294967296) σ' ⟨by simp only;omega,Nat.mod_lt _ (by decide),k3⟩ (by simp only;omega) hσ
     have k0:(0:Int)<((k+1:Nat):Int):=by omega
     clear hK k3;generalize q*10%4294967296=q',hkk:((k+1:Nat):Int)=kk at*;simp[k0,w3];refine f _ ?_;apply aC<;>simp[t1,w3]
   ·exact ⟨eR _,h2,h5⟩
   ·apply aC<;>simp
 ·exact ⟨jq _,by simp only;omega,by simp only;omega,by simp only;omega,hR2⟩
 ·apply aC<;>simp
theorem kv (s:List UInt8) (i:Nat) (h:i<s.length):(s[i].toNat<128/\aq s i=((s[i].toNat:Int),1))\/(128<=s[i].toNat/\((aq s i).1<0\/128<=(aq s i).1)):=by
 by_cases c:s[i].toNat<128
 ·left;refine ⟨c,?_⟩;unfold aq;simp only[pq h];rw[if_pos c]
 ·right;refine ⟨by omega,?_⟩;by_cases p:(aq s i).1<0\/128<=(aq s i).1
  ·exact p
  ·have:=ql (s:=s) (i:=i) rfl (by omega) (by omega)
   rw[pq h] at this;omega
def Lc:List UInt8->Nat->Option Nat
 |[],n=>some n
 |b::l,n=>if aV b=true then Lc l ((n*10%4294967296+(b.toNat - 48))%4294967296) else none
theorem gI (b:UInt8):aV b=true↔48<=b.toNat/\b.toNat<=57:=by
 unfold aV;rw[Cn]
theorem Am (s:List UInt8): ∀k i n,s.length - i<=k->uf (ay s i) n=Lc (s.drop i) n:=by
 intro k;induction k with
 |zero=>
  intro i n h;rw[aS (by omega),Co (by omega)];rfl
 |succ k ih=>
  intro i n h;by_cases g:i<s.length
  ·rw[bp g,xI g,uf,Lc];rcases kv s i g with ⟨a,e⟩|⟨a,e⟩
   ·rw[e];dsimp only;by_cases d:48<=s[i].toNat/\s[i].toNat<=57
    ·rw[if_pos (by omega),if_pos ((gI _).2 d),show ((s[i].toNat:Int) - 48).toNat=s[i].toNat - 48 by omega];exact ih _ _ (by omega)
    ·rw[if_neg (by omega),if_neg (fun q=>d ((gI _).1 q))]
   ·rw[if_neg (by omega),if_neg (fun q=>by have:=(gI _).1 q;omega)]
  ·rw[aS g,Co (by omega)];rfl
theorem IY (s:List UInt8): ∀n,s.all aV=false->Lc s n=none:=by
 induction s with
 |nil=>intro n h;cases h
 |cons b l ih=>
  intro n h;rw[Lc];rw[List.all_cons] at h;by_cases c:aV b=true
  ·rw[if_pos c];rw[c,nC] at h;exact ih _ h
  ·rw[if_neg c]
theorem Ld (s:List UInt8): ∀n,s.all aV=true->n<10^(9 - s.length)->s.length<=9->Lc s n=some (s.foldl (fun a b=>10*a+(b.toNat - 48)) n):=by
 induction s with
 |nil=>intro n _ _ _;rfl
 |cons b l ih=>
  intro n h hn hl;rw[List.all_cons,aJ] at h;have d:=(gI b).1 h.1;rw[e7] at hn hl;have e9:9 - l.length=(9 - (l.length+1))+1:=by omega
  have p:10^(9 - l.length)=10*10^(9 - (l.length+1)):=by rw[e9,Ns,Nr]
  have p9:(10:Nat)^(9 - l.length)<=10^9:=Nat.pow_le_pow_right (by decide) (by omega);have v9:(10:Nat)^9=1000000000:=by decide
  rw[v9] at p9;generalize (10:Nat)^(9 - (l.length+1))=X at*;rw[Lc,if_pos h.1,List.foldl_cons];have e:(n*10%4294967296+(b.toNat - 48))%4294967296=10*n+(b.toNat - 48):=by
   rw[DS (show n*10<4294967296 by omega),DS (by omega)];omega
  rw[e];exact ih _ h.2 (by omega) (by omega)
theorem M3 (s:List UInt8): ∀n,s.all aV=true-> ∃v,Lc s n=some v:=by
 induction s with
 |nil=>intro n _;exact ⟨n,rfl⟩
 |cons b l ih=>
  intro n h;rw[List.all_cons,aJ] at h;rw[Lc,if_pos h.1];exact ih _ h.2
theorem jB (s:List UInt8): ∀k i,s.length - i<=k->i<=s.length->(s.drop i).all aV=true->(ay s i).length=s.length - i:=by
 intro k;induction k with
 |zero=>
  intro i h hi _;rw[aS (by omega),tO];omega
 |succ k ih=>
  intro i h hi hd;by_cases g:i<s.length
  ·rw[xI g,List.all_cons,aJ] at hd;have d:=(gI _).1 hd.1;rw[bp g,e7];rcases kv s i g with ⟨a,e⟩|⟨a,e⟩
   ·rw[e];dsimp only;rw[ih (i+1) (by omega) (by omega) hd.2];omega
   ·omega
  ·rw[aS g,tO];omega
theorem s9 (s:List UInt8):ay s 0=[]↔s=[]:=by
 constructor
 ·intro h;by_cases g:0<s.length
  ·rw[bp g] at h;cases h
  ·exact Jy (by omega)
 ·rintro rfl;exact aS (by simp)
theorem DM: ∀(j n:Nat),n*10^j<4294967296->xm j n=n*10^j
 |0,n,_=>by rw[xm];simp
 |j+1,n,h=>by
  have e:n*10^(j+1)=n*10*10^j:=by rw[Ns,Nr (10^j) 10,Nat.mul_assoc]
  rw[e] at h ⊢;have q:1<=10^j:=Nat.pos_of_ne_zero (by simp)
  have:n*10<=n*10*10^j:=Nat.le_mul_of_pos_right _ q
  rw[xm,DS (by omega),DM j (n*10) h]
theorem Le (s:List UInt8) (m:Nat) (h:s.all aV=false\/s=[]\/m<s.length):xo (ay s 0) m=(0,false):=by
 unfold xo;rw[Am s s.length 0 0 (by omega),Gc];cases hd:s.all aV
 ·rw[IY s 0 hd]
 ·obtain ⟨v,hv⟩:=M3 s 0 hd;rw[hv];dsimp only;rw[if_pos];rcases h with h|h|h
  ·rw[hd] at h;cases h
  ·exact .inl ((s9 s).2 h)
  ·right;rw[jB s s.length 0 (by omega) (by omega) hd];exact h
theorem IZ (s:List UInt8) (m:Nat) (h1:s.all aV=true) (h2:s≠[]) (h3:s.length<=m) (h4:m<=9):xo (ay s 0) m=(aU s*10^(m - s.length),true):=by
 unfold xo;rw[Am s s.length 0 0 (by omega),Gc,Ld s 0 h1 (Nat.pos_of_ne_zero (by simp)) (by omega)];dsimp only;have rd:=jB s s.length 0 (by omega) (by omega) h1;rw[if_neg (by rintro (h|h);exact h2 ((s9 s).1 h);omega),rd,Nat.sub_zero];have hu:=sY s h1;have e:aU s=s.foldl (fun a b=>10*a+(b.toNat - 48)) 0:=rfl;rw[<-e];have b:aU s*10^(m - s.length)<4294967296:=by
  have h5:aU s*10^(m - s.length)<10^s.length*10^(m - s.length):=Nat.mul_lt_mul_of_pos_right hu (Nat.pos_of_ne_zero (by simp));rw[<-Nat.pow_add,show s.length+(m - s.length)=m by omega] at h5;have h6:(10:Nat)^m<=10^9:=Nat.pow_le_pow_right (by decide) h4;have v9:(10:Nat)^9=1000000000:=by decide
  omega
 rw[DM _ _ b]
open Go.Shelf
def aQ:Ren:={
 f:=fun x=>match x with
  |160=>99
  |232=>118
  |231=>117
  |227=>119
  |234=>121
  |233=>120
  |236=>123
  |235=>122
  |228=>139
  |271=>142
  |151=>141
  |197=>140
  |120=>164
  |152=>154
  |260=>163
  |137=>175
  |119=>176
  |224=>167
  |225=>166
  |217=>165
  |266=>182
  |n=>n
 t:=fun x=>match x with
  |9=>9
  |4=>4
  |3=>3
  |5=>5
  |117=>176
  |116=>175
  |0=>0
  |124=>179
  |21=>21
  |105=>210
  |46=>208
  |119=>204
  |139=>207
  |138=>206
  |n=>n
 g:=fun x=>match x with
  |3=>0
  |4=>1
  |n=>n}
set_option maxRecDepth 100000 in
theorem An:Lays.n160 Tryz.prog aQ where
 mixed:=by kernel_rfl
 f119:=Eq.trans Tryz.func176 (congrArg some (show Tryz.f176=Body.n119 aQ by kernel_rfl))
 f120:=Eq.trans Tryz.func164 (congrArg some (show Tryz.f164=Body.n120 aQ by kernel_rfl))
 f137:=Eq.trans Tryz.func175 (congrArg some (show Tryz.f175=Body.n137 aQ by kernel_rfl))
 f151:=Eq.trans Tryz.func141 (congrArg some (show Tryz.f141=Body.n151 aQ by kernel_rfl))
 f152:=Eq.trans Tryz.func154 (congrArg some (show Tryz.f154=Body.n152 aQ by kernel_rfl))
 f160:=Eq.trans Tryz.func99 (congrArg some (show Tryz.f99=Body.n160 aQ by kernel_rfl))
 f197:=Eq.trans Tryz.func140 (congrArg some (show Tryz.f140=Body.n197 aQ by kernel_rfl))
 f217:=Eq.trans Tryz.func165 (congrArg some (show Tryz.f165=Body.n217 aQ by kernel_rfl))
 f224:=Eq.trans Tryz.func167 (congrArg some (show Tryz.f167=Body.n224 aQ by kernel_rfl))
 f225:=Eq.trans Tryz.func166 (congrArg some (show Tryz.f166=Body.n225 aQ by kernel_rfl))
 f227:=Eq.trans Tryz.func119 (congrArg some (show Tryz.f119=Body.n227 aQ by kernel_rfl))
 f228:=Eq.trans Tryz.func139 (congrArg some (show Tryz.f139=Body.n228 aQ by kernel_rfl))
 f231:=Eq.trans Tryz.func117 (congrArg some (show Tryz.f117=Body.n231 aQ by kernel_rfl))
 f232:=Eq.trans Tryz.func118 (congrArg some (show Tryz.f118=Body.n232 aQ by kernel_rfl))
 f233:=Eq.trans Tryz.func120 (congrArg some (show Tryz.f120=Body.n233 aQ by kernel_rfl))
 f234:=Eq.trans Tryz.func121 (congrArg some (show Tryz.f121=Body.n234 aQ by kernel_rfl))
 f235:=Eq.trans Tryz.func122 (congrArg some (show Tryz.f122=Body.n235 aQ by kernel_rfl))
 f236:=Eq.trans Tryz.func123 (congrArg some (show Tryz.f123=Body.n236 aQ by kernel_rfl))
 f260:=Eq.trans Tryz.func163 (congrArg some (show Tryz.f163=Body.n260 aQ by kernel_rfl))
 f266:=Eq.trans Tryz.func182 (congrArg some (show Tryz.f182=Body.n266 aQ by kernel_rfl))
 f271:=Eq.trans Tryz.func142 (congrArg some (show Tryz.f142=Body.n271 aQ by kernel_rfl))
 t0:=Tryz.underlying0
 a0:=Tryz.isAgg0
 z0:=Tryz.sizeOf0
 v0:=Tryz.zeroValue0
 t3:=Tryz.underlying3
 a3:=Tryz.isAgg3
 z3:=Tryz.sizeOf3
 v3:=Tryz.zeroValue3
 t4:=Tryz.underlying4
 a4:=Tryz.isAgg4
 z4:=Tryz.sizeOf4
 v4:=Tryz.zeroValue4
 t5:=Tryz.underlying5
 a5:=Tryz.isAgg5
 z5:=Tryz.sizeOf5
 v5:=Tryz.zeroValue5
 t9:=Tryz.underlying9
 a9:=Tryz.isAgg9
 z9:=Tryz.sizeOf9
 v9:=Tryz.zeroValue9
 t21:=Tryz.underlying21
 a21:=Tryz.isAgg21
 z21:=Tryz.sizeOf21
 v21:=Tryz.zeroValue21
 t46:=Tryz.underlying208
 a46:=Tryz.isAgg208
 z46:=Tryz.sizeOf208
 v46:=Tryz.zeroValue208
 t105:=Tryz.underlying210
 a105:=Tryz.isAgg210
 z105:=Tryz.sizeOf210
 v105:=Tryz.zeroValue210
 t116:=Tryz.underlying175
 a116:=Tryz.isAgg175
 z116:=Tryz.sizeOf175
 t117:=Tryz.underlying176
 a117:=Tryz.isAgg176
 z117:=Tryz.sizeOf176
 v117:=Tryz.zeroValue176
 t119:=Tryz.underlying204
 a119:=Tryz.isAgg204
 z119:=Tryz.sizeOf204
 t124:=Tryz.underlying179
 a124:=Tryz.isAgg179
 z124:=Tryz.sizeOf179
 v124:=Tryz.zeroValue179
 t138:=Tryz.underlying206
 a138:=Tryz.isAgg206
 z138:=Tryz.sizeOf206
 v138:=Tryz.zeroValue206
 t139:=Tryz.underlying207
 a139:=Tryz.isAgg207
 z139:=Tryz.sizeOf207
 v139:=Tryz.zeroValue207
 g3:=by kernel_rfl
 g4:=by kernel_rfl
theorem pP:Builder.Extra Tryz.prog dQ where
 sizeBuilder:=by kernel_rfl
 liesBuilder:=by kernel_rfl
 t5:=Tryz.underlying5
 a5:=Tryz.isAgg5
 z5:=Tryz.sizeOf5
 v5:=Tryz.zeroValue5
 infoByte:=by kernel_rfl
 cellsByte:=by kernel_rfl
 sizeByte:=by kernel_rfl
 neB5:=by decide
theorem Fl (s p:List UInt8):Sp Tryz.prog gl 156 [.str s,.str p] (.tup [.str (Lib.trimPrefix s p),.bool (Lib.hasPrefix s p)]):=
 A3 Ib (by kernel_rfl) (by kernel_rfl) s p
theorem nr (s:List UInt8) (hs:s.length<=1000000):Sp Tryz.prog gl 99 [.str s,.str [48,49,50,51,52,53,54,55,56,57]] (.str (Lib.trimS s [48,49,50,51,52,53,54,55,56,57])):=by
 refine mU An.f160 (by kernel_rfl) (by kernel_rfl) ?_;intro S gb w vs hvs hag;simp only[aa] at hvs;obtain ⟨v1,_,rfl,p1,v2,_,rfl,p2,rfl⟩:=hvs;simp only[PR] at p1 p2;subst p1;subst p2;refine (Any.strings_Trim_laid An (by kernel_rfl) ⟨s.toArray⟩ ⟨[48,49,50,51,52,53,54,55,56,57].toArray⟩ w (by simp only[ByteArray.size,List.size_toArray];omega) (by decide) (ascii_of_all (by decide))).mono ?_;rintro e w' ⟨rfl,h⟩;exact ⟨_,rfl,h,by simp only[PR]⟩
set_option maxRecDepth 100000 in
theorem M4 (b:UInt8):([48,49,50,51,52,53,54,55,56,57]:List UInt8).contains b=aV b:=by
 have h: ∀n:Fin 256,([48,49,50,51,52,53,54,55,56,57]:List UInt8).contains (UInt8.ofNat n.1)=decide (48<=n.1/\n.1<=57):=by decide
 have h2:=h ⟨b.toNat,b.toNat_lt⟩;rw[UInt8.ofNat_toNat] at h2;exact h2
theorem xp {α:Type} (p:α->Bool): ∀l:List α,l.dropWhile p=[]↔l.all p=true
 |[]=>by simp
 |a::l=>by
  have ih:=xp p l;rw[List.dropWhile_cons,List.all_cons];cases h:p a
  ·simp
  ·simpa using ih
theorem pQ (s:List UInt8):(Lib.trimS s [48,49,50,51,52,53,54,55,56,57]==[])=s.all aV:=by
 have e:(fun b:UInt8=>([48,49,50,51,52,53,54,55,56,57]:List UInt8).contains b)=aV:=funext M4;unfold Lib.trimS Lib.trimLeftS Lib.trimRightS;rw[e,Bool.eq_iff_iff,cI,xp,List.all_reverse];constructor
 ·intro h;have h2:s.reverse.dropWhile aV=[]:=by
   cases g:s.reverse.dropWhile aV with
   |nil=>rfl
   |cons a t=>
    have ha:aV a=false:=by
     have:=List.head?_dropWhile_not aV s.reverse
     rw[g] at this;simpa using this
    rw[g,List.all_cons,ha] at h;cases h
  rw[xp,List.all_reverse] at h2;exact h2
 ·intro h;rw[<-List.all_reverse,<-xp] at h;rw[h];rfl
def dN:Ren:={
 f:=fun x=>match x with
  |219=>148
  |217=>165
  |225=>166
  |224=>167
  |267=>168
  |266=>182
  |314=>183
  |n=>n
 t:=fun x=>match x with
  |9=>9
  |3=>3
  |4=>4
  |5=>5
  |46=>208
  |146=>245
  |51=>50
  |n=>n
 g:=fun x=>match x with
  |1=>2
  |n=>n}
set_option maxRecDepth 100000 in
theorem Lf:Lays.n219 Tryz.prog dN where
 mixed:=by kernel_rfl
 f217:=Eq.trans Tryz.func165 (congrArg some (show Tryz.f165=Body.n217 dN by kernel_rfl))
 f219:=Eq.trans Tryz.func148 (congrArg some (show Tryz.f148=Body.n219 dN by kernel_rfl))
 f224:=Eq.trans Tryz.func167 (congrArg some (show Tryz.f167=Body.n224 dN by kernel_rfl))
 f225:=Eq.trans Tryz.func166 (congrArg some (show Tryz.f166=Body.n225 dN by kernel_rfl))
 f266:=Eq.trans Tryz.func182 (congrArg some (show Tryz.f182=Body.n266 dN by kernel_rfl))
 f267:=Eq.trans Tryz.func168 (congrArg some (show Tryz.f168=Body.n267 dN by kernel_rfl))
 f314:=Eq.trans Tryz.func183 (congrArg some (show Tryz.f183=Body.n314 dN by kernel_rfl))
 t3:=Tryz.underlying3
 a3:=Tryz.isAgg3
 z3:=Tryz.sizeOf3
 v3:=Tryz.zeroValue3
 t4:=Tryz.underlying4
 a4:=Tryz.isAgg4
 z4:=Tryz.sizeOf4
 v4:=Tryz.zeroValue4
 t5:=Tryz.underlying5
 a5:=Tryz.isAgg5
 z5:=Tryz.sizeOf5
 v5:=Tryz.zeroValue5
 t9:=Tryz.underlying9
 a9:=Tryz.isAgg9
 z9:=Tryz.sizeOf9
 v9:=Tryz.zeroValue9
 t46:=Tryz.underlying208
 a46:=Tryz.isAgg208
 z46:=Tryz.sizeOf208
 v46:=Tryz.zeroValue208
 t51:=Tryz.underlying50
 a51:=Tryz.isAgg50
 z51:=Tryz.sizeOf50
 v51:=Tryz.zeroValue50
 t146:=Tryz.underlying245
 a146:=Tryz.isAgg245
 z146:=Tryz.sizeOf245
 v146:=Tryz.zeroValue245
 g1:=by kernel_rfl
theorem oP (c:UInt8): ∀(a:List UInt8),(∀b∈a,b≠c)->Lib.indexByte a c= -1
 |[],_=>rfl
 |b::r,h=>by
  have hb:b≠c:=h b (by simp);rw[Lib.indexByte,oP c r (fun x hx=>h x (by simp[hx]))];simp[hb]
theorem Ao (c:UInt8): ∀(a r:List UInt8),(∀b∈a,b≠c)->Lib.indexByte (a++c::r) c=(a.length:Int)
 |[],r,_=>by simp[Lib.indexByte]
 |b::a,r,h=>by
  have hb:b≠c:=h b (by simp);have ih:=Ao c a r (fun x hx=>h x (by simp[hx]));rw[cB,Lib.indexByte,ih];have h1:((a.length:Int)== -1)=false:=by rw[cH];omega
  simp[hb,h1]
theorem OX (c:UInt8): ∀(s:List UInt8),(∀b∈s,b≠c)\/ ∃a r,s=a++c::r/\ ∀b∈a,b≠c
 |[]=> .inl (by simp)
 |b::s=>by
  by_cases hb:b=c
  ·subst hb;exact .inr ⟨[],s,rfl,by simp⟩
  ·rcases OX c s with h|⟨a,r,rfl,h⟩
   ·left;intro x hx;rcases nH.1 hx with rfl|hx
    ·exact hb
    ·exact h x hx
   ·right;refine ⟨b::a,r,rfl,fun x hx=>?_⟩;rcases nH.1 hx with rfl|hx
    ·exact hb
    ·exact h x hx
theorem I1 {p:UInt8->Bool}: ∀ {a:List UInt8},(∀b∈a,p b=true)->a.takeWhile p=a
 |[],_=>rfl
 |b::a,h=>by
  rw[List.takeWhile_cons,if_pos (h b (by simp)),I1 (fun x hx=>h x (by simp[hx]))]
theorem I3 {p:UInt8->Bool} {c:UInt8} (hc:p c=false): ∀ {a r:List UInt8},(∀b∈a,p b=true)->(a++c::r).takeWhile p=a
 |[],r,_=>by simp[hc]
 |b::a,r,h=>by
  rw[cB,List.takeWhile_cons,if_pos (h b (by simp)),I3 hc (fun x hx=>h x (by simp[hx]))]
def eG (s:List UInt8):Nat×Bool:=
 if ci s=true then (if 3<(ay s 0).length then (101,true) else (min (xo (ay s 0) s.length).1 101,(xo (ay s 0) s.length).2)) else (0,false)
theorem ti (s:List UInt8) (hl:s.length<=1000000):Sp Tryz.prog gl 128 [.str s] (.tup [.int .u32 (eG s).1,.bool (eG s).2]):=by
 refine QH rfl rfl ?_;have TR:=nr s hl;have TN:=pQ s;have RC:=Ak s hl;have PN:=oO s hl s.length hl;unfold eG;generalize (ay s 0).length=rc,xo (ay s 0) s.length=q at*;obtain ⟨n,o⟩:=q;dsimp only at PN ⊢;generalize Lib.trimS s [48,49,50,51,52,53,54,55,56,57]=tr at*;by_cases e:s=[]
 ·subst e;clear PN TN TR RC;rw[if_neg (by decide)];simp[AM]
 have en:(s==[])=false:=cH.2 e;have g0:0<s.length:=Jz.2 e;have hh:s.headD 0=s[0]:=by
  cases s with
  |nil=>exact absurd rfl e
  |cons a t=>rfl
 have ie:s.isEmpty=false:=by rw[List.isEmpty_eq_false_iff];exact e
 have O7:s[0]=48↔(s[0].toNat:Int)=48:=by
  constructor
  ·intro h;rw[h];rfl
  ·intro h;exact Nq.1 (by show s[0].toNat=48;omega)
 have od:ci s=(s.all aV&&(s[0]!=48||s.length==1)):=by
  unfold ci;rw[ie,hh];rfl
 rw[od,<-TN];clear TN od hh ie;by_cases c1:(s[0].toNat:Int)=48
 ·have e1:(s[0]!=48)=false:=by rw[bne_eq_false_iff_eq];exact O7.2 c1
  rw[e1,Bool.false_or];by_cases c2:1<s.length
  ·have c2':(1:Int)<s.length:=by omega
   rw[show (s.length==1)=false by rw[cH];omega,Bool.and_false,if_neg (by decide)];clear PN TR RC;simp[AM,e,en,g0,c1,c2,c2']
  ·have c2': ¬(1:Int)<s.length:=by omega
   rw[show (s.length==1)=true by rw[cI];omega,Bool.and_true];cases ht:(tr==[])
   ·have ht1:(tr !=[])=true:=by unfold bne;rw[ht];rfl
    have ht2: ¬tr=[]:=fun h=>by rw[h] at ht;cases ht
    rw[if_neg (by decide)];clear PN RC;simp[AM,e,en,g0,c1,c2,c2'];apply ag TR;simp[ht1,ht2,show tr.isEmpty=false by rw[List.isEmpty_eq_false_iff];exact ht2]
   have ht2:tr=[]:=by simpa using ht
   subst ht2;rw[if_pos rfl];simp[AM,e,en,g0,c1,c2,c2'];apply ag TR;simp;apply ag RC;by_cases cr:3<rc
   ·have cr':(3:Int)<rc:=by omega
    rw[if_pos cr];simp[cr,cr']
   have cr': ¬(3:Int)<rc:=by omega
   rw[if_neg cr];simp[cr,cr'];apply ag PN;have cm:((min n 101:Nat):Int)=(if 101<(n:Int) then 101 else (n:Int)):=by split<;>omega
   simp[cm]
 ·have e1:(s[0]!=48)=true:=by rw[bne_iff_ne];exact fun h=>c1 (O7.1 h)
  have c1':((s[0].toNat:Int)==48)=false:=cH.2 c1;rw[e1,Bool.true_or,Bool.and_true];cases ht:(tr==[])
  ·have ht1:(tr !=[])=true:=by unfold bne;rw[ht];rfl
   have ht2: ¬tr=[]:=fun h=>by rw[h] at ht;cases ht
   rw[if_neg (by decide)];clear PN RC;simp[AM,e,en,g0,c1,c1'];apply ag TR;simp[ht1,ht2,show tr.isEmpty=false by rw[List.isEmpty_eq_false_iff];exact ht2]
  have ht2:tr=[]:=by simpa using ht
  subst ht2;rw[if_pos rfl];simp[AM,e,en,g0,c1,c1'];apply ag TR;simp;apply ag RC;by_cases cr:3<rc
  ·have cr':(3:Int)<rc:=by omega
   rw[if_pos cr];simp[cr,cr']
  have cr': ¬(3:Int)<rc:=by omega
  rw[if_neg cr];simp[cr,cr'];apply ag PN;have cm:((min n 101:Nat):Int)=(if 101<(n:Int) then 101 else (n:Int)):=by split<;>omega
  simp[cm]
end Go.Ai
