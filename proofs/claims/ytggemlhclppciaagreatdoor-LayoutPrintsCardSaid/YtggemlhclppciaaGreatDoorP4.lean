/- P4: a part of the proof. Conditions: as each theorem says. -/
import Derived.Test.YtggemlhclppciaaGreatDoorP3
import Derived.Laws.Externs
set_option linter.unusedSimpArgs false
set_option linter.unusedVariables false
set_option maxRecDepth 20000
namespace Go.Ai
open Go.Proofs
theorem xr (l:List Bool):val l<2^l.length:=by
 induction l with
 |nil=>simp [val]
 |cons x r ih=>simp only [val,em,EI];cases x<;>simp<;>omega
theorem ja (b:Bool) (n k:Nat):aO (b.toNat+2*n) (k+1)=b::aO n k:=by
 unfold aO;rw [List.range_succ_eq_map,iP,List.map_map];congr 1
 ·cases b<;>simp<;>omega
 ·apply List.map_congr_left;intro i _;simp only [Function.comp,EI];rw [LG (2^i) 2,←Nat.div_div_eq_div_mul]
  have:(b.toNat+2*n) / 2=n:=by cases b<;>simp<;>omega
  rw [this]
theorem lC (b:Bool) (l:List Bool):val (b::l)=b.toNat+2*val l:=by cases b<;>simp [val]
theorem IV (l:List Bool):aO (val l) l.length=l:=by
 induction l with
 |nil=>rfl
 |cons x r ih=>rw [lC,em,ja,ih]
theorem Li {l:List Bool} {n k:Nat} (h1:val l=n) (h2:l.length=k):l=aO n k:=by rw [←h1,←h2,IV]
def gC:List Bool→List Bool→Bool→List Bool
 |[],_,_=>[]
 |x::r,b,c=>((x.toNat+jl b 0+c.toNat)%2==1)::gC r (b.drop 1) (decide (x.toNat<jl b 0+c.toNat))
theorem CJ (a b:List Bool) (c:Bool):(gC a b c).length=a.length:=by
 induction a generalizing b c with
 |nil=>rfl
 |cons x r ih=>simp [gC,ih]
theorem CK (a b:List Bool) (c:Bool) (h:val b+c.toNat≤val a):val (gC a b c)=val a - val b - c.toNat:=by
 induction a generalizing b c with
 |nil=>simp [gC,val] at h ⊢
 |cons x r ih=>
  have e:=jN b 0;rw [A7] at e;have hb:=lA b 0;rw [lC] at h;simp only [gC,lC];generalize jl b 0=y at *
  have hx:x.toNat≤1:=by cases x<;>simp
  have hc:c.toNat≤1:=by cases c<;>simp
  generalize x.toNat=x' at *
  generalize c.toNat=c' at *
  have hd:(decide (x'<y+c')).toNat=if x'<y+c' then 1 else 0:=by split<;>rename_i q<;>simp [q]
  have h1:((x'+y+c')%2==1).toNat=(x'+y+c')%2:=by rcases Nat.mod_two_eq_zero_or_one (x'+y+c') with q|q<;>simp [q]
  rw [ih _ _ (by rw [hd];simp only [mM] at e;split<;>omega),hd,h1];simp only [mM] at e;split<;>omega
theorem Ab (a b:List Bool) (i:Nat) (c:Bool) (h:i<a.length):
  gC (a.drop i) (b.drop i) c=((jl a i+jl b i+c.toNat)%2==1)::gC (a.drop (i+1)) (b.drop (i+1)) (decide (jl a i<jl b i+c.toNat)):=by
 rw [pP h];have e1:(a[i]).toNat=jl a i:=by simp [jl,h];cases a[i]<;>rfl
 have e2:jl (b.drop i) 0=jl b i:=by simp [jl]
 simp only [gC,e1,e2,List.drop_drop]
theorem CL (a b:List Bool) (ha:a.length≤1000000) (hb:b.length≤1000000):Sp Tryz.prog gl 180 [bl a,bl b] (bl (gC a b false)):=by
 refine RZ rfl rfl ?_;simp [OP];refine aP (α:=Nat×List Bool×Bool) (fun x=>⟨[(0,bl a),(1,bl b),(5,bl x.2.1),(6,.int .i64 x.2.2.toNat),(7,.int .i64 x.1)],[],[(.s 5,1)]⟩)
  (fun x=>x.1≤a.length∧x.2.1.length=x.1∧x.2.1++gC (a.drop x.1) (b.drop x.1) x.2.2=gC a b false) (fun x=>a.length - x.1) ?_ (0,[],false) ?_ ?_
 ·rintro K ⟨i,out,c⟩ hK ⟨h1,h0,h2⟩;simp only at h1 h2 h0;by_cases q:i<a.length
  ·have a1:=lA a i;have a2:=lA b i;have hc:c.toNat≤1:=by cases c<;>simp
   have e:=Ab a b i c q;have A1:=lV a i;have A2:=lV b i;generalize hx:jl a i=x at *
   generalize hy:jl b i=y at *
   generalize hz:c.toNat=z at *
   have t1:IntKind.i64.wrap ((x:Int) - y)=x - y:=by rw [aj]<;>omega
   have t2:IntKind.i64.wrap ((x:Int) - y - z)=x - y - z:=by rw [aj]<;>omega
   have t3:IntKind.i64.wrap ((x:Int) - y - z+2)=x - y - z+2:=by rw [aj]<;>omega
   have t4:IntKind.i64.wrap (i+1)=(i+1):=by rw [aj]<;>omega
   have hlim:out.length+1≤l8:=by unfold l8;omega
   have fin: ∀(σ':St),dL σ' ⟨[(0,bl a),(1,bl b),(5,bl (out++[(x+y+z)%2==1])),(6,.int .i64 (decide (x<y+z)).toNat),(7,.int .i64 (i+1:Nat))],[],[(.s 5,1)]⟩→K σ':=
    fun σ' hσ=>hK (i+1,out++[(x+y+z)%2==1],decide (x<y+z)) σ' ⟨by simp only;omega,by simp [h0],by simp only [jq,List.singleton_append];rw [←h2,e]⟩ (by simp only;omega) hσ
   simp [bl,q];refine ay _ A1 ?_;simp;refine ay _ A2 ?_;simp;simp only [t1,t2];by_cases g:x<y+z
   ·have g1:((x:Int) - y - z<0):=by omega
    have b1:(((x:Int) - y - z+2)==1)=((x+y+z)%2==1):=by rw [Bool.eq_iff_iff];simp;omega
    simp [g1];simp only [t3];refine ⟨hlim,by rintro r (⟨-,h⟩|⟨-,h⟩)<;>simp [←h],fin _ ?_⟩;apply ae<;>simp [bl,t4,b1,g]
   ·have g1: ¬((x:Int) - y - z<0):=by omega
    have b1:(((x:Int) - y - z)==1)=((x+y+z)%2==1):=by rw [Bool.eq_iff_iff];simp;omega
    simp [g1];refine ⟨hlim,by rintro r (⟨-,h⟩|⟨-,h⟩)<;>simp [←h],fin _ ?_⟩;apply ae<;>simp [bl,t4,b1,g]
  ·obtain rfl:i=a.length:=by omega
   rw [ui (eI _),gC,nA] at h2;rw [←h2];simp [bl]
 ·simp
 ·apply ae<;>simp [bl]
theorem IW (a b:List Bool) (ha:a.length≤1000000) (hb:b.length≤1000000) (h:val b≤val a):Sp Tryz.prog gl 180 [bl a,bl b] (bl (aO (val a - val b) a.length)):=by
 rw [←Li (by rw [CK _ _ _ (by simpa using h)];simp) (CJ a b false)];exact CL a b ha hb
theorem uK (l:List Bool) (i:Nat) (h:i<l.length):val (l.take (i+1))=val (l.take i)+2^i*(l[i]).toNat:=by
 rw [Dg h,ni,rH,Nat.min_eq_left (by omega)];cases l[i]<;>simp [val]
theorem qw (l:List Bool) (i:Nat):val (l.take i)<2^i:=
 vX (xr _) (Nat.pow_le_pow_right (by omega) (by rw [rH];omega))
theorem Ac (l:List Bool) (i:Nat):val (l.take i)≤val l:=by
 have:l=l.take i++l.drop i:=(EF i l).symm
 rw [this,ni,EF];exact Nat.le_add_right _ _
theorem Ad (i:Nat) (h:i<64):IntKind.u64.wrap (1*2^(min i IntKind.u64.bits))=((2^i:Nat):Int):=by
 rw [show min i IntKind.u64.bits=i by show min i 64=i;omega];have h1:(2:Nat)^i≤2^63:=Nat.pow_le_pow_right (by omega) (by omega);have h2:(2:Nat)^63=9223372036854775808:=rfl;rw [Int.one_mul,show ((2:Int)^i)=((2^i:Nat):Int) by simp];generalize 2^i=x at *
 rw [a6]<;>omega
theorem PM (v i:Nat) (h:64≤i):(v+2^i) / 18446744073709551616=v / 18446744073709551616+2^(i - 64)∧(v+2^i)%18446744073709551616=v%18446744073709551616:=by
 have e:(2:Nat)^i=2^(i - 64)*18446744073709551616:=by
  rw [show (18446744073709551616:Nat)=2^64 from rfl,←Nat.pow_add];congr 1;omega
 rw [e];omega
theorem PQ (v i:Nat) (h:i<64) (hv:v<2^i):(v+2^i) / 18446744073709551616=v / 18446744073709551616∧(v+2^i)%18446744073709551616=v%18446744073709551616+2^i:=by
 have h1:(2:Nat)^i≤2^63:=Nat.pow_le_pow_right (by omega) (by omega);have h2:(2:Nat)^63=9223372036854775808:=rfl;omega
theorem Lj (l:List Bool) (hl:l.length≤1000000):
  Sp Tryz.prog gl 139 [bl l] (if val l<340282366920938463463374607431768211456 then .tup [wide (val l),.bool true] else .tup [wide 0,.bool false]):=by
 refine Rx rfl rfl ?_;obtain ⟨R,hR⟩: ∃R,R=(if val l<340282366920938463463374607431768211456 then AV.tup [wide (val l),.bool true] else .tup [wide 0,.bool false]):=⟨_,rfl⟩;rw [←hR];simp [OH];refine aP (α:=Nat) (fun i=>⟨[(0,bl l),(2,.ptr (.n 2) 0),(4,.ptr (.n 4) 0),(5,i6 i)],[(.n 4,[u (val (l.take i) / 18446744073709551616),u (val (l.take i)%18446744073709551616)]),(.n 2,[u 0,u 0])],[]⟩)
  (fun i=>i≤l.length∧val (l.take i)<340282366920938463463374607431768211456) (fun i=>l.length - i) ?_ 0 ?_ ?_
 ·rintro K i hK ⟨h1,h2⟩;have t1:IntKind.i64.wrap ((i:Int)+1)=i+1:=by rw [aj]<;>omega
  have hv:=qw l i;by_cases g:i<l.length
  ·have e:=uK l i g;have e':=Ac l (i+1);obtain ⟨v,hv'⟩: ∃v,v=val (l.take i):=⟨_,rfl⟩;rw [←hv'] at hv h2 e ⊢;cases hb:l[i]
   ·rw [hb] at e;simp at e;simp [bl,g,hb];refine hK (i+1) _ ⟨by omega,by rw [e];exact h2⟩ (by omega) ?_;apply ae<;>simp [bl,t1,e]
   ·rw [hb] at e;simp at e;by_cases g2:128≤i
    ·have: ¬val l<340282366920938463463374607431768211456:=by
      have h3:(2:Nat)^128≤2^i:=Nat.pow_le_pow_right (by omega) g2;have h4:(2:Nat)^128=340282366920938463463374607431768211456:=rfl;omega
     rw [if_neg this] at hR;subst hR;have g3:(128:Int)≤i:=by omega
     simp [bl,g,hb,g3,wide]
    ·have hlt:val (l.take (i+1))<340282366920938463463374607431768211456:=by
      have h3:=qw l (i+1);have h4:(2:Nat)^(i+1)≤2^128:=Nat.pow_le_pow_right (by omega) (by omega);have h5:(2:Nat)^128=340282366920938463463374607431768211456:=rfl;omega
     have g3: ¬(128:Int)≤i:=by omega
     by_cases g4:64≤i
     ·have g5:(64:Int)≤i:=by omega
      have t2:IntKind.i64.wrap ((i:Int) - 64)=((i - 64:Nat):Int):=by rw [aj]<;>omega
      have t3:IntKind.u64.wrap ((i - 64:Nat):Int)=((i - 64:Nat):Int):=by rw [a6]<;>omega
      have t4:=Ad (i - 64) (by omega);obtain ⟨q1,q2⟩:=PM v i g4;have t5:IntKind.u64.wrap ((v / 18446744073709551616:Nat)+(2^(i - 64):Nat):Int)=((v+2^i) / 18446744073709551616:Nat):=by
       rw [q1];rw [a6]<;>omega
      rw [←e] at t5 q2;obtain ⟨V,hV⟩: ∃V,V=val (l.take (i+1)):=⟨_,rfl⟩;have fin: ∀(σ':St),dL σ' ⟨[(0,bl l),(2,.ptr (.n 2) 0),(4,.ptr (.n 4) 0),(5,i6 (i+1:Nat))],[(.n 4,[u (V / 18446744073709551616),u (V%18446744073709551616)]),(.n 2,[u 0,u 0])],[]⟩→K σ':=
       fun σ' hσ=>hK (i+1) σ' ⟨by omega,hlt⟩ (by omega) (hV▸hσ)
      rw [←hV] at t5 q2;rw [q2] at fin;obtain ⟨A,hA⟩: ∃A,A=v / 18446744073709551616:=⟨_,rfl⟩;obtain ⟨B,hB⟩: ∃B,B=v%18446744073709551616:=⟨_,rfl⟩;obtain ⟨C,hC⟩: ∃C,C=V / 18446744073709551616:=⟨_,rfl⟩;obtain ⟨D,hD⟩: ∃D,D=2^(i - 64):=⟨_,rfl⟩;rw [←hA,←hC,←hD] at t5;rw [←hA,←hB];rw [←hB,←hC] at fin;rw [←hD] at t4;clear hA hB hC hD q1 q2 hV hv' e e' hK h2 hv hR hlt;simp [bl,g,hb,g3,g5];rw [Int.one_mul] at t4;simp only [t2,t3,Int.toNat_natCast];simp;rw [t4,t5];refine fin _ ?_;apply ae<;>simp [bl,t1]
     ·have g5: ¬(64:Int)≤i:=by omega
      have t3:IntKind.u64.wrap (i:Int)=(i:Int):=by rw [a6]<;>omega
      have t4:=Ad i (by omega);obtain ⟨q1,q2⟩:=PQ v i (by omega) hv;have t5:IntKind.u64.wrap ((v%18446744073709551616:Nat)+(2^i:Nat):Int)=((v+2^i)%18446744073709551616:Nat):=by
       rw [q2];rw [a6]<;>omega
      rw [←e] at t5 q1;obtain ⟨V,hV⟩: ∃V,V=val (l.take (i+1)):=⟨_,rfl⟩;have fin: ∀(σ':St),dL σ' ⟨[(0,bl l),(2,.ptr (.n 2) 0),(4,.ptr (.n 4) 0),(5,i6 (i+1:Nat))],[(.n 4,[u (V / 18446744073709551616),u (V%18446744073709551616)]),(.n 2,[u 0,u 0])],[]⟩→K σ':=
       fun σ' hσ=>hK (i+1) σ' ⟨by omega,hlt⟩ (by omega) (hV▸hσ)
      rw [←hV] at t5 q1;rw [q1] at fin;obtain ⟨A,hA⟩: ∃A,A=v / 18446744073709551616:=⟨_,rfl⟩;obtain ⟨B,hB⟩: ∃B,B=v%18446744073709551616:=⟨_,rfl⟩;obtain ⟨C,hC⟩: ∃C,C=V%18446744073709551616:=⟨_,rfl⟩;obtain ⟨D,hD⟩: ∃D,D=2^i:=⟨_,rfl⟩;rw [←hB,←hC,←hD] at t5;rw [←hA,←hB];rw [←hA,←hC] at fin;rw [←hD] at t4;clear hA hB hC hD q1 q2 hV hv' e e' hK h2 hv hR hlt;simp [bl,g,hb,g3,g5];rw [Int.one_mul] at t4;simp only [t3,Int.toNat_natCast];simp;rw [t4,t5];refine fin _ ?_;apply ae<;>simp [bl,t1]
  ·obtain rfl:i=l.length:=by omega
   rw [qJ] at h2 ⊢;rw [if_pos h2] at hR;subst hR;simp [bl,wide]
 ·simp [val]
 ·apply ae<;>simp [bl,val]
open Go.Proofs
theorem Mc {x N q r:Nat} (h:x=N*q+r) (hr:r<N):x / N=q∧x%N=r:=by
 subst h;rw [Nat.mul_add_div (by omega),Nat.mul_add_mod,Nat.div_eq_of_lt hr,nE hr];exact ⟨rfl,rfl⟩
def qc (j:Nat) (B:List Bool):List AV:=(List.replicate j false++B).map AV.bool
theorem En (j:Nat) (B:List Bool):qc (j+1) B=qc j (false::B):=by
 unfold qc;rw [List.replicate_succ',jq];rfl
theorem NZ (j:Nat) (B:List Bool):List.take j (qc (j+1) B)++AV.bool true::List.drop (j+1) (qc (j+1) B)=qc j (true::B):=by
 have h1:List.take j (qc (j+1) B)=(List.replicate j false).map AV.bool:=by
  rw [En];unfold qc;rw [List.map_append,List.take_left' (by simp)]
 have h2:List.drop (j+1) (qc (j+1) B)=B.map AV.bool:=by
  unfold qc;rw [List.map_append,List.drop_left' (by simp)]
 rw [h1,h2];unfold qc;simp
theorem N0 (j:Nat) (B:List Bool):(qc j B).length=j+B.length:=by simp [qc]
theorem CM (q:List Bool):ba (q.map AV.bool)=[]:=by
 induction q with
 |nil=>rfl
 |cons x r ih=>simp [ba,AV.ids,ih]
theorem CN (j:Nat) (B:List Bool):ba (qc j B)=[]:=CM _
theorem Lk (a b:Nat):0≤tC a b↔b≤a:=by
 unfold tC;split
 ·omega
 ·split<;>omega
theorem Ae (a n:List Bool) (ha:a.length≤1000000) (hn:n.length≤1000000) (h0:0<val n):
  Sp Tryz.prog gl 138 [bl a,bl n] (.tup [bl (aO (val a / val n) a.length),bl (aO (val a%val n) a.length)]):=by
 refine Rw rfl rfl ?_;have hlim:a.length≤l8:=by unfold l8;omega
 have t0:IntKind.i64.wrap ((a.length:Int) - 1)=a.length - 1:=by rw [aj]<;>omega
 simp [Mk,bl,hlim];refine aP (α:=Nat) (fun k=>⟨[(0,bl a),(1,bl n),(6,.ms (.n 11) 0 a.length 1),(7,bl (aO (val (a.drop k)%val n) (a.length - k))),(8,i6 ((k:Int) - 1))],
  [(.n 11,qc k (aO (val (a.drop k) / val n) (a.length - k)))],[]⟩) (fun k=>k≤a.length) (fun k=>k) ?_ a.length ?_ ?_
 ·rintro K k hK hk;cases k with
  |zero=>
   have e1:val (a.drop 0)=val a:=by rw [A7]
   rw [e1,Nat.sub_zero];obtain ⟨q,hq⟩: ∃q,q=aO (val a / val n) a.length:=⟨_,rfl⟩;have hql:q.length=a.length:=by rw [hq,eF]
   rw [←hq];obtain ⟨l,hl⟩: ∃l,l=aO (val a%val n) a.length:=⟨_,rfl⟩;rw [←hl];have hqc:qc 0 q=(q.map fun b=>[AV.bool b]).flatten:=by
    have: ∀q:List Bool,q.map AV.bool=(q.map fun b=>[AV.bool b]).flatten:=by
     intro q;induction q with
     |nil=>rfl
     |cons x r ih=>rw [iP,iP,List.flatten_cons,←ih];rfl
    unfold qc;rw [List.replicate_zero,bR];exact this q
   obtain ⟨X,hX⟩: ∃X,X=qc 0 q:=⟨_,rfl⟩;rw [←hX] at hqc ⊢;clear hX hq hl hK e1;simp [bl];refine .inr (.inl ⟨4,.n 11,a.length,1,q.map (fun b=>[AV.bool b]),⟨?_,?_,?_,?_,?_,?_,?_⟩,?_⟩)
   ·simp [lk]
   ·simp [aw,hqc]
   ·rfl
   ·simp [hql]
   ·intro r hr;simp at hr;rcases hr with ⟨-,h⟩|⟨-,h⟩<;>simp [←h]
   ·have: ∀q:List Bool,ba (q.map fun b=>[AV.bool b]).flatten=[]:=by
     intro q;induction q with
     |nil=>rfl
     |cons x r ih=>simp [ba,AV.ids,ih]
    exact this q
   ·simp [ju]
   ·simp [fT,iW,gr,uw,nF,lk,AV.ids,dY,jv]
  |succ j=>
   have hj:j<a.length:=by omega
   have ed:=pP hj;have eV:val (a.drop j)=(a[j]).toNat+2*val (a.drop (j+1)):=by rw [ed,lC]
   have hVl:val (a.drop (j+1))<2^(a.length - (j+1)):=by have:=xr (a.drop (j+1));rwa [uk] at this
   have el:a.length - j=a.length - (j+1)+1:=by omega
   obtain ⟨V,hV⟩: ∃V,V=val (a.drop (j+1)):=⟨_,rfl⟩;obtain ⟨V',hV'⟩: ∃V',V'=val (a.drop j):=⟨_,rfl⟩;rw [←hV] at eV hVl ⊢;rw [←hV'] at eV;have hKj:=fun σ' h=>hK j σ' (by omega) (by omega) h
   simp only [←hV'] at hKj;obtain ⟨N,hN⟩: ∃N,N=val n:=⟨_,rfl⟩;rw [←hN] at h0 hKj ⊢;have dmV:=Nat.div_add_mod V N;have hm:=Nat.mod_lt V h0;obtain ⟨q,hq⟩: ∃q,q=V / N:=⟨_,rfl⟩;obtain ⟨r,hr⟩: ∃r,r=V%N:=⟨_,rfl⟩;have hrV:r≤V:=by rw [hr];exact Nat.mod_le _ _
   rw [←hq,←hr] at dmV;rw [←hr] at hm;rw [←hq,←hr];obtain ⟨m,hm'⟩: ∃m,m=a.length - (j+1):=⟨_,rfl⟩;rw [←hm'] at el hVl ⊢;simp only [el] at hKj;obtain ⟨b,hb⟩: ∃b,b=a[j]:=⟨_,rfl⟩;rw [←hb] at eV;have eL:val (aO r m)=r:=by rw [ku,nE (by omega)]
   have hLl:=eF r m;have hL0:b::aO r m=aO (b.toNat+2*r) (m+1):=(ja b r m).symm;have hB1:true::aO q m=aO (1+2*q) (m+1):=(ja true q m).symm;have hB0:false::aO q m=aO (2*q) (m+1):=by have:=(ja false q m).symm;simpa using this
   obtain ⟨L,hL⟩: ∃L,L=aO r m:=⟨_,rfl⟩;rw [←hL] at eL hLl hL0 ⊢;have eW:val (b::L)=b.toNat+2*r:=by rw [lC,eL]
   have hb1:b.toNat≤1:=by cases b<;>simp
   have C:=oE (b::L) n (by simp;omega) hn;have M:=fun h=>IW (b::L) n (by simp;omega) hn h
   rw [←hN,eW] at C M;have hcc:=Lk (b.toNat+2*r) N;obtain ⟨cc,hc⟩: ∃cc,cc=tC (b.toNat+2*r) N:=⟨_,rfl⟩;rw [←hc] at C hcc;have Bs:=NZ j (aO q m);have Bn:=En j (aO q m);have Bl:=N0 (j+1) (aO q m);rw [eF] at Bl;have Bi:=CN (j+1) (aO q m);have Bi2:=CN j (true::aO q m);rw [←Bs] at Bi2;rw [hB1] at Bs;rw [hB0] at Bn;obtain ⟨X,hX⟩: ∃X,X=qc (j+1) (aO q m):=⟨_,rfl⟩;rw [←hX] at Bs Bn Bl Bi Bi2 ⊢;have e8:((j+1:Nat):Int) - 1=j:=by omega
   have t1:IntKind.i64.wrap ((j:Int) - 1)=j - 1:=by rw [aj]<;>omega
   have hlimL:1+L.length≤l8:=by unfold l8;omega
   have hXl:j+1≤X.length:=by omega
   rw [e8];by_cases g:N≤b.toNat+2*r
   ·have M:=M g;have gc:=hcc.2 g;have key:V' / N=1+2*q∧V'%N=b.toNat+2*r - N:=by
     apply Mc
     ·rw [eV,←dmV,Nat.mul_add,Nat.mul_add,Nat.mul_one,Nat.mul_left_comm N 2 q];omega
     ·omega
    rw [key.1,key.2] at hKj;have eM:(b::L).length=m+1:=by simp [hLl]
    rw [eM] at M;rw [←Bs] at hKj;obtain ⟨L2,hL2⟩: ∃L2,L2=aO (b.toNat+2*r - N) (m+1):=⟨_,rfl⟩;rw [←hL2] at M hKj;clear Bs Bn hcc hX key hL2 hL hq hr hN hV hV' hc hL0 hB1 hB0 eV dmV ed Bl;subst hb;simp [bl,hj];refine ⟨hlimL,by rintro r (⟨-,h⟩|⟨-,h⟩)<;>simp [←h],?_⟩;refine ay _ C ?_;simp [gc];refine ay _ M ?_;simp [hj,hXl];refine hKj _ ?_;apply ae<;>simp [bl,t1,nZ,Bi,Bi2]
   ·have gc: ¬0≤cc:=fun h=>g (hcc.1 h)
    have key:V' / N=2*q∧V'%N=b.toNat+2*r:=by
     apply Mc
     ·rw [eV,←dmV,Nat.mul_add,Nat.mul_left_comm N 2 q];omega
     ·omega
    rw [key.1,key.2,←Bn,←hL0] at hKj;clear Bs Bn hcc hX key hL hq hr hN hV hV' hc hL0 hB1 hB0 eV dmV ed Bl M;subst hb;simp [bl,hj];refine ⟨hlimL,by rintro r (⟨-,h⟩|⟨-,h⟩)<;>simp [←h],?_⟩;refine ay _ C ?_;simp [gc];refine hKj _ ?_;apply ae<;>simp [bl,t1,nZ,Bi,Bi2]
 ·exact eI _
 ·rw [ui (eI _),Nat.sub_self];have e1:aO (val [] / val n) 0=[]:=rfl;have e2:aO (val []%val n) 0=[]:=rfl;rw [e1,e2]
  have:qc a.length []=List.replicate a.length (AV.bool false):=by unfold qc;simp
  have hi:=CN a.length [];rw [this] at hi ⊢;apply ae<;>simp [bl,t0,hi]
open Go.Proofs

open Go.Proofs

section
variable {x:Nat} (hx:x<18446744073709551616)
include hx
set_option linter.unusedSectionVars false
end
end Go.Ai
set_option linter.unusedSectionVars false
namespace Go.Ai
open Go.Proofs
section
variable {Q:AE→St→Prop} {Y s y1 y0 un v v0:Nat}
end

end Go.Ai
set_option linter.unusedSectionVars false
namespace Go.Ai
open Go.Proofs
section
variable {rq rr:Nat}
end
end Go.Ai
namespace Go.Ai
open Go.Proofs Go.RowKit
theorem tF (x y c:Nat) (hc:c≤1):Sp Tryz.prog gl 217 [u x,u y,u c] (.tup [u ((x+y+c)%18446744073709551616),u ((x+y+c) / 18446744073709551616)]):=by
 refine zo (fn:=Tryz.f217) (e:=add64Entry) Tryz.func217 (by kernel_rfl) (by kernel_rfl) (by kernel_rfl) (by kernel_rfl) ?_;intro S gb w vs h;simp only [aa,PR] at h;obtain ⟨_,_,rfl,rfl,_,_,rfl,rfl,_,_,rfl,rfl,rfl⟩:=h;refine ⟨_,run_add64 x y c (by omega) (by omega) (by omega) (by omega) w,?_⟩;simp only [PR];refine ⟨_,rfl,?_⟩;simp only [aa,PR];exact ⟨_,_,rfl,by congr 1,_,_,rfl,by congr 1,rfl⟩
theorem pQ (a b:Nat) (ha:a<340282366920938463463374607431768211456) (hb:b<340282366920938463463374607431768211456):
  Sp Tryz.prog gl 193 [wide a,wide b] (if a+b<340282366920938463463374607431768211456 then .tup [wide (a+b),i6 0] else .tup [wide 0,i6 3]):=by
 have A1:=tF (a%18446744073709551616) (b%18446744073709551616) 0 (by omega);have A2:=tF (a / 18446744073709551616) (b / 18446744073709551616) ((a%18446744073709551616+b%18446744073709551616) / 18446744073709551616) (by omega);simp only [rI] at A1;obtain ⟨up,hup⟩: ∃up,up=(a%18446744073709551616+b%18446744073709551616) / 18446744073709551616:=⟨_,rfl⟩;obtain ⟨lo,hlo⟩: ∃lo,lo=(a%18446744073709551616+b%18446744073709551616)%18446744073709551616:=⟨_,rfl⟩;rw [←hup,←hlo] at A1;rw [←hup] at A2;obtain ⟨ov,hov⟩: ∃ov,ov=(a / 18446744073709551616+b / 18446744073709551616+up) / 18446744073709551616:=⟨_,rfl⟩;obtain ⟨hi,hhi⟩: ∃hi,hi=(a / 18446744073709551616+b / 18446744073709551616+up)%18446744073709551616:=⟨_,rfl⟩;rw [←hov,←hhi] at A2;refine Sb rfl rfl ?_;simp [OV,wide];refine ay _ A1 ?_;simp;refine ay _ A2 ?_;by_cases h:a+b<340282366920938463463374607431768211456
 ·have e1:ov=0:=by omega
  have e2:(a+b) / 18446744073709551616=hi:=by omega
  have e3:(a+b)%18446744073709551616=lo:=by omega
  rw [if_pos h,e2,e3,e1];clear hup hlo hov hhi e2 e3;simp
 ·have e1:ov=1:=by omega
  rw [if_neg h,e1];clear hup hlo hov hhi;simp
theorem CO (a n:Nat) (ha:a<340282366920938463463374607431768211456) (hn:n<18446744073709551616):
  Sp Tryz.prog gl 210 [wide a,u n] (if a*n<340282366920938463463374607431768211456 then .tup [wide (a*n),i6 0] else .tup [wide 0,i6 3]):=by
 obtain ⟨H,hH⟩: ∃H,H=a / 18446744073709551616:=⟨_,rfl⟩;obtain ⟨L,hL⟩: ∃L,L=a%18446744073709551616:=⟨_,rfl⟩;have hH2:H<18446744073709551616:=by omega
 have hL2:L<18446744073709551616:=by omega
 have T1:=mV L n hL2 hn;have T2:=mV H n hH2 hn;have e1:a*n=H*n*18446744073709551616+L*n:=by
  have:=Nat.div_add_mod a 18446744073709551616
  rw [←hH,←hL] at this;rw [←this,Nat.add_mul,LG 18446744073709551616 H,Nat.mul_right_comm]
 have b1:L*n≤18446744073709551615*18446744073709551615:=Nat.mul_le_mul (by omega) (by omega);have b2:H*n≤18446744073709551615*18446744073709551615:=Nat.mul_le_mul (by omega) (by omega);rw [e1];clear e1;generalize H*n=X at *
 generalize L*n=Y at *
 have A:=pQ Y (X%18446744073709551616*18446744073709551616) (by omega) (by omega);obtain ⟨X1,hX1⟩: ∃X1,X1=X / 18446744073709551616:=⟨_,rfl⟩;obtain ⟨X0,hX0⟩: ∃X0,X0=X%18446744073709551616:=⟨_,rfl⟩;simp only [wide,←hX1,←hX0] at T2;rw [←hX0] at A;have w0:wide (X0*18446744073709551616)= .agg [u X0,u 0]:=by unfold wide;rw [Nat.mul_div_cancel _ (by decide),Nat.mul_mod_left]
 rw [w0] at A;simp only [wide] at T1 A;rw [show Y+X0*18446744073709551616=X0*18446744073709551616+Y by omega] at A;refine Sj rfl rfl ?_;simp [O0,wide];rw [←hH,←hL];refine ay _ T1 ?_;simp;refine ay _ T2 ?_;by_cases h:X1=0
 ·have e2:X0=X:=by omega
  rw [e2] at A ⊢;rw [h];clear hX1 hX0 e2 w0 hH hL;simp;refine ay _ A ?_;by_cases h2:X*18446744073709551616+Y<340282366920938463463374607431768211456
  ·rw [if_pos h2,if_pos h2];simp
  ·rw [if_neg h2,if_neg h2];simp
 ·have h2: ¬(X*18446744073709551616+Y<340282366920938463463374607431768211456):=by omega
  have h3:((X1:Int)!=0)=true:=by simp [h]
  rw [if_neg h2];clear hX1 hX0 w0 hH hL h2 A T2 T1;simp [h3]
open Go.Proofs
abbrev u32 (n:Nat):AV:= .int .u32 n
open Go.Proofs
end Go.Ai
namespace Go.Ai
open Go.Proofs
open Go.Proofs
theorem qx (l:List Bool) (hl:l.length≤100000):Sp Tryz.prog gl 103 [bl l] (.str (bg (val l))):=by
 refine Re rfl rfl ?_;have B:=pO 10 (by omega);have e10:wide 10= .agg [u 0,u 10]:=rfl;rw [e10] at B;have v10:val (aO 10 128)=10:=jm 10 (by omega);have l10:(aO 10 128).length=128:=eF _ _;have hlen:(bg (val l)).length≤l.length+1:=cP _ _ (vX (xr l) (qT (Nat.pow_le_pow_left (by omega) _) (Nat.pow_le_pow_right (by omega) (Nat.le_succ _))));obtain ⟨ten,ht⟩: ∃ten,ten=aO 10 128:=⟨_,rfl⟩;rw [←ht] at B v10 l10;clear ht;obtain ⟨R,hR⟩: ∃R,R=bg (val l):=⟨_,rfl⟩;rw [←hR] at hlen ⊢;simp [Oz];refine ay _ B ?_;simp;refine aP (α:=List Bool×List UInt8) (fun x=>⟨[(0,bl x.1),(3,bl ten),(4,.str x.2)],[],[]⟩) (fun x=>x.1.length=l.length∧R=bg (val x.1)++x.2) (fun x=>val x.1) ?_ (l,[]) ?_ ?_
 ·rintro K ⟨l',s⟩ hK ⟨h1,h2⟩;simp only at h1 h2;have hlt:=xr l';have D:=Ae l' ten (by omega) (by omega) (by omega);rw [v10] at D;have q1:val l' / 10≤val l':=Nat.div_le_self _ _;have r1:val l'%10≤val l':=Nat.mod_le _ _;have r2:val l'%10<10:=Nat.mod_lt _ (by omega);have qv:val (aO (val l' / 10) l'.length)=val l' / 10:=by rw [ku,nE (by omega)]
  have rv:val (aO (val l'%10) l'.length)=val l'%10:=by rw [ku,nE (by omega)]
  have ql:=eF (val l' / 10) l'.length;have rl:=eF (val l'%10) l'.length;obtain ⟨q,hq⟩: ∃q,q=aO (val l' / 10) l'.length:=⟨_,rfl⟩;obtain ⟨r,hr⟩: ∃r,r=aO (val l'%10) l'.length:=⟨_,rfl⟩;rw [←hq] at D qv ql;rw [←hr] at D rv rl;have O:=Lj r (by omega);rw [rv,if_pos (by omega)] at O;obtain ⟨d,hd⟩: ∃d,d=val l'%10:=⟨_,rfl⟩;rw [←hd] at O r2;have wd:wide d= .agg [u 0,u d]:=by unfold wide;rw [Nat.div_eq_of_lt (by omega),nE (by omega)]
  rw [wd] at O;have C:=oE q [] (by omega) (by simp);rw [show val []=0 from rfl] at C;have sl:s.length≤100001:=by rw [h2] at hlen;simp at hlen;omega
  have w1:IntKind.u8.wrap (d:Int)=d:=dx (by omega) (by omega);have w2:IntKind.u8.wrap (48+(d:Int))=(48+d:Nat):=by rw [dx]<;>omega
  have tn:(48+(d:Int)).toNat=48+d:=by omega
  have hs1:1+s.length≤9223372036854775807:=by omega
  by_cases g:val l'<10
  ·have q0:val q=0:=by rw [qv];omega
   have c0:tC 0 0=0:=rfl;rw [q0,c0] at C;have eR:R=UInt8.ofNat (48+d)::s:=by rw [h2,fZ g,hd,nE g];rfl
   clear hq hr hd h2 qv rv wd q1 r1 hlt q0 hR hK hlen;subst eR;simp [bl];refine ay _ D ?_;simp [bl];refine ay _ O ?_;simp [fR,fe,w1,w2,hs1];refine ay _ C ?_;simp [tn]
  ·have q0:val q≠0:=by rw [qv];omega
   have c0:tC (val q) 0=1:=by unfold tC;rw [if_neg (by omega),if_neg q0]
   rw [c0] at C;have eR:R=bg (val q)++(UInt8.ofNat (48+d)::s):=by rw [h2,eY g,hd,qv];simp
   have fin: ∀σ',dL σ' ⟨[(0,bl q),(3,bl ten),(4,.str (UInt8.ofNat (48+d)::s))],[],[]⟩→K σ':=
    fun σ' hσ=>hK (q,UInt8.ofNat (48+d)::s) σ' ⟨by simp only;omega,eR⟩ (by simp only;omega) hσ
   clear hq hr hd h2 qv rv wd q1 r1 hlt q0 hR hK hlen eR;simp [bl];refine ay _ D ?_;simp [bl];refine ay _ O ?_;simp [fR,fe,w1,w2,hs1];refine ay _ C ?_;simp;refine fin _ ?_;apply ae<;>simp [bl,tn]
 ·simp [hR]
 ·apply ae<;>simp [bl]
open Go.Proofs
def iM (b:UInt8):AV:= .int .u8 b.toNat
def iS (k:Nat) (s:List UInt8):List AV:=List.replicate k (.int .u8 0)++s.map iM
theorem lD (k:Nat) (s:List UInt8):(iS k s).length=k+s.length:=by simp [iS]
theorem tG (j:Nat) (b:UInt8) (s:List UInt8):List.take j (iS (j+1) s)++iM b::List.drop (j+1) (iS (j+1) s)=iS j (b::s):=by
 have h1:List.take j (iS (j+1) s)=List.replicate j (.int .u8 0):=by
  unfold iS;rw [List.replicate_succ',jq,List.take_left' (by simp)]
 have h2:List.drop (j+1) (iS (j+1) s)=s.map iM:=by unfold iS;rw [List.drop_left' (by simp)]
 rw [h1,h2];rfl
theorem CQ (s:List UInt8):ba (s.map iM)=[]:=by
 induction s with
 |nil=>rfl
 |cons x r ih=>simp [ba,iM,AV.ids,ih]
theorem IY (a b:List AV):ba (a++b)=ba a++ba b:=by
 induction a with
 |nil=>rfl
 |cons x r ih=>simp [ba,ih]
theorem Af (k:Nat) (s:List UInt8):ba (iS k s)=[]:=by
 unfold iS;rw [IY,CQ,nA];induction k with
 |zero=>rfl
 |succ k ih=>simp [List.replicate_succ,ba,AV.ids,ih]
theorem IZ (s:List UInt8):byteCells (s.map iM)=some s:=by
 induction s with
 |nil=>rfl
 |cons x r ih=>simp [byteCells,iM,ih]
theorem vL (k n:Nat) (s:List UInt8) (h:s.length≤n):byteCells (((iS k s).drop k).take n)=some s:=by
 have:(iS k s).drop k=s.map iM:=by unfold iS;rw [List.drop_left' (by simp)]
 rw [this,List.take_of_length_le (by simpa using h),IZ]
end Go.Ai
