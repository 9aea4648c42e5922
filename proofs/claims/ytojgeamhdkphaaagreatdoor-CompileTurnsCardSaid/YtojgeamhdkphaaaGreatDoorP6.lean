/- P6: a part of the proof. Conditions: as each theorem says. -/
import Derived.Test.YtojgeamhdkphaaaGreatDoorP5
import Derived.Laws.Externs
set_option linter.unusedSimpArgs false
set_option linter.unusedVariables false
set_option maxRecDepth 20000
namespace Go.Ai
open Go.Proofs Go.RowKit
theorem sZ (x y c:Nat) (hc:c<=1):Sp Tryz.prog gl 151 [u x,u y,u c] (.tup [u ((x+y+c)%18446744073709551616),u ((x+y+c) / 18446744073709551616)]):=by
 refine xN (fn:=Tryz.f151) (e:=add64Entry) Tryz.func151 (by kernel_rfl) (by kernel_rfl) (by kernel_rfl) (by kernel_rfl) ?_;intro S gb w vs h;simp only[aa,PR] at h;obtain ⟨_,_,rfl,rfl,_,_,rfl,rfl,_,_,rfl,rfl,rfl⟩:=h;refine ⟨_,run_add64 x y c (by omega) (by omega) (by omega) (by omega) w,?_⟩;simp only[PR];refine ⟨_,rfl,?_⟩;simp only[aa,PR];exact ⟨_,_,rfl,by congr 1,_,_,rfl,by congr 1,rfl⟩
theorem pO (a b:Nat) (ha:a<340282366920938463463374607431768211456) (hb:b<340282366920938463463374607431768211456):
  Sp Tryz.prog gl 132 [wide a,wide b] (if a+b<340282366920938463463374607431768211456 then .tup [wide (a+b),i6 0] else .tup [wide 0,i6 3]):=by
 have A1:=sZ (a%18446744073709551616) (b%18446744073709551616) 0 (by omega);have A2:=sZ (a / 18446744073709551616) (b / 18446744073709551616) ((a%18446744073709551616+b%18446744073709551616) / 18446744073709551616) (by omega);simp only[tF] at A1;obtain ⟨up,hup⟩: ∃up,up=(a%18446744073709551616+b%18446744073709551616) / 18446744073709551616:=⟨_,rfl⟩;obtain ⟨lo,hlo⟩: ∃lo,lo=(a%18446744073709551616+b%18446744073709551616)%18446744073709551616:=⟨_,rfl⟩;rw[<-hup,<-hlo] at A1;rw[<-hup] at A2;obtain ⟨ov,hov⟩: ∃ov,ov=(a / 18446744073709551616+b / 18446744073709551616+up) / 18446744073709551616:=⟨_,rfl⟩;obtain ⟨hi,hhi⟩: ∃hi,hi=(a / 18446744073709551616+b / 18446744073709551616+up)%18446744073709551616:=⟨_,rfl⟩;rw[<-hov,<-hhi] at A2;refine QL rfl rfl ?_;simp[NV,wide];refine bK _ A1 ?_;simp;refine bK _ A2 ?_;by_cases h:a+b<340282366920938463463374607431768211456
 ·have e1:ov=0:=by omega
  have e2:(a+b) / 18446744073709551616=hi:=by omega
  have e3:(a+b)%18446744073709551616=lo:=by omega
  rw[if_pos h,e2,e3,e1];clear hup hlo hov hhi e2 e3;simp
 ·have e1:ov=1:=by omega
  rw[if_neg h,e1];clear hup hlo hov hhi;simp
theorem B6 (a n:Nat) (ha:a<340282366920938463463374607431768211456) (hn:n<18446744073709551616):
  Sp Tryz.prog gl 144 [wide a,u n] (if a*n<340282366920938463463374607431768211456 then .tup [wide (a*n),i6 0] else .tup [wide 0,i6 3]):=by
 obtain ⟨H,hH⟩: ∃H,H=a / 18446744073709551616:=⟨_,rfl⟩;obtain ⟨L,hL⟩: ∃L,L=a%18446744073709551616:=⟨_,rfl⟩;have hH2:H<18446744073709551616:=by omega
 have hL2:L<18446744073709551616:=by omega
 have T1:=na L n hL2 hn;have T2:=na H n hH2 hn;have e1:a*n=H*n*18446744073709551616+L*n:=by
  have:=Nat.div_add_mod a 18446744073709551616
  rw[<-hH,<-hL] at this;rw[<-this,Nat.add_mul,Nr 18446744073709551616 H,Nat.mul_right_comm]
 have b1:L*n<=18446744073709551615*18446744073709551615:=Nat.mul_le_mul (by omega) (by omega);have b2:H*n<=18446744073709551615*18446744073709551615:=Nat.mul_le_mul (by omega) (by omega);rw[e1];clear e1;generalize H*n=X,L*n=Y at*;have A:=pO Y (X%18446744073709551616*18446744073709551616) (by omega) (by omega);obtain ⟨X1,hX1⟩: ∃X1,X1=X / 18446744073709551616:=⟨_,rfl⟩;obtain ⟨X0,hX0⟩: ∃X0,X0=X%18446744073709551616:=⟨_,rfl⟩;simp only[wide,<-hX1,<-hX0] at T2;rw[<-hX0] at A;have w0:wide (X0*18446744073709551616)= .agg [u X0,u 0]:=by unfold wide;rw[Nat.mul_div_cancel _ (by decide),Nat.mul_mod_left]
 rw[w0] at A;simp only[wide] at T1 A;rw[show Y+X0*18446744073709551616=X0*18446744073709551616+Y by omega] at A;refine QQ rfl rfl ?_;simp[NZ,wide];rw[<-hH,<-hL];refine bK _ T1 ?_;simp;refine bK _ T2 ?_;by_cases h:X1=0
 ·have e2:X0=X:=by omega
  rw[e2] at A ⊢;rw[h];clear hX1 hX0 e2 w0 hH hL;simp;refine bK _ A ?_;by_cases h2:X*18446744073709551616+Y<340282366920938463463374607431768211456
  ·rw[if_pos h2,if_pos h2];simp
  ·rw[if_neg h2,if_neg h2];simp
 ·have h2: ¬(X*18446744073709551616+Y<340282366920938463463374607431768211456):=by omega
  have h3:((X1:Int)!=0)=true:=by simp[h]
  rw[if_neg h2];clear hX1 hX0 w0 hH hL h2 A T2 T1;simp[h3]
abbrev u32 (n:Nat):AV:= .int .u32 n
abbrev cnt (g n:Nat):AV:= .agg [u g,u n]

def ig (s:List UInt8):Nat×Nat:=if ci s then (if aU s<340282366920938463463374607431768211456 then (aU s,0) else (0,3)) else (0,5)
theorem B7 (s:List UInt8) (i:Nat) (h:i<s.length):aU (s.take (i+1))=10*aU (s.take i)+((s[i]).toNat - 48):=by
 rw[Jo h,k7]
theorem IP (s:List UInt8) (i:Nat) (h:i<s.length) (hd:aV s[i]=true) (ha:(s.take i).all aV=true):(s.take (i+1)).all aV=true:=by
 rw[Jo h,List.all_append,ha];simpa using hd
theorem Fj {s:List UInt8} (h:ci s=false):ig s=(0,5):=by unfold ig;rw[h];rfl
theorem K8 {s:List UInt8} {i:Nat} (h:i<s.length) (hd:aV s[i]=false):ci s=false:=by
 unfold ci
 have:s.all aV=false:=by
  rw[Q7];intro h2;rw[ik] at h2
  have:=h2 s[i] (xz h)
  rw[hd] at this;cases this
 rw[this];simp
theorem IQ (s:List UInt8) (i:Nat) (h:i<s.length):(ByteArray.mk s.toArray).get! (i+0)=s[i]:=by
 show (ByteArray.mk s.toArray).get! i=_;simp[ByteArray.get!,getElem!_pos,h]
theorem DK {s:List UInt8} {i:Nat} (h:i<s.length) (hb:s[i].toNat<128):dW s i=((s[i].toNat:Int),1):=by
 unfold dW Utf8.decode;simp only[IQ s i h,hb,if_true]
theorem K9 {s:List UInt8} {i:Nat} (h:i<s.length) (hb: ¬s[i].toNat<128):128<=(dW s i).1:=by
 unfold dW Utf8.decode;simp only[IQ s i h,hb,if_false,Utf8.runeError];generalize (ByteArray.mk s.toArray).get! (i+1)=x1;generalize (ByteArray.mk s.toArray).get! (i+2)=x2;generalize (ByteArray.mk s.toArray).get! (i+3)=x3;generalize (s[i]).toNat=b at*;split
 ·split
  ·simp only[];omega
  ·simp only[];omega
 ·split
  ·split
   ·rename_i h2;simp only[aJ,qu] at h2;simp only[];omega
   ·simp only[];omega
  ·split
   ·split
    ·rename_i h2;simp only[aJ,qu] at h2;simp only[];omega
    ·simp only[];omega
   ·simp only[];omega
theorem xe (s:List UInt8) (hl:s.length<=1000000):Sp Tryz.prog gl 143 [.str s] (.bool (ci s)):=by
 refine QP rfl rfl ?_;have bad: ∀i (h:i<s.length),aV s[i]=false->ci s=false:=fun i h=>K8 h
 have bad0:s.headD 0=48->1<s.length->ci s=false:=by
  intro h1 h2;unfold ci;rw[h1]
  have:(s.length==1)=false:=by simp;omega
  rw[this];simp
 have good:s≠[]->s.all aV=true->(s.headD 0=48->s.length=1)->ci s=true:=by
  intro h1 h2 h3;unfold ci;rw[h2];by_cases hx:s.headD 0=48
  ·simp[h1,h3 hx]
  ·have:(s.headD 0 !=48)=true:=by simp only[bne_iff_ne,ne_eq];exact hx
   rw[this];simp[h1]
 have hnil:s=[]->ci s=false:=by rintro rfl;rfl
 have h1000:s.headD 0=(s[0]?).getD 0:=by cases s<;>rfl
 generalize ci s=R at*;simp[NY];refine cP (α:=Nat) (fun i=>⟨[(0,.str s),(6,.itp 6)],[(.it 6,[.itr s i])],[]⟩)
  (fun i=>i<=s.length/\(s.take i).all aV=true/\(1<=i->s.headD 0=48->s.length=1)) (fun i=>s.length - i) ?_ 0 ?_ ?_
 ·rintro K i hK ⟨h1,h3,h4⟩;by_cases g:i<s.length
  ·have fin:aV s[i]=true->(i=0->s[i]=48->s.length=1)-> ∀σ',il σ' ⟨[(0,.str s),(6,.itp 6)],[(.it 6,[.itr s (i+1)])],[]⟩->K σ':=
    fun hd h5 σ' hσ=>hK (i+1) σ' ⟨by omega,IP s i g hd h3,fun _ hh=>by
     by_cases hi:i=0
     ·subst hi;refine h5 rfl ?_;rw[h1000,uk g] at hh;simpa using hh
     ·exact h4 (by omega) hh⟩ (by omega) hσ
   have bad:=bad i g;have rlo:=DK g;have rhi:=K9 g;have bad0':i=0->s[i]=48->1<s.length->R=false:=by
    rintro rfl h5 h6;refine bad0 ?_ h6;rw[h1000,uk g,h5];rfl
   obtain ⟨x,hsx⟩: ∃x,s[i]=x:=⟨_,rfl⟩;simp only[hsx] at fin bad rlo rhi bad0';clear hK bad0 good hnil h4 h3;by_cases hx:x.toNat<128
   ·have r:=rlo hx;by_cases x1:(x.toNat:Int)<48
    ·have:=bad (by simp only[aV,decide_eq_false_iff_not];omega)
     subst this;simp[g,r,x1]
    ·by_cases x2:(57:Int)<x.toNat
     ·have:=bad (by simp only[aV,decide_eq_false_iff_not];omega)
      subst this;simp[g,r,x1,x2]
     ·have fin:=fin (by simp only[aV,qu];omega);by_cases i0:i=0
      ·subst i0;by_cases x3:x.toNat=48
       ·have x3':x=48:=Nq.1 (by rw[x3];rfl);by_cases l1:1<s.length
        ·have:=bad0' rfl x3' l1
         subst this;have l1':(1:Int)<(s.length:Int):=by omega
         have x3i:(x.toNat:Int)=48:=by omega
         simp[g,r,x1,x2,x3i,l1']
        ·have l1': ¬(1:Int)<(s.length:Int):=by omega
         have x3i:(x.toNat:Int)=48:=by omega
         have fin:=fin (fun _ _=>by omega);clear bad bad0';simp[g,r,x1,x2,x3i,l1'];refine fin _ ?_;apply aC<;>simp
       ·have x3':((x.toNat:Int)==48)=false:=by rw[cH];omega
        have fin:=fin (fun _ h=>absurd (by rw[h];rfl) x3);simp[g,r,x1,x2,x3'];refine fin _ ?_;apply aC<;>simp
      ·have i0':((i:Int)==0)=false:=by rw[cH];omega
       have fin:=fin (fun h=>absurd h i0);simp[g,r,x1,x2,i0'];refine fin _ ?_;apply aC<;>simp
   ·have h128:=rhi hx
    have:=bad (by simp only[aV,decide_eq_false_iff_not];omega)
    subst this;obtain ⟨rr,hrr⟩: ∃rr,(dW s i).1=rr:=⟨_,rfl⟩;rw[hrr] at h128;have x1: ¬rr<48:=by omega
    have x2:(57:Int)<rr:=by omega
    simp[g,hrr,x1,x2]
  ·obtain rfl:i=s.length:=by omega
   rw[tJ] at h3;clear hK bad bad0;by_cases hs:s=[]
   ·have:=hnil hs
    subst this;subst hs;simp
   ·have:=good hs h3 (h4 (Jz.2 hs))
    subst this;simp[hs]
 ·simp
 ·apply aC<;>simp
theorem IS {n:Int} (h1: -2147483648<=n) (h2:n<2147483648):IntKind.i32.wrap n=n:=by
 have e1:(2:Int)^32=4294967296:=by decide
 have e2:(2:Int)^(32 - 1)=2147483648:=by decide
 have:IntKind.i32.wrap n=if (true&&decide (n%2^32>=2^(32 - 1)))=true then n%2^32 - 2^32 else n%2^32:=rfl
 rw[this];simp only[e1,e2,nC,qu];split<;>omega
theorem xf (r:List UInt8) (a:Nat):a<=r.foldl (fun a b=>10*a+(b.toNat - 48)) a:=by
 induction r generalizing a with
 |nil=>exact eR _
 |cons x r ih=>simp only[List.foldl_cons];exact mu (by omega) (ih _)
theorem ue (s:List UInt8) (i:Nat):aU (s.take i)<=aU s:=by
 have h:=xf (s.drop i) (aU (s.take i))
 have:aU s=(s.drop i).foldl (fun a b=>10*a+(b.toNat - 48)) (aU (s.take i)):=by
  unfold aU;rw[<-List.foldl_append,F9]
 omega
theorem B8 (s:List UInt8) (hl:s.length<=1000000):Sp Tryz.prog gl 124 [.str s] (.tup [wide (ig s).1,i6 (ig s).2]):=by
 refine QD rfl rfl ?_;have e0:wide 0= .agg [u 0,u 0]:=rfl;have D:=xe s hl;cases hok:ci s with
 |false=>
  rw[hok] at D;rw[Fj hok,e0];simp[L7];refine bK _ D ?_;simp
 |true=>
  rw[hok] at D;have hall:s.all aV=true:=by
   unfold ci at hok;simp only[aJ] at hok;exact hok.1.2
  have res:ig s=if aU s<340282366920938463463374607431768211456 then (aU s,0) else (0,3):=by unfold ig;rw[if_pos hok]
  have rbad: ¬aU s<340282366920938463463374607431768211456->AV.tup [wide (ig s).1,i6 (ig s).2]= .tup [.agg [u 0,u 0],i6 3]:=fun h=>by rw[res,if_neg h,e0];rfl
  have rgood:aU s<340282366920938463463374607431768211456->AV.tup [wide (ig s).1,i6 (ig s).2]= .tup [wide (aU s),i6 0]:=fun h=>by rw[res,if_pos h];rfl
  clear res;generalize AV.tup [wide (ig s).1,i6 (ig s).2]=R at*;simp[L7];refine bK _ D ?_;simp;refine cP (α:=Nat) (fun i=>⟨[(0,.str s),(2,.ptr (.n 2) 0),(4,.ptr (.n 4) 0),(14,.itp 14)],[(.n 2,[u 0,u 0]),(.n 4,[u (aU (s.take i) / 18446744073709551616),u (aU (s.take i)%18446744073709551616)]),(.it 14,[.itr s i])],[]⟩)
   (fun i=>i<=s.length/\aU (s.take i)<340282366920938463463374607431768211456) (fun i=>s.length - i) ?_ 0 ?_ ?_
  ·rintro K i hK ⟨h1,h3⟩;by_cases g:i<s.length
   ·have hd:aV s[i]=true:=ik.1 hall _ (xz g);simp only[aV,qu] at hd;have ut:=B7 s i g;have ul:=ue s (i+1);have r:=DK g (by omega);have fin:aU (s.take (i+1))<340282366920938463463374607431768211456-> ∀σ',il σ' ⟨[(0,.str s),(2,.ptr (.n 2) 0),(4,.ptr (.n 4) 0),(14,.itp 14)],[(.n 2,[u 0,u 0]),(.n 4,[u (aU (s.take (i+1)) / 18446744073709551616),u (aU (s.take (i+1))%18446744073709551616)]),(.it 14,[.itr s (i+1)])],[]⟩->K σ':=
     fun h σ' hσ=>hK (i+1) σ' ⟨by omega,h⟩ (by omega) hσ
    generalize aU (s.take (i+1))=n2,aU (s.take i)=n1 at*;obtain ⟨x,hsx⟩: ∃x,s[i]=x:=⟨_,rfl⟩;simp only[hsx] at hd ut r;obtain ⟨dg,hdg⟩: ∃dg,dg=x.toNat - 48:=⟨_,rfl⟩;rw[<-hdg] at ut;have w1:IntKind.i32.wrap ((x.toNat:Int) - 48)=dg:=by rw[IS]<;>omega
    have w2:IntKind.u64.wrap (dg:Int)=dg:=by rw[fh]<;>omega
    have M:=B6 n1 10 h3 (by omega);clear hK rgood;by_cases o1:n1*10<340282366920938463463374607431768211456
    ·rw[if_pos o1] at M;have A:=pO (n1*10) dg o1 (by omega);have wd:wide dg= .agg [u 0,u dg]:=by unfold wide;rw[Nat.div_eq_of_lt (by omega),DS (by omega)]
     rw[wd] at A;have en:n1*10+dg=n2:=by omega
     rw[en] at A;by_cases o2:n2<340282366920938463463374607431768211456
     ·rw[if_pos o2] at A;have fin:=fin o2;unfold wide at M A;clear ut en ul rbad h3 o1 o2 hdg;generalize n1*10 / 18446744073709551616=a1,n1*10%18446744073709551616=a2,n1 / 18446744073709551616=b1,n1%18446744073709551616=b2,n2 / 18446744073709551616=d1,n2%18446744073709551616=d2 at*;simp[g,r];refine bK _ M ?_;simp;rw[w1,w2];refine bK _ A ?_;simp;refine fin _ ?_;apply aC<;>simp
     ·rw[if_neg o2] at A
      have:=rbad (by omega)
      subst this;unfold wide at M A;clear ut en ul rbad h3 o1 o2 hdg fin;generalize n1*10 / 18446744073709551616=a1,n1*10%18446744073709551616=a2,n1 / 18446744073709551616=b1,n1%18446744073709551616=b2 at*;simp[g,r];refine bK _ M ?_;simp;rw[w1,w2];refine bK _ A ?_;simp
    ·rw[if_neg o1] at M
     have:=rbad (by omega)
     subst this;unfold wide at M;clear ut ul rbad h3 o1 hdg fin;generalize n1 / 18446744073709551616=b1,n1%18446744073709551616=b2 at*;simp[g,r];refine bK _ M ?_;simp
   ·obtain rfl:i=s.length:=by omega
    rw[tJ] at h3 ⊢
    have:=rgood h3
    subst this;unfold wide;clear hK rbad rgood;generalize aU s / 18446744073709551616=a1,aU s%18446744073709551616=a2 at*;simp
  ·simp[aU]
  ·apply aC<;>simp[aU]
def l0 (s:List UInt8):Nat×Int:=if ci s=true then (if aU s<18446744073709551616 then (aU s,0) else (0,8)) else (0,5)
theorem Fk (s:List UInt8):(ci s=false/\ig s=(0,5)/\l0 s=(0,5))\/(ci s=true/\aU s<18446744073709551616/\ig s=(aU s,0)/\l0 s=(aU s,0))\/
  (ci s=true/\18446744073709551616<=aU s/\aU s<340282366920938463463374607431768211456/\ig s=(aU s,0)/\l0 s=(0,8))\/(ig s=(0,3)/\l0 s=(0,8)):=by
 unfold ig l0;by_cases c:ci s=true
 ·by_cases c1:aU s<18446744073709551616
  ·right;left;refine ⟨c,c1,?_,?_⟩
   ·rw[if_pos c,if_pos (by omega)]
   ·rw[if_pos c,if_pos c1]
  ·by_cases c2:aU s<340282366920938463463374607431768211456
   ·right;right;left;refine ⟨c,by omega,c2,?_,?_⟩
    ·rw[if_pos c,if_pos c2]
    ·rw[if_pos c,if_neg c1]
   ·right;right;right;refine ⟨?_,?_⟩
    ·rw[if_pos c,if_neg c2]
    ·rw[if_pos c,if_neg c1]
 ·left;have c':ci s=false:=by simpa using c
  refine ⟨c',?_,?_⟩
  ·rw[if_neg c]
  ·rw[if_neg c]
def La (q:Nat×Int):AV:=if q.2=0 then .ifc 56 (u q.1) else .ifc 37 (i6 q.2)
theorem oL (s:List UInt8) (hl:s.length<=1000000):Sp Tryz.prog gl 100 [.str s] (La (l0 s)):=by
 refine Qv rfl rfl ?_;have R:=B8 s hl;unfold La;rcases Fk s with ⟨_,h1,h2⟩|⟨_,h0,h1,h2⟩|⟨_,h0,h3,h1,h2⟩|⟨h1,h2⟩
 ·rw[h1] at R;rw[h2,if_neg (by decide)];unfold wide at R;simp[F6];apply ag R;simp
 ·rw[h1] at R;rw[h2,if_pos rfl];unfold wide at R;have e1:aU s / 18446744073709551616=0:=Nat.div_eq_of_lt h0;have e2:aU s%18446744073709551616=aU s:=DS h0;simp only[e1,e2] at R;generalize aU s=n at*;simp[F6];apply ag R;simp
 ·rw[h1] at R;rw[h2,if_neg (by decide)];unfold wide at R;obtain ⟨hi,e1⟩: ∃hi,hi=aU s / 18446744073709551616:=⟨_,rfl⟩;have e2:0<hi:=by omega
  have e2':(0:Int)<hi:=by omega
  dsimp only at R;rw[<-e1] at R;generalize aU s%18446744073709551616=lo at*;clear e1 h0 h3 h1 h2;simp[F6];apply ag R;simp[e2,e2']
 ·rw[h1] at R;rw[h2,if_neg (by decide)];unfold wide at R;simp[F6];apply ag R;simp
def ck (k:Int) (q:Nat×Int):TV:=if q.2=0 then .t k [] q.1 else .e q.2
theorem nq (k:Int) (n:Nat) (e:Int):Sp Tryz.prog gl 101 [i6 k,u n,i6 e] (ck k (n,e)).av:=by
 refine Qw rfl rfl ?_;unfold ck;by_cases c:e=0
 ·subst c;rw[if_pos rfl];unfold TV.av;simp[L4]
 ·have c1:(e !=0)=true:=bne_iff_ne.2 c;have c2:(e==0)=false:=cH.2 c;rw[if_neg c];unfold TV.av;simp[L4,c1,c2,c]
def oM (s:List UInt8):Bool:=s.all aV&&decide (0<s.length)
def bM (r:Int):Nat:=if r=119 then 604800 else if r=100 then 86400 else if r=104 then 3600 else if r=109 then 60 else if r=115 then 1 else 0
theorem IV (r:Int):bM r<=604800:=by
 unfold bM;repeat' split
 all_goals omega
theorem B9 (r:Int):Sp Tryz.prog gl 155 [i3 r] (i6 (bM r)):=by
 refine QZ rfl rfl ?_;unfold bM;have ne: ∀z:Int,¬r=z->(r==z)=false:=fun z h=>cH.2 h
 by_cases c1:r=119
 ·subst c1;simp[AN]
 rw[if_neg c1];by_cases c2:r=100
 ·subst c2;simp[AN]
 rw[if_neg c2];by_cases c3:r=104
 ·subst c3;simp[AN]
 rw[if_neg c3];by_cases c4:r=109
 ·subst c4;simp[AN]
 rw[if_neg c4];by_cases c5:r=115
 ·subst c5;simp[AN]
 rw[if_neg c5];simp[AN,c1,c2,c3,c4,c5,ne _ c1,ne _ c2,ne _ c3,ne _ c4,ne _ c5]
def FY:List UInt8->Bool->Nat->Nat->Nat->Bool->Nat×Int
 |[],dg,n,la,sm,fr=>if dg=true then (0,5) else if fr=true then (0,8) else (sm,0)
 |c::l,dg,n,la,sm,fr=>
  if aV c=true then FY l true (if n<=253402300799 then 10*n+(c.toNat - 48) else n) la sm fr
  else if dg=false\/bM c.toNat=0\/la<=bM c.toNat then (0,5)
  else if 253402300799 / bM c.toNat<n then FY l false 0 (bM c.toNat) sm true
  else if 253402300799<sm+n*bM c.toNat then FY l false 0 (bM c.toNat) 0 true
  else FY l false 0 (bM c.toNat) (sm+n*bM c.toNat) fr
def Ah (s:List UInt8):Nat×Int:=if s=[] then (0,5) else FY s false 0 1000000 0 false
end Go.Ai
