/- P3: a part of the proof. Conditions: as each theorem says. -/
import Derived.Test.YtojgeamhdkphaaaGreatDoorP2
set_option linter.unusedSimpArgs false
set_option linter.unusedVariables false
set_option maxRecDepth 20000
namespace Go.Ai
open Go.Proofs
theorem Bu (V:List UInt8->TV) (U:List UInt8->List UInt8×Int) (s:List UInt8) (hU: ∀w,w.length<=s.length->Sp Tryz.prog gl 135 [.str w] (.tup [.str (U w).1,i6 (U w).2])) (hV: ∀w,w.length<=s.length->Sp Tryz.prog gl 85 [.str w] (V w).av)
  (x:Sc) (hl:x.out.length<=800000) (hs:s.length<=1000000) (i:Nat) (h1:x.sa<=i) (h2:i<s.length) (r:Int) (d:Nat) (b:Id) (hb:b.isIt=false) (hbd:b.isNw d=false):
  bh Tryz.prog gl 60 d ⟨[.ptr b 0,i6 i,i3 r],[(b,fU s x)],[(.b b 1,5)]⟩ ⟨.bool (fI V U s x i r).2,[(b,fU s (fI V U s x i r).1)],[(.b b 1,5)]⟩:=by
 refine UD rfl ?_;have hib:=ai hbd;have ne: ∀z:Int,¬r=z->(r==z)=false:=fun z h=>bJ.2 h
 have I:=fun e=>wQ U s hU x (by omega) hs i h1 h2 r e (.up b) hb
 have F:=fun e=>qy s x (by omega) i r e (.up b) hb
 have WI:=oP r;have HV:=hV (eO s x.sa i) (sJ s x.sa i);have h1':(x.sa:Int)<=i:=by omega
 have h2':(i:Int)<=s.length:=by omega
 have h3:i<=s.length:=by omega
 have hss:List.drop x.sa (List.take i s)=eO s x.sa i:=rfl;unfold fI;by_cases c1:x.st=1
 ·rw[if_pos c1];cases hw:sH r
  ·rw[if_neg (by decide)];rw[hw] at WI;have A:=fun e=>jg s x (by omega) (V (eO s x.sa i)) e (.up b) hb
   have ao:=Sc.add_out x (V (eO s x.sa i));have F2:=fun e=>qy s (x.add (V (eO s x.sa i))) (by omega) i r e (.up b) hb
   generalize eO s x.sa i=W at*;cases hk:(V W).ok
   ·rw[if_neg (by decide)];dsimp only;rw[hk] at A;have hsh:eP (V W).av=some (V W).av:=by cases V W<;>rfl
    have hid:(V W).av.ids=[]:=by cases V W<;>rfl
    have hmp: ∀f,(V W).av.mp f=(V W).av:=fun f=>by cases V W<;>rfl
    generalize (V W).av=vv,x.add (V W)=y at*;unfold fU at*;generalize x.out.map Tk.row=L,y.out.map Tk.row=L1 at*;simp only[aw,aW,aO,AV.mp,aX,Pl.mp];simp[II,c1];apply ab WI;simp[h1,h3,h1',h2',hss];apply ab HV;simp[hsh,hid,hmp];refine fA _ _ (A _ rfl) ⟨?_,?_,?_,?_,?_,?_,?_⟩ ⟨?_,?_,?_⟩ ?_;iterate 10 (· simp[Pl.isB,Pl.isF,mT,KF,AV.pid,hb,hid,hmp,c1])
    simp[hid,hmp];apply am<;>simp[hib,hb,hid,hmp]
   ·rw[if_pos rfl];rw[hk] at A;have hsh:eP (V W).av=some (V W).av:=by cases V W<;>rfl
    have hid:(V W).av.ids=[]:=by cases V W<;>rfl
    have hmp: ∀f,(V W).av.mp f=(V W).av:=fun f=>by cases V W<;>rfl
    generalize (V W).av=vv,x.add (V W)=y at*;generalize (fB y i r).2=ok2,(fB y i r).1=y2 at*;unfold fU at*;generalize x.out.map Tk.row=L,y.out.map Tk.row=L1,y2.out.map Tk.row=L2 at*;simp only[aw,aW,aO,AV.mp,aX,Pl.mp];simp[II,c1];apply ab WI;simp[h1,h3,h1',h2',hss];apply ab HV;simp[hsh,hid,hmp];refine fA _ _ (A _ rfl) ⟨?_,?_,?_,?_,?_,?_,?_⟩ ⟨?_,?_,?_⟩ ?_;iterate 10 (· simp[Pl.isB,Pl.isF,mT,KF,AV.pid,hb,hid,hmp,c1])
    simp[hid,hmp];refine fA _ _ (F2 _ rfl) ⟨?_,?_,?_,?_,?_,?_,?_⟩ ⟨?_,?_,?_⟩ ?_;iterate 10 (· simp[Pl.isB,Pl.isF,mT,KF,AV.pid,hb,hid,hmp])
    simp[hid,hmp];apply am<;>simp[hib,hb,hid,hmp]
  ·rw[if_pos rfl];rw[hw] at WI;dsimp only;unfold fU at*;generalize x.out.map Tk.row=L at*;simp only[aw,aW,aO,AV.mp,aX,Pl.mp];simp[II,c1];apply ab WI;simp;apply am<;>simp[hib,hb]
 rw[if_neg c1];have n1:(x.st==1)=false:=bJ.2 c1;by_cases c2:x.st=4
 ·rw[if_pos c2];by_cases c3:r=10
  ·subst c3;rw[if_pos rfl];dsimp only;unfold fU at*;generalize x.out.map Tk.row=L at*;simp only[aw,aW,aO,AV.mp,aX,Pl.mp];simp[II,c2];apply am<;>simp[hib,hb]
  ·rw[if_neg c3];have n3:=ne 10 c3;dsimp only;unfold fU at*;generalize x.out.map Tk.row=L at*;simp only[aw,aW,aO,AV.mp,aX,Pl.mp];simp[II,c2,n3,c3];apply am<;>simp[hib,hb,c2]
 rw[if_neg c2];have n2:(x.st==4)=false:=bJ.2 c2;by_cases c3:x.st=2
 ·rw[if_pos (.inl c3)];generalize (gF U s x i r).2=ok,(gF U s x i r).1=y at*;unfold fU at*;generalize x.out.map Tk.row=L,y.out.map Tk.row=L1 at*;simp only[aw,aW,aO,AV.mp,aX,Pl.mp];simp[II,c3];refine aF _ _ (I _ rfl) (by constructor<;>simp[hb,c3]) ?_
  simp;apply am<;>simp[hib,hb]
 have n3:(x.st==2)=false:=bJ.2 c3;by_cases c4:x.st=3
 ·rw[if_pos (.inr c4)];generalize (gF U s x i r).2=ok,(gF U s x i r).1=y at*;unfold fU at*;generalize x.out.map Tk.row=L,y.out.map Tk.row=L1 at*;simp only[aw,aW,aO,AV.mp,aX,Pl.mp];simp[II,c4];refine aF _ _ (I _ rfl) (by constructor<;>simp[hb,c4]) ?_
  simp;apply am<;>simp[hib,hb]
 have n4:(x.st==3)=false:=bJ.2 c4;rw[if_neg (by omega)];generalize (fB x i r).2=ok,(fB x i r).1=y at*;unfold fU at*;generalize x.out.map Tk.row=L,y.out.map Tk.row=L1 at*;simp only[aw,aW,aO,AV.mp,aX,Pl.mp];simp[II,n1,n2,n3,n4];refine aF _ _ (F _ rfl) (by constructor<;>simp[hb]) ?_
 simp;apply am<;>simp[hib,hb]
open Go.Proofs
theorem Sc.add_keep (x:Sc) (v:TV):(x.add v).al=x.al/\(x.add v).ac=x.ac/\(x.add v).sa=x.sa:=by
 cases v<;>exact ⟨rfl,rfl,rfl⟩
theorem qz (x:Sc) (i:Nat) (r:Int):(fB x i r).1.al=x.al/\(fB x i r).1.ac=x.ac/\(fB x i r).1.sa=i:=by
 unfold fB;dsimp only;repeat' split
 all_goals first|exact ⟨rfl,rfl,rfl⟩|exact Sc.add_keep (x.begin i 0) _
theorem sK (V:List UInt8->TV) (U:List UInt8->List UInt8×Int) (s:List UInt8) (x:Sc) (i:Nat) (r:Int) (h:x.sa<=i):(fI V U s x i r).1.al=x.al/\(fI V U s x i r).1.ac=x.ac/\(fI V U s x i r).1.sa<=i:=by
 unfold fI;by_cases c1:x.st=1
 ·rw[if_pos c1];by_cases c2:sH r=true
  ·rw[if_pos c2];exact ⟨rfl,rfl,h⟩
  ·rw[if_neg c2];have a:=Sc.add_keep x (V (eO s x.sa i));by_cases c3:(V (eO s x.sa i)).ok=true
   ·rw[if_pos c3];have f:=qz (x.add (V (eO s x.sa i))) i r;exact ⟨f.1.trans a.1,f.2.1.trans a.2.1,by omega⟩
   ·rw[if_neg c3];exact ⟨a.1,a.2.1,by dsimp only;omega⟩
 ·rw[if_neg c1];by_cases c2:x.st=4
  ·rw[if_pos c2];dsimp only;split
   ·exact ⟨rfl,rfl,h⟩
   ·exact ⟨rfl,rfl,h⟩
  ·rw[if_neg c2];by_cases c3:x.st=2\/x.st=3
   ·rw[if_pos c3];unfold gF jS;repeat' split
    all_goals first|exact ⟨rfl,rfl,h⟩|exact ⟨(Sc.add_keep x _).1,(Sc.add_keep x _).2.1,by have:=(Sc.add_keep x (zC (U (eO s x.sa (i+1))))).2.2;dsimp only;omega⟩
   ·rw[if_neg c3];have f:=qz x i r;exact ⟨f.1,f.2.1,by omega⟩
def pZ (r:Int):Int:=if r= -1 then 65533 else r
def Sc.adv (x:Sc) (r:Int):Sc:=if r=10 then {x with al:=x.al+1,ac:=1} else {x with ac:=x.ac+1}
def lv (V:List UInt8->TV) (U:List UInt8->List UInt8×Int) (s:List UInt8) (x:Sc) (i:Nat):Sc×Bool:=
 if h:i<s.length then
  if (fI V U s x i (pZ (ax s i).1)).2=true then lv V U s ((fI V U s x i (pZ (ax s i).1)).1.adv (pZ (ax s i).1)) (i+(ax s i).2)
  else ((fI V U s x i (pZ (ax s i).1)).1,false)
 else (x,true)
termination_by s.length - i
decreasing_by have:=cX s i;omega
def C8:Sc:=⟨[],0,0,1,1,1,1,0,0,0⟩
structure TR where
 l:List Tk
 c:Int
 a:Int
 b:Int
def TR.bad (x:Sc):TR:=⟨[],x.cd,x.xl,x.xc⟩
def uT (V:List UInt8->TV) (U:List UInt8->List UInt8×Int) (s:List UInt8):TR:=
 if 40000<s.length then ⟨[],9,1,1⟩
 else if (lv V U s C8 0).2=true then (if (zD V s (lv V U s C8 0).1).2=true then ⟨(zD V s (lv V U s C8 0).1).1.out,0,0,0⟩ else .bad (zD V s (lv V U s C8 0).1).1)
 else .bad (lv V U s C8 0).1
def TR.av (x:TR):AV:= .tup [.sl (x.l.map Tk.row),.agg [i6 x.c,i6 x.a,i6 x.b]]
theorem Eo (V:List UInt8->TV) (s:List UInt8) (hV: ∀w,w.length<=s.length->Sp Tryz.prog gl 85 [.str w] (V w).av)
  (x:Sc) (hl:x.out.length<=800000) (hs:s.length<=1000000) (h1:x.sa<=s.length) (d:Nat) (b:Id) (hb:b.isIt=false) (hbd:b.isNw d=false):
  bh Tryz.prog gl 61 d ⟨[.ptr b 0],[(b,fU s x)],[(.b b 1,5)]⟩ ⟨.bool (zD V s x).2,[(b,fU s (zD V s x).1)],[(.b b 1,5)]⟩:=by
 refine UE rfl ?_;have hib:=ai hbd;have HV:=hV (eO s x.sa s.length) (sJ s x.sa s.length);have h1':(x.sa:Int)<=s.length:=by omega
 have hss:List.drop x.sa s=eO s x.sa s.length:=by unfold eO;rw[pr]
 have hz:(TV.t 0 [] 0).av= .ifc 94 (.agg [.int .i64 0,.str [],.int .u64 0,.int .i64 0,.int .i64 0]):=rfl;have ho:(TV.t 0 [] 0).ok=true:=rfl;have W:=fun e=>gn s x 5 e (.up b) hb
 unfold zD;by_cases c1:x.st=1
 ·rw[if_pos c1];have A:=fun e=>jg s x (by omega) (V (eO s x.sa s.length)) e (.up b) hb
  have ao:=Sc.add_out x (V (eO s x.sa s.length));have B:=fun e=>jQ s (x.add (V (eO s x.sa s.length))) s.length 0 e (.up b) hb
  have A2:=fun e=>jg s ((x.add (V (eO s x.sa s.length))).begin s.length 0) (by rw[Sc.begin_out];omega) (.t 0 [] 0) e (.up b) hb
  rw[hz,ho] at A2;generalize eO s x.sa s.length=W0 at*;cases hk:(V W0).ok
  ·rw[if_neg (by decide)];dsimp only;rw[hk] at A;have hsh:eP (V W0).av=some (V W0).av:=by cases V W0<;>rfl
   have hid:(V W0).av.ids=[]:=by cases V W0<;>rfl
   have hmp: ∀f,(V W0).av.mp f=(V W0).av:=fun f=>by cases V W0<;>rfl
   generalize (V W0).av=vv,x.add (V W0)=y at*;clear B A2;unfold fU at*;generalize x.out.map Tk.row=L,y.out.map Tk.row=L1 at*;simp only[aw,aW,aO,AV.mp,aX,Pl.mp];simp[Mm,c1,h1,h1',hss];apply ab HV;simp[hsh,hid,hmp];refine fA _ _ (A _ rfl) ⟨?_,?_,?_,?_,?_,?_,?_⟩ ⟨?_,?_,?_⟩ ?_;iterate 10 (· simp[Pl.isB,Pl.isF,mT,KF,AV.pid,hb,hid,hmp,c1])
   simp[hid,hmp];apply am<;>simp[hib,hb,hid,hmp]
  ·rw[if_pos rfl];rw[hk] at A;have hsh:eP (V W0).av=some (V W0).av:=by cases V W0<;>rfl
   have hid:(V W0).av.ids=[]:=by cases V W0<;>rfl
   have hmp: ∀f,(V W0).av.mp f=(V W0).av:=fun f=>by cases V W0<;>rfl
   generalize (V W0).av=vv,x.add (V W0)=y at*;generalize y.begin s.length 0=y1 at*;generalize y1.add (.t 0 [] 0)=y2 at*;unfold fU at*;generalize x.out.map Tk.row=L,y.out.map Tk.row=L1,y1.out.map Tk.row=L2,y2.out.map Tk.row=L3 at*;simp only[aw,aW,aO,AV.mp,aX,Pl.mp];simp[Mm,c1,h1,h1',hss];apply ab HV;simp[hsh,hid,hmp];refine fA _ _ (A _ rfl) ⟨?_,?_,?_,?_,?_,?_,?_⟩ ⟨?_,?_,?_⟩ ?_;iterate 10 (· simp[Pl.isB,Pl.isF,mT,KF,AV.pid,hb,hid,hmp,c1])
   simp[hid,hmp];refine aF _ _ (B _ rfl) (by constructor<;>simp[hb,hid,hmp]) ?_
   simp[hid,hmp];refine aF _ _ (A2 _ rfl) (by constructor<;>simp[hb,hid,hmp]) ?_
   simp[hid,hmp];apply am<;>simp[hib,hb,hid,hmp]
 rw[if_neg c1];have n1:(x.st==1)=false:=bJ.2 c1;by_cases c3:x.st=2
 ·rw[if_pos (.inl c3)];dsimp only;generalize x.wrong 5=y at*;unfold fU at*;generalize x.out.map Tk.row=L,y.out.map Tk.row=L1 at*;simp only[aw,aW,aO,AV.mp,aX,Pl.mp];simp[Mm,c3];refine aF _ _ (W _ rfl) (by constructor<;>simp[hb,c3]) ?_
  simp;apply am<;>simp[hib,hb]
 have n3:(x.st==2)=false:=bJ.2 c3;by_cases c4:x.st=3
 ·rw[if_pos (.inr c4)];dsimp only;generalize x.wrong 5=y at*;unfold fU at*;generalize x.out.map Tk.row=L,y.out.map Tk.row=L1 at*;simp only[aw,aW,aO,AV.mp,aX,Pl.mp];simp[Mm,c4];refine aF _ _ (W _ rfl) (by constructor<;>simp[hb,c4]) ?_
  simp;apply am<;>simp[hib,hb]
 have n4:(x.st==3)=false:=bJ.2 c4;rw[if_neg (by omega)];have B:=fun e=>jQ s x s.length 0 e (.up b) hb
 have A2:=fun e=>jg s (x.begin s.length 0) (by rw[Sc.begin_out];omega) (.t 0 [] 0) e (.up b) hb
 rw[hz,ho] at A2;dsimp only;generalize x.begin s.length 0=y1 at*;generalize y1.add (.t 0 [] 0)=y2 at*;clear W;unfold fU at*;generalize x.out.map Tk.row=L,y1.out.map Tk.row=L2,y2.out.map Tk.row=L3 at*;simp only[aw,aW,aO,AV.mp,aX,Pl.mp];simp[Mm,n1,n3,n4];refine aF _ _ (B _ rfl) (by constructor<;>simp[hb]) ?_
 simp;refine aF _ _ (A2 _ rfl) (by constructor<;>simp[hb]) ?_
 simp;apply am<;>simp[hib,hb]
open Go.Proofs
theorem sL: ∀(l:List Int) (n:Nat) (last:Int),24<n+l.length->eH n last l=false
 |[],n,last,h=>by
  simp only[eH];rw[ik (show ¬(0<n/\n<=24) by simp at h;omega)];rfl
 |r::l,n,last,h=>by
  simp only[eH];rw[sL l (n+1) r (by simp at h;omega)];simp
theorem sM (s:List UInt8) (hl:s.length<=900000):Sp Tryz.prog gl 78 [.str s] (.bool (dH s)):=by
 refine UY rfl rfl ?_;have RS:=ny s hl;have rl:=nu s s.length 0 (by omega);obtain ⟨R,hR⟩: ∃R,R=dH s:=⟨_,rfl⟩;rw[<-hR];unfold dH at hR;generalize aC s 0=l at*;have el: ∀l,bP l=l.map fun r=>[i3 r]:=fun _=>rfl
 rw[el] at RS;by_cases h0:l=[]
 ·subst h0;subst hR;simp[ML];refine aZ _ RS ?_;simp[eH]
 ·have hlen:0<l.length:=Ix.2 h0;have b0:((l.length:Int)==0)=false:=by rw[bJ];omega
  by_cases Sa:24<l.length
  ·rw[sL l 0 32 (by omega)] at hR;subst hR;have hI:(24:Int)<l.length:=by omega
   simp[ML];refine aZ _ RS ?_;simp[b0,hI]
  ·have hI: ¬(24:Int)<l.length:=by omega
   have L0:=oB l[0];cases hl0:cC l[0]
   ·rw[hl0] at L0
    have:R=false:=by
     rw[hR];cases l with
     |nil=>exact absurd rfl h0
     |cons r l=>simp only[List.getElem_cons_zero] at hl0;simp[eH,hl0]
    clear hR;subst this;simp[ML];refine aZ _ RS ?_;simp[b0,hI,hlen,h0];refine aZ _ L0 ?_;simp
   ·rw[hl0] at L0;simp[ML];refine aZ _ RS ?_;simp[b0,hI,hlen,h0];refine aZ _ L0 ?_;simp;refine aY (α:=Nat×Int) (fun x=>⟨[(3,.sl (l.map fun r=>[i3 r])),(4,i6 x.1)],[],[]⟩)
     (fun x=>x.1<=l.length/\eH x.1 x.2 (l.drop x.1)=R/\(0<x.1->x.1=l.length->(cC x.2||eu x.2)=true)) (fun x=>l.length - x.1) ?_ (0,32) ?_ ?_
    ·rintro K ⟨i,prev⟩ hK ⟨h1,h2,h3⟩;simp only at h1 h2 h3;by_cases g:i<l.length
     ·have t1:IntKind.i64.wrap ((i:Int)+1)=(i+1:Nat):=by rw[ay]<;>omega
      have t2:IntKind.i64.wrap ((l.length:Int) - 1)=(l.length - 1:Nat):=by rw[ay]<;>omega
      have LI:=oB l[i];rw[rb g] at h2;simp only[eH] at h2;have hz:i=0->cC l[i]=true:=by rintro rfl;exact hl0
      have fin:eH (i+1) l[i] (l.drop (i+1))=R->(i+1=l.length->(cC l[i]||eu l[i])=true)-> ∀σ',fx σ' ⟨[(3,.sl (l.map fun r=>[i3 r])),(4,i6 (i+1:Nat))],[],[]⟩->K σ':=
       fun hh he σ' hσ=>hK (i+1,l[i]) σ' ⟨by simp only;omega,hh,fun _=>he⟩ (by simp only;omega) hσ
      have hend:i+1=l.length->l.drop (i+1)=[]:=fun h=>IP (by omega)
      obtain ⟨r,hr⟩: ∃r,l[i]=r:=⟨_,rfl⟩;rw[hr] at h2 LI hz fin;generalize l.drop (i+1)=l2 at*;clear hK hR L0 RS h3;cases hlt:cC r
      ·rw[hlt] at h2 LI hz;have hi:0<i:=by
        rcases Nat.eq_zero_or_pos i with h|h
        ·have:=hz h;cases this
        ·exact h
       rw[jm (show i≠0 by omega)] at h2;cases hd:eu r
       ·rw[hd] at h2;unfold eu at hd;rw[decide_eq_false_iff_not] at hd;have d1: ∀X Y:Prop,((48<=r->r<=57->X)->Y)->True:=fun _ _ _=>trivial
        by_cases hlast:i+1=l.length
        ·have:R=false:=by
          rw[<-h2,hend hlast];simp only[eH];rw[hlt,show eu r=false from ik hd];simp
         subst this;have hq:((i:Int)==((l.length - 1:Nat):Int))=true:=by rw[cY];omega
         by_cases q1:48<=r
         ·have q2: ¬r<=57:=by omega
          simp[g,hr,t2,hq,q1,q2];refine aZ _ LI ?_;simp
         ·simp[g,hr,t2,hq,q1];refine aZ _ LI ?_;simp
        ·have hq:((i:Int)==((l.length - 1:Nat):Int))=false:=by rw[bJ];omega
         by_cases e1:r=95
         ·have fin:=fin (by rw[<-h2];simp[e1]) (fun h=>absurd h hlast);have q1:(48:Int)<=r:=by omega
          have q2: ¬r<=57:=by omega
          have e3:(r !=95)=false:=by simp[e1]
          simp[g,hr,t2,hq,q1,q2];refine aZ _ LI ?_;simp[g,hr,e3];refine fin _ (aj ?_ ?_ ?_ ?_ ?_ ?_)<;>simp[t1]
         ·by_cases e2:r=45
          ·have fin:=fin (by rw[<-h2];simp[e2]) (fun h=>absurd h hlast);have q1: ¬(48:Int)<=r:=by omega
           have e3:(r !=95)=true:=by simp[e1]
           have e4:(r !=45)=false:=by simp[e2]
           simp[g,hr,t2,hq,q1];refine aZ _ LI ?_;simp[g,hr,e3,e4];refine fin _ (aj ?_ ?_ ?_ ?_ ?_ ?_)<;>simp[t1]
          ·have e3:(r !=95)=true:=by simp[e1]
           have e4:(r !=45)=true:=by simp[e2]
           have:R=false:=by
            rw[<-h2,show (r==95)=false by simp[e1],show (r==45)=false by simp[e2]];simp
           subst this;by_cases q1:48<=r
           ·have q2: ¬r<=57:=by omega
            simp[g,hr,t2,hq,q1,q2];refine aZ _ LI ?_;simp[g,hr,e3,e4]
           ·simp[g,hr,t2,hq,q1];refine aZ _ LI ?_;simp[g,hr,e3,e4]
       ·rw[hd] at h2;have fin:=fin (by rw[<-h2];simp) (fun _=>by rw[hd];simp);unfold eu at hd;rw[nL] at hd;simp[g,hr,t2,hd.1,hd.2];refine aZ _ LI ?_;simp;refine fin _ (aj ?_ ?_ ?_ ?_ ?_ ?_)<;>simp[t1]
      ·rw[hlt] at h2 LI;have fin:=fin (by rw[<-h2];simp) (fun _=>by rw[hlt];rfl);by_cases q1:48<=r
       ·by_cases q2:r<=57
        ·simp[g,hr,t2,q1,q2];refine aZ _ LI ?_;simp;refine fin _ (aj ?_ ?_ ?_ ?_ ?_ ?_)<;>simp[t1]
        ·simp[g,hr,t2,q1,q2];refine aZ _ LI ?_;simp;refine fin _ (aj ?_ ?_ ?_ ?_ ?_ ?_)<;>simp[t1]
       ·simp[g,hr,t2,q1];refine aZ _ LI ?_;simp;refine fin _ (aj ?_ ?_ ?_ ?_ ?_ ?_)<;>simp[t1]
     ·obtain rfl:i=l.length:=by omega
      have h3:=h3 hlen rfl;rw[xA] at h2;simp only[eH] at h2;rw[h3,jm (show 0<l.length/\l.length<=24 by omega)] at h2
      have:R=true:=by rw[<-h2];rfl
      clear hK hR;subst this;simp
    ·exact ⟨gN _,by simpa using hR.symm,fun h=>absurd h (by simp)⟩
    ·apply aj<;>simp
open Go.Proofs
def Tz (l:List Int) (i:Nat):Nat:=if h:i<l.length then (if l[i]=10 then i else Tz l (i+1)) else i
termination_by l.length - i
def sN (VR:List Int->TV) (U:List UInt8->List UInt8×Int) (l:List Int) (P:List (Int×Int)):Nat->Nat->List Tk->TR
 |0,_,_=>⟨[],0,0,0⟩
 |f+1,i,out=>match l[i]? with
  |none=>⟨out++[⟨0,[],0,(P.getD l.length (0,0)).1,(P.getD l.length (0,0)).2⟩],0,0,0⟩
  |some r=>if r=32\/r=9\/r=10 then sN VR U l P f (i+1) out
   else if r=35 then sN VR U l P f (Tz l i) out
   else if (Em VR U l i r).c=0 then sN VR U l P f (Em VR U l i r).en (out++[⟨(Em VR U l i r).k,(Em VR U l i r).w,(Em VR U l i r).n,(P.getD i (0,0)).1,(P.getD i (0,0)).2⟩])
   else ⟨[],(Em VR U l i r).c,(P.getD i (0,0)).1,(P.getD i (0,0)).2⟩
open Go.Proofs
theorem nF (s:List UInt8) (i n r0 l:Nat) (h:(cB s i n r0 l).1= -1):(cB s i n r0 l).2=1:=by
 unfold cB at h ⊢;split
 ·rename_i c;rw[if_pos c] at h;simp only at h;omega
 ·rfl
theorem sO (s:List UInt8) (i:Nat) (h:(ax s i).1= -1):(ax s i).2=1:=by
 unfold ax at h ⊢;simp only at h ⊢;split
 ·rfl
 ·rename_i c1;rw[if_neg c1] at h;split
  ·rename_i c2;rw[if_pos c2] at h;exact nF _ _ _ _ _ h
  ·rename_i c2;rw[if_neg c2] at h;split
   ·rename_i c3;rw[if_pos c3] at h;exact nF _ _ _ _ _ h
   ·rename_i c3;rw[if_neg c3] at h;split
    ·rename_i c4;rw[if_pos c4] at h;exact nF _ _ _ _ _ h
    ·rfl
theorem Hz (s:List UInt8) (i:Nat): ∀n,gQ s i n=true->n=0\/i+n<s.length
 |0,_=> .inl rfl
 |k+1,h=>by
  rw[gQ,aL] at h;exact .inr (JU h.2)
theorem sP (s:List UInt8) (i n r0 l:Nat) (h:i<s.length):i+(cB s i n r0 l).2<=s.length:=by
 unfold cB;split
 ·rename_i c;rw[aL] at c
  have:=Hz s i n c.1
  simp only;omega
 ·exact h
theorem kN (s:List UInt8) (i:Nat) (h:i<s.length):i+(ax s i).2<=s.length:=by
 unfold ax;simp only;split
 ·exact h
 ·split
  ·exact sP _ _ _ _ _ h
  ·split
   ·exact sP _ _ _ _ _ h
   ·split
    ·exact sP _ _ _ _ _ h
    ·exact h
theorem oQ (s:List UInt8) (i:Nat) (h:i<s.length):eF s i=(pZ (ax s i).1,(ax s i).2):=by
 rw[hY s i h];unfold pZ;by_cases c:(ax s i).1= -1
 ·rw[if_pos c,if_pos c,sO s i c]
 ·rw[if_neg c,if_neg c]
theorem JZ (V:List UInt8->TV) (U:List UInt8->List UInt8×Int) (s:List UInt8) (x:Sc) (i:Nat) (h:i<s.length):lv V U s x i=
  if (fI V U s x i (pZ (ax s i).1)).2=true then lv V U s ((fI V U s x i (pZ (ax s i).1)).1.adv (pZ (ax s i).1)) (i+(ax s i).2) else ((fI V U s x i (pZ (ax s i).1)).1,false):=by
 rw[lv,dif_pos h]
theorem HC (V:List UInt8->TV) (U:List UInt8->List UInt8×Int) (s:List UInt8) (x:Sc) (i:Nat) (h: ¬i<s.length):lv V U s x i=(x,true):=by
 rw[lv,dif_neg h]
theorem Sc.adv_out (x:Sc) (r:Int):(x.adv r).out=x.out:=by unfold Sc.adv;split<;>rfl
theorem Sc.adv_sa (x:Sc) (r:Int):(x.adv r).sa=x.sa:=by unfold Sc.adv;split<;>rfl
structure HD (x:Sc) (i:Nat):Prop where
 sa:x.sa<=i
 ou:x.out.length<=2*i
 a0:0<=x.al
 a1:x.al<=i+1
 c0:0<=x.ac
 c1:x.ac<=i+1
theorem HD.step {x:Sc} {i:Nat} (h:HD x i) (V:List UInt8->TV) (U:List UInt8->List UInt8×Int) (s:List UInt8) (r:Int) (w:Nat) (hw:1<=w):HD ((fI V U s x i r).1.adv r) (i+w):=by
 have k:=sK V U s x i r h.sa;have o:=En V U s x i r;have h2:=h.ou;have h3:=h.a0;have h4:=h.a1;have h5:=h.c0;have h6:=h.c1;refine ⟨by rw[Sc.adv_sa];omega,by rw[Sc.adv_out];omega,?_,?_,?_,?_⟩<;>unfold Sc.adv<;>split<;>simp only<;>omega
theorem L6:HD C8 0:=⟨gp _,gp _,by decide,by decide,by decide,by decide⟩
theorem wR (V:List UInt8->TV) (U:List UInt8->List UInt8×Int) (s:List UInt8) (hU: ∀w,w.length<=s.length->Sp Tryz.prog gl 135 [.str w] (.tup [.str (U w).1,i6 (U w).2])) (hV: ∀w,w.length<=s.length->Sp Tryz.prog gl 85 [.str w] (V w).av):
  Sp Tryz.prog gl 35 [.str s] (uT V U s).av:=by
 refine Ud rfl rfl ?_;have B:=fun (e:Nat) (he:(Id.n 10).isNw e=false)=>jQ s ⟨[],0,0,0,0,1,1,0,0,0⟩ 0 0 e (.n 10) rfl he
 have hB:Sc.begin ⟨[],0,0,0,0,1,1,0,0,0⟩ 0 0=C8:=rfl;rw[hB] at B;unfold uT;by_cases hl:40000<s.length
 ·rw[if_pos hl];have hl':(40000:Int)<s.length:=by omega
  have W:=fun (e:Nat) (he:(Id.n 10).isNw e=false)=>gn s C8 9 e (.n 10) rfl he
  unfold fU Sc.wrong C8 at*;simp only[lS] at B W;unfold TR.av;simp[Pe];refine bB _ _ (B _ rfl) ?_;simp[hl,hl'];refine bB _ _ (W _ rfl) ?_;simp
 ·rw[if_neg hl];have hl': ¬(40000:Int)<s.length:=by omega
  have B: ∀(e:Nat) (he:(Id.n 10).isNw e=false),bh Tryz.prog gl 58 e ⟨[.ptr (.n 10) 0,i6 0,i6 0],[(.n 10,[.str s,.sl [],i6 0,i6 0,i6 0,i6 0,i6 1,i6 1,i6 0,i6 0,i6 0])],[(.b (.n 10) 1,5)]⟩ ⟨.tup [],[(.n 10,fU s C8)],[(.b (.n 10) 1,5)]⟩:=B;obtain ⟨R,hR⟩: ∃R,R=lv V U s C8 0:=⟨_,rfl⟩;rw[<-hR];have sl: ∀x,(fU s x).length=11:=fun _=>rfl
  have si: ∀x,bR (fU s x)=[]:=fun _=>rfl
  simp[Pe];refine bB _ _ (B _ rfl) ?_;simp[hl,hl',sl,si];refine aY (α:=Sc×Nat) (fun y=>⟨[(0,.str s),(3,.ptr (.n 3) 0),(4,.ptr (.n 10) 0),(23,.itp 23)],[(.n 3,[i6 0,i6 0,i6 0]),(.n 10,fU s y.1),(.it 23,[.itr s y.2])],[(.b (.n 10) 1,5)]⟩)
   (fun y=>HD y.1 y.2/\y.2<=s.length/\lv V U s y.1 y.2=R) (fun y=>s.length - y.2) ?_ (C8,0) ?_ ?_
  ·rintro K ⟨x,i⟩ hK ⟨h1,h2,h3⟩;simp only at h1 h2 h3;by_cases g:i<s.length
   ·have sr:=oQ s i g;have sp:=cX s i;have sw:=kN s i g;rw[JZ V U s x i g] at h3;have o1:=h1.ou;have T:=fun r (e:Nat) (he:(Id.n 10).isNw e=false)=>Bu V U s hU hV x (by omega) (by omega) i h1.sa g r e (.n 10) rfl he
    have ko:=h1.step V U s (pZ (ax s i).1) (ax s i).2 sp;have kk:=sK V U s x i (pZ (ax s i).1) h1.sa;have c0:=h1.c0;have c1:=h1.c1;have a0:=h1.a0;have a1:=h1.a1;have T:=T (pZ (ax s i).1);generalize hq:pZ (ax s i).1=r,(ax s i).2=w at*;generalize (fI V U s x i r).2=ok,(fI V U s x i r).1=y at*;have fin:lv V U s (y.adv r) (i+w)=R-> ∀σ',fx σ' ⟨[(0,.str s),(3,.ptr (.n 3) 0),(4,.ptr (.n 10) 0),(23,.itp 23)],[(.n 3,[i6 0,i6 0,i6 0]),(.n 10,fU s (y.adv r)),(.it 23,[.itr s (i+w)])],[(.b (.n 10) 1,5)]⟩->K σ':=
     fun hh σ' hσ=>hK (y.adv r,i+w) σ' ⟨ko,by simp only;omega,hh⟩ (by simp only;omega) hσ
    have w1:IntKind.i64.wrap (y.ac+1)=y.ac+1:=by rw[ay]<;>omega
    have w2:IntKind.i64.wrap (y.al+1)=y.al+1:=by rw[ay]<;>omega
    clear hK hR ko;cases ok
    ·rw[if_neg (by decide)] at h3;subst h3;clear fin;dsimp only;rw[if_neg (by decide)];unfold TR.bad TR.av;unfold fU at*;generalize y.out.map Tk.row=L,x.out.map Tk.row=L0 at*;simp[g,sr];refine bB _ _ (T _ rfl) ?_;simp
    ·rw[if_pos rfl] at h3;have fin:=fin h3;clear h3;generalize TR.av _=res;unfold Sc.adv at fin;by_cases c:r=10
     ·rw[if_pos c] at fin;unfold fU at*;generalize y.out.map Tk.row=L,x.out.map Tk.row=L0 at*;simp[g,sr];refine bB _ _ (T _ rfl) ?_;simp[c,w1,w2];refine fin _ ?_;apply aj<;>simp
     ·rw[if_neg c] at fin;have c':(r==10)=false:=bJ.2 c;unfold fU at*;generalize y.out.map Tk.row=L,x.out.map Tk.row=L0 at*;simp[g,sr];refine bB _ _ (T _ rfl) ?_;simp[c,c',w1,w2];refine fin _ ?_;apply aj<;>simp
   ·rw[HC V U s x i g] at h3;subst h3;dsimp only;rw[if_pos rfl];have o1:=h1.ou;have hsa:=h1.sa;clear hK;have E:=fun (e:Nat) (he:(Id.n 10).isNw e=false)=>Eo V s hV x (by omega) (by omega) (by omega) e (.n 10) rfl he
    generalize (zD V s x).2=ok,(zD V s x).1=y at*;cases ok
    ·rw[if_neg (by decide)];unfold TR.bad TR.av;unfold fU at*;generalize y.out.map Tk.row=L,x.out.map Tk.row=L0 at*;simp[g];refine bB _ _ (E _ rfl) ?_;simp
    ·rw[if_pos rfl];unfold TR.av;unfold fU at*;dsimp only;generalize y.out.map Tk.row=L,x.out.map Tk.row=L0 at*;simp[g];refine bB _ _ (E _ rfl) ?_;simp
  ·exact ⟨L6,by simp only;omega,hR.symm⟩
  ·apply aj<;>simp[fU,C8]
open Go.Proofs
theorem sQ (l:List Int) (a b:Int):(EY a b l).getD 0 (0,0)=(a,b):=by cases l<;>rfl
theorem sR: ∀(l:List Int) (a b:Int) (k:Nat) (h:k<l.length),(EY a b l).getD (k+1) (0,0)=if l[k]=10 then (((EY a b l).getD k (0,0)).1+1,1) else (((EY a b l).getD k (0,0)).1,((EY a b l).getD k (0,0)).2+1)
 |[],a,b,k,h=>absurd h (by simp)
 |r::l,a,b,0,h=>by
  rw[sQ];simp only[List.getElem_cons_zero];rw[EY,List.getD_cons_succ];split
  ·rw[sQ]
  ·rw[sQ]
 |r::l,a,b,k+1,h=>by
  simp only[List.getElem_cons_succ];rw[EY,List.getD_cons_succ,List.getD_cons_succ];split
  ·exact sR l _ _ k (by simpa using h)
  ·exact sR l _ _ k (by simpa using h)
structure At (s:List UInt8) (l:List Int) (i k:Nat):Prop where
 r:aC s i=l.drop k
 i:i<=s.length
 k:k<=l.length
theorem At.next {s:List UInt8} {l:List Int} {i k:Nat} (h:At s l i k) (g:k<l.length):i<s.length/\(ax s i).1=l[k]/\At s l (i+(ax s i).2) (k+1):=by
 have e:=h.r;rw[rb g] at e;by_cases c:i<s.length
 ·rw[bW c] at e;injection e with e1 e2;exact ⟨c,e1,e2,kN s i c,g⟩
 ·rw[bp c] at e;cases e
theorem At.end {s:List UInt8} {l:List Int} {i:Nat} (h:At s l i l.length):i=s.length:=by
 have e:=h.r;rw[xA] at e;by_cases c:i<s.length
 ·rw[bW c] at e;cases e
 ·have:=h.i;omega
def sS (l:List Int) (x:Sc) (k:Nat):Prop:=(x.al,x.ac)=(EY 1 1 l).getD k (0,0)
theorem sS.adv {l:List Int} {x:Sc} {k:Nat} (h:sS l x k) (g:k<l.length) {y:Sc} (h1:y.al=x.al) (h2:y.ac=x.ac):sS l (y.adv l[k]) (k+1):=by
 unfold sS at h ⊢;rw[sR l 1 1 k g,<-h];unfold Sc.adv;split
 ·rw[<-h1]
 ·rw[<-h1,<-h2]
theorem sS.one {l:List Int} {x:Sc} {k:Nat} (h:sS l x k):((EY 1 1 l).getD k (0,0)).1=x.al/\((EY 1 1 l).getD k (0,0)).2=x.ac:=by
 unfold sS at h;rw[<-h];exact ⟨rfl,rfl⟩
open Go.Proofs
variable {V:List UInt8->TV} {U:List UInt8->List UInt8×Int} {VR:List Int->TV} {U':List Int->List UInt8×Int} {s:List UInt8} {l:List Int}
open Go.Proofs
variable {V:List UInt8->TV} {U:List UInt8->List UInt8×Int} {VR:List Int->TV} {U':List Int->List UInt8×Int} {s:List UInt8} {l:List Int}
theorem zF {i:Nat} {r:Int} (h:(ax s i).1=r) (h0:0<=r) (h1:r<128):(cF s i:Int)=r/\(ax s i).2=1:=by
 have ff: ∀n r0 least,128<=least->(cB s i n r0 least).1=r->False:=by
  intro n r0 least hl e;unfold cB at e;split at e
  ·rename_i c;rw[aL] at c
   have:=pX c.2
   dsimp only at e;omega
  ·dsimp only at e;omega
 unfold ax at h ⊢;simp only at h ⊢;split
 ·rename_i c;rw[if_pos c] at h;exact ⟨h,rfl⟩
 ·rename_i c;rw[if_neg c] at h;split
  ·rename_i c2;rw[if_pos c2] at h;exact (ff _ _ _ (by omega) h).elim
  ·rename_i c2;rw[if_neg c2] at h;split
   ·rename_i c3;rw[if_pos c3] at h;exact (ff _ _ _ (by omega) h).elim
   ·rename_i c3;rw[if_neg c3] at h;split
    ·rename_i c4;rw[if_pos c4] at h;exact (ff _ _ _ (by omega) h).elim
    ·rename_i c4;rw[if_neg c4] at h;dsimp only at h;omega
end Go.Ai
namespace Go.Ai
def bj (s:List UInt8):Nat:=s.foldl (fun a b=>10*a+(b.toNat - 48)) 0
def bF (b:UInt8):Bool:=decide (48<=b.toNat/\b.toNat<=57)
def eY (s:List UInt8):Bool:=!s.isEmpty&&s.all bF&&(s.headD 0 !=48||s.length==1)
theorem nG (s:List UInt8) (b:UInt8):bj (s++[b])=10*bj s+(b.toNat - 48):=by simp[bj]
theorem HG {α:Type} {P:List α->Prop} (h0:P []) (h1: ∀s b,P s->P (s++[b])): ∀s,P s:=by
 intro s;rw[<-List.reverse_reverse s];induction s.reverse with
 |nil=>simpa using h0
 |cons b r ih=>rw[List.reverse_cons];exact h1 _ _ ih
theorem HH (s:List UInt8) (h:s.all bF=true):bj s<10^s.length:=by
 revert h;refine HG (P:=fun s=>s.all bF=true->bj s<10^s.length) ?_ ?_ s
 ·intro _;simp[bj]
 ·intro s b ih h;rw[List.all_append,aL] at h
  have:=ih h.1
  have hb:bF b=true:=by simpa using h.2
  simp only[bF,nL] at hb;rw[nG,gJ,EO,Nat.pow_succ];omega
open Go.Proofs

def bl (l:List Bool):AV:= .sl (l.map fun b=>[.bool b])
open Go.Proofs
end Go.Ai
namespace Go.Ai
open Go.Proofs
def qc (j:Nat) (B:List Bool):List AV:=(List.replicate j false++B).map AV.bool
end Go.Ai
