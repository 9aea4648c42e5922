/- P6: a part of the proof. Conditions: as each theorem says. -/
import Derived.Test.YtggemlhclppciaaGreatDoorP5
set_option linter.unusedSimpArgs false
set_option linter.unusedVariables false
set_option maxRecDepth 20000
namespace Go.Ai
open Go.Proofs
def xr (q:List UInt8×Int):TV:=if q.2=0 then .t 2 q.1 0 else .e q.2
def cu (x:Sc) (i:Nat) (r:Int):Sc×Bool:=
 let y:=x.begin i 0
 if r=32∨r=9∨r=10 then (y,true)
 else if r=35 then ({y with st:=4},true)
 else if r=34 then ({y with st:=2},true)
 else if r=123 then (y.add (.t 7 [] 0),true)
 else if r=125 then (y.add (.t 8 [] 0),true)
 else if r=59 then (y.add (.t 9 [] 0),true)
 else if wthn r=true then ({y with st:=1},true)
 else (y.wrong 5,false)
def cR (s:List UInt8) (a b:Nat):List UInt8:=(s.take b).drop a
def fB (U:List UInt8→List UInt8×Int) (s:List UInt8) (x:Sc) (e:Nat):Sc×Bool:=(x.add (xr (U (cR s x.sa e))),(xr (U (cR s x.sa e))).ok)
def bj (U:List UInt8→List UInt8×Int) (s:List UInt8) (x:Sc) (i:Nat) (r:Int):Sc×Bool:=
 if r=10 then (x.wrong 5,false)
 else if x.st=3 then ({x with st:=2},true)
 else if r=92 then ({x with st:=3},true)
 else if r=34 then fB U s x (i+1)
 else (x,true)
def bv (V:List UInt8→TV) (U:List UInt8→List UInt8×Int) (s:List UInt8) (x:Sc) (i:Nat) (r:Int):Sc×Bool:=
 if x.st=1 then (if wthn r=true then (x,true) else if (V (cR s x.sa i)).ok=true then cu (x.add (V (cR s x.sa i))) i r else (x.add (V (cR s x.sa i)),false))
 else if x.st=4 then ((if r=10 then {x with st:=0} else x),true)
 else if x.st=2∨x.st=3 then bj U s x i r
 else cu x i r
def ju (V:List UInt8→TV) (s:List UInt8) (x:Sc):Sc×Bool:=
 if x.st=1 then (if (V (cR s x.sa s.length)).ok=true then (((x.add (V (cR s x.sa s.length))).begin s.length 0).add (.t 0 [] 0),true) else (x.add (V (cR s x.sa s.length)),false))
 else if x.st=2∨x.st=3 then (x.wrong 5,false)
 else ((x.begin s.length 0).add (.t 0 [] 0),true)
theorem Sc.begin_out (x:Sc) (i:Nat) (st:Int):(x.begin i st).out=x.out:=rfl
theorem Sc.wrong_out (x:Sc) (e:Int):(x.wrong e).out=x.out:=rfl
theorem Sc.add_out (x:Sc) (v:TV):(x.add v).out.length≤x.out.length+1:=by
 cases v with
 |e c=>simp [Sc.add,Sc.wrong_out]
 |t k w n=>simp [Sc.add]
theorem qU (x:Sc) (i:Nat) (r:Int):(cu x i r).1.out.length≤x.out.length+1:=by
 unfold cu;simp only;repeat' split
 all_goals first|exact Nat.le_succ _|exact Sc.add_out (x.begin i 0) _|skip
theorem xu (U:List UInt8→List UInt8×Int) (s:List UInt8) (x:Sc) (i:Nat) (r:Int):(bj U s x i r).1.out.length≤x.out.length+1:=by
 unfold bj fB;repeat' split
 all_goals first|exact Nat.le_succ _|exact Sc.add_out x _|skip
theorem CW (V:List UInt8→TV) (U:List UInt8→List UInt8×Int) (s:List UInt8) (x:Sc) (i:Nat) (r:Int):(bv V U s x i r).1.out.length≤x.out.length+2:=by
 unfold bv;by_cases c1:x.st=1
 ·rw [if_pos c1];by_cases c2:wthn r=true
  ·rw [if_pos c2];simp
  ·rw [if_neg c2];by_cases c3:(V (cR s x.sa i)).ok=true
   ·rw [if_pos c3];have h1:=qU (x.add (V (cR s x.sa i))) i r;have h2:=Sc.add_out x (V (cR s x.sa i));omega
   ·rw [if_neg c3];have h2:=Sc.add_out x (V (cR s x.sa i));simp only;omega
 ·rw [if_neg c1];by_cases c2:x.st=4
  ·rw [if_pos c2];simp only;split<;>simp
  ·rw [if_neg c2];by_cases c3:x.st=2∨x.st=3
   ·rw [if_pos c3]
    have:=xu U s x i r
    omega
   ·rw [if_neg c3]
    have:=qU x i r
    omega
theorem oN (s:List UInt8) (x:Sc) (hl:x.out.length≤900000) (i:Nat) (r:Int) (d:Nat) (b:Id) (hb:b.isIt=false) (hbd:b.isNw d=false):
  b7 Tryz.prog gl 110 d ⟨[.ptr b 0,i6 i,i3 r],[(b,ed s x)],[(.b b 1,5)]⟩ ⟨.bool (cu x i r).2,[(b,ed s (cu x i r).1)],[(.b b 1,5)]⟩:=by
 refine Nw rfl ?_;have hib:=aP hbd;have ne: ∀z:Int,¬r=z→(r==z)=false:=fun z h=>dh.2 h
 have B:=fun e=>fL s x i 0 e (.up b) hb
 have A:=fun v e=>gx s (x.begin i 0) (by rw [Sc.begin_out];omega) v e (.up b) hb
 have W:=fun e=>dG s (x.begin i 0) 5 e (.up b) hb
 have WI:=mO r;have hz: ∀k:Int,(TV.t k [] 0).av= .ifc 55 (.agg [.int .i64 k,.str [],.int .u64 0,.int .i64 0,.int .i64 0]):=fun _=>rfl
 have ho: ∀k:Int,(TV.t k [] 0).ok=true:=fun _=>rfl
 unfold cu;simp only;obtain ⟨y,hy⟩: ∃y,y=x.begin i 0:=⟨_,rfl⟩;rw [←hy] at B A W ⊢;clear hy;by_cases c1:r=32
 ·subst c1;rw [if_pos (by omega)];dsimp only;unfold ed at *
  generalize y.out.map Tk.row=L at *
  generalize x.out.map Tk.row=L0 at *
  simp only [az,bE,a7,AV.mp,bK,Pl.mp];simp [pF];refine aK _ _ (B _ rfl) ⟨?_,?_,?_,?_,?_,?_,?_⟩ ?_;iterate 7 (· simp [hb])
  simp;apply ai<;>simp [hib,hb]
 by_cases c2:r=9
 ·subst c2;rw [if_pos (by omega)];dsimp only;unfold ed at *
  generalize y.out.map Tk.row=L at *
  generalize x.out.map Tk.row=L0 at *
  simp only [az,bE,a7,AV.mp,bK,Pl.mp];simp [pF];refine aK _ _ (B _ rfl) ⟨?_,?_,?_,?_,?_,?_,?_⟩ ?_;iterate 7 (· simp [hb])
  simp;apply ai<;>simp [hib,hb]
 by_cases c3:r=10
 ·subst c3;rw [if_pos (by omega)];dsimp only;unfold ed at *
  generalize y.out.map Tk.row=L at *
  generalize x.out.map Tk.row=L0 at *
  simp only [az,bE,a7,AV.mp,bK,Pl.mp];simp [pF];refine aK _ _ (B _ rfl) ⟨?_,?_,?_,?_,?_,?_,?_⟩ ?_;iterate 7 (· simp [hb])
  simp;apply ai<;>simp [hib,hb]
 rw [if_neg (by omega)];have n1:=ne 32 c1;have n2:=ne 9 c2;have n3:=ne 10 c3;by_cases c4:r=35
 ·subst c4;rw [if_pos rfl];dsimp only;unfold ed at *
  generalize y.out.map Tk.row=L at *
  generalize x.out.map Tk.row=L0 at *
  simp only [az,bE,a7,AV.mp,bK,Pl.mp];simp [pF];refine aK _ _ (B _ rfl) ⟨?_,?_,?_,?_,?_,?_,?_⟩ ?_;iterate 7 (· simp [hb])
  simp;apply ai<;>simp [hib,hb]
 rw [if_neg c4];have n4:=ne 35 c4;by_cases c5:r=34
 ·subst c5;rw [if_pos rfl];dsimp only;unfold ed at *
  generalize y.out.map Tk.row=L at *
  generalize x.out.map Tk.row=L0 at *
  simp only [az,bE,a7,AV.mp,bK,Pl.mp];simp [pF];refine aK _ _ (B _ rfl) ⟨?_,?_,?_,?_,?_,?_,?_⟩ ?_;iterate 7 (· simp [hb])
  simp;apply ai<;>simp [hib,hb]
 rw [if_neg c5];have n5:=ne 34 c5;by_cases c6:r=123
 ·subst c6;have A:=A (.t 7 [] 0);rw [hz,ho] at A;rw [if_pos rfl];dsimp only;generalize y.add (.t 7 [] 0)=z at *
  unfold ed at *
  generalize y.out.map Tk.row=L at *
  generalize x.out.map Tk.row=L0 at *
  generalize z.out.map Tk.row=L1 at *
  simp only [az,bE,a7,AV.mp,bK,Pl.mp];simp [pF];refine aK _ _ (B _ rfl) ⟨?_,?_,?_,?_,?_,?_,?_⟩ ?_;iterate 7 (· simp [hb])
  simp;refine aK _ _ (A _ rfl) ⟨?_,?_,?_,?_,?_,?_,?_⟩ ?_;iterate 7 (· simp [hb])
  simp;apply ai<;>simp [hib,hb]
 rw [if_neg c6];have n6:=ne 123 c6;by_cases c7:r=125
 ·subst c7;have A:=A (.t 8 [] 0);rw [hz,ho] at A;rw [if_pos rfl];dsimp only;generalize y.add (.t 8 [] 0)=z at *
  unfold ed at *
  generalize y.out.map Tk.row=L at *
  generalize x.out.map Tk.row=L0 at *
  generalize z.out.map Tk.row=L1 at *
  simp only [az,bE,a7,AV.mp,bK,Pl.mp];simp [pF];refine aK _ _ (B _ rfl) ⟨?_,?_,?_,?_,?_,?_,?_⟩ ?_;iterate 7 (· simp [hb])
  simp;refine aK _ _ (A _ rfl) ⟨?_,?_,?_,?_,?_,?_,?_⟩ ?_;iterate 7 (· simp [hb])
  simp;apply ai<;>simp [hib,hb]
 rw [if_neg c7];have n7:=ne 125 c7;by_cases c8:r=59
 ·subst c8;have A:=A (.t 9 [] 0);rw [hz,ho] at A;rw [if_pos rfl];dsimp only;generalize y.add (.t 9 [] 0)=z at *
  unfold ed at *
  generalize y.out.map Tk.row=L at *
  generalize x.out.map Tk.row=L0 at *
  generalize z.out.map Tk.row=L1 at *
  simp only [az,bE,a7,AV.mp,bK,Pl.mp];simp [pF];refine aK _ _ (B _ rfl) ⟨?_,?_,?_,?_,?_,?_,?_⟩ ?_;iterate 7 (· simp [hb])
  simp;refine aK _ _ (A _ rfl) ⟨?_,?_,?_,?_,?_,?_,?_⟩ ?_;iterate 7 (· simp [hb])
  simp;apply ai<;>simp [hib,hb]
 rw [if_neg c8];have n8:=ne 59 c8;generalize wthn r=q at *
 cases q
 ·rw [if_neg (by decide)];dsimp only;generalize y.wrong 5=z at *
  unfold ed at *
  generalize y.out.map Tk.row=L at *
  generalize x.out.map Tk.row=L0 at *
  generalize z.out.map Tk.row=L1 at *
  simp only [az,bE,a7,AV.mp,bK,Pl.mp];simp [pF];refine aK _ _ (B _ rfl) ⟨?_,?_,?_,?_,?_,?_,?_⟩ ?_;iterate 7 (· simp [hb])
  simp [n1,n2,n3,n4,n5,n6,n7,n8];apply ab WI;simp;refine aK _ _ (W _ rfl) ⟨?_,?_,?_,?_,?_,?_,?_⟩ ?_;iterate 7 (· simp [hb])
  simp;apply ai<;>simp [hib,hb]
 ·rw [if_pos rfl];dsimp only;unfold ed at *
  generalize y.out.map Tk.row=L at *
  generalize x.out.map Tk.row=L0 at *
  simp only [az,bE,a7,AV.mp,bK,Pl.mp];simp [pF];refine aK _ _ (B _ rfl) ⟨?_,?_,?_,?_,?_,?_,?_⟩ ?_;iterate 7 (· simp [hb])
  simp [n1,n2,n3,n4,n5,n6,n7,n8];apply ab WI;simp;apply ai<;>simp [hib,hb]
open Go.Proofs
theorem qV (s:List UInt8) (a b:Nat):(cR s a b).length≤s.length:=by
 unfold cR;rw [sn,sj];omega
theorem Bs {q:List UInt8×Int} (h:q.2≠0):xr q= .e q.2:=if_neg h
theorem Bt {q:List UInt8×Int} (h:q.2=0):xr q= .t 2 q.1 0:=if_pos h
theorem uT (U:List UInt8→List UInt8×Int) (s:List UInt8) (hU: ∀w,w.length≤s.length→Sp Tryz.prog gl 196 [.str w] (.tup [.str (U w).1,i6 (U w).2])) (x:Sc) (hl:x.out.length≤900000) (e:Nat) (h1:x.sa≤e) (h2:e≤s.length)
  (d:Nat) (b:Id) (hb:b.isIt=false) (hbd:b.isNw d=false):
  b7 Tryz.prog gl 150 d ⟨[.ptr b 0,i6 e],[(b,ed s x)],[(.b b 1,5)]⟩ ⟨.bool (fB U s x e).2,[(b,ed s (fB U s x e).1)],[(.b b 1,5)]⟩:=by
 refine NN rfl ?_;have hib:=aP hbd;have HU:=hU (cR s x.sa e) (qV s x.sa e);unfold fB;dsimp only;have hs:List.drop x.sa (List.take e s)=cR s x.sa e:=rfl;generalize cR s x.sa e=W at *
 generalize U W=q at *
 obtain ⟨qt,qc⟩:=q;dsimp only at HU;have h1':(x.sa:Int)≤e:=by omega
 have h2':(e:Int)≤s.length:=by omega
 by_cases c:qc=0
 ·subst c;rw [Bt rfl];dsimp only;have A:=fun e=>gx s x (by omega) (.t 2 qt 0) e (.up b) hb
  have hz:(TV.t 2 qt 0).av= .ifc 55 (.agg [.int .i64 2,.str qt,.int .u64 0,.int .i64 0,.int .i64 0]):=rfl;have ho:(TV.t 2 qt 0).ok=true:=rfl;rw [hz,ho] at A;rw [ho];generalize x.add (.t 2 qt 0)=y at *
  unfold ed at *
  generalize x.out.map Tk.row=L at *
  generalize y.out.map Tk.row=L1 at *
  simp only [az,bE,a7,AV.mp,bK,Pl.mp];simp [Jf,h1,h2,h1',h2',hs];apply ab HU;simp;refine aK _ _ (A _ rfl) ⟨?_,?_,?_,?_,?_,?_,?_⟩ ?_;iterate 7 (· simp [hb])
  simp;apply ai<;>simp [hib,hb]
 ·rw [Bs c];have W1:=fun e=>dG s x qc e (.up b) hb
  have hc:(qc==0)=false:=dh.2 c;have hc2:(qc !=0)=true:=by rw [bne,hc];rfl
  dsimp only [TV.ok,Sc.add];generalize x.wrong qc=y at *
  unfold ed at *
  generalize x.out.map Tk.row=L at *
  generalize y.out.map Tk.row=L1 at *
  simp only [az,bE,a7,AV.mp,bK,Pl.mp];simp [Jf,h1,h2,h1',h2',hs];apply ab HU;simp [hc,hc2,c];refine aK _ _ (W1 _ rfl) ⟨?_,?_,?_,?_,?_,?_,?_⟩ ?_;iterate 7 (· simp [hb])
  simp;apply ai<;>simp [hib,hb]
theorem uU (U:List UInt8→List UInt8×Int) (s:List UInt8) (hU: ∀w,w.length≤s.length→Sp Tryz.prog gl 196 [.str w] (.tup [.str (U w).1,i6 (U w).2])) (x:Sc) (hl:x.out.length≤900000) (hs:s.length≤1000000) (i:Nat) (h1:x.sa≤i) (h2:i<s.length) (r:Int)
  (d:Nat) (b:Id) (hb:b.isIt=false) (hbd:b.isNw d=false):
  b7 Tryz.prog gl 111 d ⟨[.ptr b 0,i6 i,i3 r],[(b,ed s x)],[(.b b 1,5)]⟩ ⟨.bool (bj U s x i r).2,[(b,ed s (bj U s x i r).1)],[(.b b 1,5)]⟩:=by
 refine Nx rfl ?_;have hib:=aP hbd;have ne: ∀z:Int,¬r=z→(r==z)=false:=fun z h=>dh.2 h
 have Q:=fun e=>uT U s hU x hl (i+1) (by omega) (by omega) e (.up b) hb
 have t1:IntKind.i64.wrap ((i:Int)+1)=(i+1:Nat):=by rw [an]<;>omega
 have W:=fun e=>dG s x 5 e (.up b) hb
 unfold bj;by_cases c1:r=10
 ·subst c1;rw [if_pos rfl];dsimp only;generalize x.wrong 5=y at *
  unfold ed at *
  generalize x.out.map Tk.row=L at *
  generalize y.out.map Tk.row=L1 at *
  simp only [az,bE,a7,AV.mp,bK,Pl.mp];simp [BG];refine aK _ _ (W _ rfl) ⟨?_,?_,?_,?_,?_,?_,?_⟩ ?_;iterate 7 (· simp [hb])
  simp;apply ai<;>simp [hib,hb]
 rw [if_neg c1];have n1:=ne 10 c1;by_cases c2:x.st=3
 ·rw [if_pos c2];dsimp only;unfold ed at *
  generalize x.out.map Tk.row=L at *
  simp only [az,bE,a7,AV.mp,bK,Pl.mp];simp [BG,n1,c2];apply ai<;>simp [hib,hb]
 rw [if_neg c2];have n2:(x.st==3)=false:=dh.2 c2;by_cases c3:r=92
 ·subst c3;rw [if_pos rfl];dsimp only;unfold ed at *
  generalize x.out.map Tk.row=L at *
  simp only [az,bE,a7,AV.mp,bK,Pl.mp];simp [BG,n1,n2];apply ai<;>simp [hib,hb]
 rw [if_neg c3];have n3:=ne 92 c3;by_cases c4:r=34
 ·subst c4;rw [if_pos rfl];generalize (fB U s x (i+1)).2=ok at *
  generalize (fB U s x (i+1)).1=y at *
  unfold ed at *
  generalize x.out.map Tk.row=L at *
  generalize y.out.map Tk.row=L1 at *
  simp only [az,bE,a7,AV.mp,bK,Pl.mp];simp [BG,n1,n2,n3,t1];refine aK _ _ (Q _ rfl) ⟨?_,?_,?_,?_,?_,?_,?_⟩ ?_;iterate 7 (· simp [hb])
  simp;apply ai<;>simp [hib,hb]
 rw [if_neg c4];have n4:=ne 34 c4;dsimp only;unfold ed at *
 generalize x.out.map Tk.row=L at *
 simp only [az,bE,a7,AV.mp,bK,Pl.mp];simp [BG,n1,n2,n3,n4];apply ai<;>simp [hib,hb]
open Go.Proofs
theorem Ab (V:List UInt8→TV) (U:List UInt8→List UInt8×Int) (s:List UInt8) (hU: ∀w,w.length≤s.length→Sp Tryz.prog gl 196 [.str w] (.tup [.str (U w).1,i6 (U w).2])) (hV: ∀w,w.length≤s.length→Sp Tryz.prog gl 109 [.str w] (V w).av)
  (x:Sc) (hl:x.out.length≤800000) (hs:s.length≤1000000) (i:Nat) (h1:x.sa≤i) (h2:i<s.length) (r:Int) (d:Nat) (b:Id) (hb:b.isIt=false) (hbd:b.isNw d=false):
  b7 Tryz.prog gl 77 d ⟨[.ptr b 0,i6 i,i3 r],[(b,ed s x)],[(.b b 1,5)]⟩ ⟨.bool (bv V U s x i r).2,[(b,ed s (bv V U s x i r).1)],[(.b b 1,5)]⟩:=by
 refine QW rfl ?_;have hib:=aP hbd;have ne: ∀z:Int,¬r=z→(r==z)=false:=fun z h=>dh.2 h
 have I:=fun e=>uU U s hU x (by omega) hs i h1 h2 r e (.up b) hb
 have F:=fun e=>oN s x (by omega) i r e (.up b) hb
 have WI:=mO r;have HV:=hV (cR s x.sa i) (qV s x.sa i);have h1':(x.sa:Int)≤i:=by omega
 have h2':(i:Int)≤s.length:=by omega
 have h3:i≤s.length:=by omega
 have hss:List.drop x.sa (List.take i s)=cR s x.sa i:=rfl;unfold bv;by_cases c1:x.st=1
 ·rw [if_pos c1];cases hw:wthn r
  ·rw [if_neg (by decide)];rw [hw] at WI;have A:=fun e=>gx s x (by omega) (V (cR s x.sa i)) e (.up b) hb
   have ao:=Sc.add_out x (V (cR s x.sa i));have F2:=fun e=>oN s (x.add (V (cR s x.sa i))) (by omega) i r e (.up b) hb
   generalize cR s x.sa i=W at *
   cases hk:(V W).ok
   ·rw [if_neg (by decide)];dsimp only;rw [hk] at A;have hsh:dB (V W).av=some (V W).av:=by cases V W<;>rfl
    have hid:(V W).av.ids=[]:=by cases V W<;>rfl
    have hmp: ∀f,(V W).av.mp f=(V W).av:=fun f=>by cases V W<;>rfl
    generalize (V W).av=vv at *
    generalize x.add (V W)=y at *
    unfold ed at *
    generalize x.out.map Tk.row=L at *
    generalize y.out.map Tk.row=L1 at *
    simp only [az,bE,a7,AV.mp,bK,Pl.mp];simp [Gt,c1];apply ab WI;simp [h1,h3,h1',h2',hss];apply ab HV;simp [hsh,hid,hmp];refine jl _ _ (A _ rfl) ⟨?_,?_,?_,?_,?_,?_,?_⟩ ⟨?_,?_,?_⟩ ?_;iterate 10 (· simp [Pl.isB,Pl.isF,hb,hid,hmp,c1])
    simp [hid,hmp];apply ai<;>simp [hib,hb,hid,hmp]
   ·rw [if_pos rfl];rw [hk] at A;have hsh:dB (V W).av=some (V W).av:=by cases V W<;>rfl
    have hid:(V W).av.ids=[]:=by cases V W<;>rfl
    have hmp: ∀f,(V W).av.mp f=(V W).av:=fun f=>by cases V W<;>rfl
    generalize (V W).av=vv at *
    generalize x.add (V W)=y at *
    generalize (cu y i r).2=ok2 at *
    generalize (cu y i r).1=y2 at *
    unfold ed at *
    generalize x.out.map Tk.row=L at *
    generalize y.out.map Tk.row=L1 at *
    generalize y2.out.map Tk.row=L2 at *
    simp only [az,bE,a7,AV.mp,bK,Pl.mp];simp [Gt,c1];apply ab WI;simp [h1,h3,h1',h2',hss];apply ab HV;simp [hsh,hid,hmp];refine jl _ _ (A _ rfl) ⟨?_,?_,?_,?_,?_,?_,?_⟩ ⟨?_,?_,?_⟩ ?_;iterate 10 (· simp [Pl.isB,Pl.isF,hb,hid,hmp,c1])
    simp [hid,hmp];refine jl _ _ (F2 _ rfl) ⟨?_,?_,?_,?_,?_,?_,?_⟩ ⟨?_,?_,?_⟩ ?_;iterate 10 (· simp [Pl.isB,Pl.isF,hb,hid,hmp])
    simp [hid,hmp];apply ai<;>simp [hib,hb,hid,hmp]
  ·rw [if_pos rfl];rw [hw] at WI;dsimp only;unfold ed at *
   generalize x.out.map Tk.row=L at *
   simp only [az,bE,a7,AV.mp,bK,Pl.mp];simp [Gt,c1];apply ab WI;simp;apply ai<;>simp [hib,hb]
 rw [if_neg c1];have n1:(x.st==1)=false:=dh.2 c1;by_cases c2:x.st=4
 ·rw [if_pos c2];by_cases c3:r=10
  ·subst c3;rw [if_pos rfl];dsimp only;unfold ed at *
   generalize x.out.map Tk.row=L at *
   simp only [az,bE,a7,AV.mp,bK,Pl.mp];simp [Gt,c2];apply ai<;>simp [hib,hb]
  ·rw [if_neg c3];have n3:=ne 10 c3;dsimp only;unfold ed at *
   generalize x.out.map Tk.row=L at *
   simp only [az,bE,a7,AV.mp,bK,Pl.mp];simp [Gt,c2,n3,c3];apply ai<;>simp [hib,hb,c2]
 rw [if_neg c2];have n2:(x.st==4)=false:=dh.2 c2;by_cases c3:x.st=2
 ·rw [if_pos (.inl c3)];generalize (bj U s x i r).2=ok at *
  generalize (bj U s x i r).1=y at *
  unfold ed at *
  generalize x.out.map Tk.row=L at *
  generalize y.out.map Tk.row=L1 at *
  simp only [az,bE,a7,AV.mp,bK,Pl.mp];simp [Gt,c3];refine aK _ _ (I _ rfl) ⟨?_,?_,?_,?_,?_,?_,?_⟩ ?_;iterate 7 (· simp [hb,c3])
  simp;apply ai<;>simp [hib,hb]
 have n3:(x.st==2)=false:=dh.2 c3;by_cases c4:x.st=3
 ·rw [if_pos (.inr c4)];generalize (bj U s x i r).2=ok at *
  generalize (bj U s x i r).1=y at *
  unfold ed at *
  generalize x.out.map Tk.row=L at *
  generalize y.out.map Tk.row=L1 at *
  simp only [az,bE,a7,AV.mp,bK,Pl.mp];simp [Gt,c4];refine aK _ _ (I _ rfl) ⟨?_,?_,?_,?_,?_,?_,?_⟩ ?_;iterate 7 (· simp [hb,c4])
  simp;apply ai<;>simp [hib,hb]
 have n4:(x.st==3)=false:=dh.2 c4;rw [if_neg (by omega)];generalize (cu x i r).2=ok at *
 generalize (cu x i r).1=y at *
 unfold ed at *
 generalize x.out.map Tk.row=L at *
 generalize y.out.map Tk.row=L1 at *
 simp only [az,bE,a7,AV.mp,bK,Pl.mp];simp [Gt,n1,n2,n3,n4];refine aK _ _ (F _ rfl) ⟨?_,?_,?_,?_,?_,?_,?_⟩ ?_;iterate 7 (· simp [hb])
 simp;apply ai<;>simp [hib,hb]
open Go.Proofs
theorem Sc.add_keep (x:Sc) (v:TV):(x.add v).al=x.al∧(x.add v).ac=x.ac∧(x.add v).sa=x.sa:=by
 cases v<;>exact ⟨rfl,rfl,rfl⟩
theorem oO (x:Sc) (i:Nat) (r:Int):(cu x i r).1.al=x.al∧(cu x i r).1.ac=x.ac∧(cu x i r).1.sa=i:=by
 unfold cu;dsimp only;repeat' split
 all_goals first|exact ⟨rfl,rfl,rfl⟩|exact Sc.add_keep (x.begin i 0) _
theorem qW (V:List UInt8→TV) (U:List UInt8→List UInt8×Int) (s:List UInt8) (x:Sc) (i:Nat) (r:Int) (h:x.sa≤i):(bv V U s x i r).1.al=x.al∧(bv V U s x i r).1.ac=x.ac∧(bv V U s x i r).1.sa≤i:=by
 unfold bv;by_cases c1:x.st=1
 ·rw [if_pos c1];by_cases c2:wthn r=true
  ·rw [if_pos c2];exact ⟨rfl,rfl,h⟩
  ·rw [if_neg c2];have a:=Sc.add_keep x (V (cR s x.sa i));by_cases c3:(V (cR s x.sa i)).ok=true
   ·rw [if_pos c3];have f:=oO (x.add (V (cR s x.sa i))) i r;exact ⟨f.1.trans a.1,f.2.1.trans a.2.1,by omega⟩
   ·rw [if_neg c3];exact ⟨a.1,a.2.1,by dsimp only;omega⟩
 ·rw [if_neg c1];by_cases c2:x.st=4
  ·rw [if_pos c2];dsimp only;split
   ·exact ⟨rfl,rfl,h⟩
   ·exact ⟨rfl,rfl,h⟩
  ·rw [if_neg c2];by_cases c3:x.st=2∨x.st=3
   ·rw [if_pos c3];unfold bj fB;repeat' split
    all_goals first|exact ⟨rfl,rfl,h⟩|exact ⟨(Sc.add_keep x _).1,(Sc.add_keep x _).2.1,by have:=(Sc.add_keep x (xr (U (cR s x.sa (i+1))))).2.2;dsimp only;omega⟩
   ·rw [if_neg c3];have f:=oO x i r;exact ⟨f.1,f.2.1,by omega⟩
def jv (r:Int):Int:=if r= -1 then 65533 else r
def Sc.adv (x:Sc) (r:Int):Sc:=if r=10 then {x with al:=x.al+1,ac:=1} else {x with ac:=x.ac+1}
def dL (V:List UInt8→TV) (U:List UInt8→List UInt8×Int) (s:List UInt8) (x:Sc) (i:Nat):Sc×Bool:=
 if h:i<s.length then
  if (bv V U s x i (jv (ah s i).1)).2=true then dL V U s ((bv V U s x i (jv (ah s i).1)).1.adv (jv (ah s i).1)) (i+(ah s i).2)
  else ((bv V U s x i (jv (ah s i).1)).1,false)
 else (x,true)
termination_by s.length - i
decreasing_by have:=bA s i;omega
def vq:Sc:=⟨[],0,0,1,1,1,1,0,0,0⟩
structure TR where
 l:List Tk
 c:Int
 a:Int
 b:Int
def TR.bad (x:Sc):TR:=⟨[],x.cd,x.xl,x.xc⟩
def oP (V:List UInt8→TV) (U:List UInt8→List UInt8×Int) (s:List UInt8):TR:=
 if 40000<s.length then ⟨[],9,1,1⟩
 else if (dL V U s vq 0).2=true then (if (ju V s (dL V U s vq 0).1).2=true then ⟨(ju V s (dL V U s vq 0).1).1.out,0,0,0⟩ else .bad (ju V s (dL V U s vq 0).1).1)
 else .bad (dL V U s vq 0).1
def TR.av (x:TR):AV:= .tup [.sl (x.l.map Tk.row),.agg [i6 x.c,i6 x.a,i6 x.b]]
theorem CX (V:List UInt8→TV) (s:List UInt8) (hV: ∀w,w.length≤s.length→Sp Tryz.prog gl 109 [.str w] (V w).av)
  (x:Sc) (hl:x.out.length≤800000) (hs:s.length≤1000000) (h1:x.sa≤s.length) (d:Nat) (b:Id) (hb:b.isIt=false) (hbd:b.isNw d=false):
  b7 Tryz.prog gl 78 d ⟨[.ptr b 0],[(b,ed s x)],[(.b b 1,5)]⟩ ⟨.bool (ju V s x).2,[(b,ed s (ju V s x).1)],[(.b b 1,5)]⟩:=by
 refine QX rfl ?_;have hib:=aP hbd;have HV:=hV (cR s x.sa s.length) (qV s x.sa s.length);have h1':(x.sa:Int)≤s.length:=by omega
 have hss:List.drop x.sa s=cR s x.sa s.length:=by unfold cR;rw [sg]
 have hz:(TV.t 0 [] 0).av= .ifc 55 (.agg [.int .i64 0,.str [],.int .u64 0,.int .i64 0,.int .i64 0]):=rfl;have ho:(TV.t 0 [] 0).ok=true:=rfl;have W:=fun e=>dG s x 5 e (.up b) hb
 unfold ju;by_cases c1:x.st=1
 ·rw [if_pos c1];have A:=fun e=>gx s x (by omega) (V (cR s x.sa s.length)) e (.up b) hb
  have ao:=Sc.add_out x (V (cR s x.sa s.length));have B:=fun e=>fL s (x.add (V (cR s x.sa s.length))) s.length 0 e (.up b) hb
  have A2:=fun e=>gx s ((x.add (V (cR s x.sa s.length))).begin s.length 0) (by rw [Sc.begin_out];omega) (.t 0 [] 0) e (.up b) hb
  rw [hz,ho] at A2;generalize cR s x.sa s.length=W0 at *
  cases hk:(V W0).ok
  ·rw [if_neg (by decide)];dsimp only;rw [hk] at A;have hsh:dB (V W0).av=some (V W0).av:=by cases V W0<;>rfl
   have hid:(V W0).av.ids=[]:=by cases V W0<;>rfl
   have hmp: ∀f,(V W0).av.mp f=(V W0).av:=fun f=>by cases V W0<;>rfl
   generalize (V W0).av=vv at *
   generalize x.add (V W0)=y at *
   clear B A2;unfold ed at *
   generalize x.out.map Tk.row=L at *
   generalize y.out.map Tk.row=L1 at *
   simp only [az,bE,a7,AV.mp,bK,Pl.mp];simp [KJ,c1,h1,h1',hss];apply ab HV;simp [hsh,hid,hmp];refine jl _ _ (A _ rfl) ⟨?_,?_,?_,?_,?_,?_,?_⟩ ⟨?_,?_,?_⟩ ?_;iterate 10 (· simp [Pl.isB,Pl.isF,hb,hid,hmp,c1])
   simp [hid,hmp];apply ai<;>simp [hib,hb,hid,hmp]
  ·rw [if_pos rfl];rw [hk] at A;have hsh:dB (V W0).av=some (V W0).av:=by cases V W0<;>rfl
   have hid:(V W0).av.ids=[]:=by cases V W0<;>rfl
   have hmp: ∀f,(V W0).av.mp f=(V W0).av:=fun f=>by cases V W0<;>rfl
   generalize (V W0).av=vv at *
   generalize x.add (V W0)=y at *
   generalize y.begin s.length 0=y1 at *
   generalize y1.add (.t 0 [] 0)=y2 at *
   unfold ed at *
   generalize x.out.map Tk.row=L at *
   generalize y.out.map Tk.row=L1 at *
   generalize y1.out.map Tk.row=L2 at *
   generalize y2.out.map Tk.row=L3 at *
   simp only [az,bE,a7,AV.mp,bK,Pl.mp];simp [KJ,c1,h1,h1',hss];apply ab HV;simp [hsh,hid,hmp];refine jl _ _ (A _ rfl) ⟨?_,?_,?_,?_,?_,?_,?_⟩ ⟨?_,?_,?_⟩ ?_;iterate 10 (· simp [Pl.isB,Pl.isF,hb,hid,hmp,c1])
   simp [hid,hmp];refine aK _ _ (B _ rfl) ⟨?_,?_,?_,?_,?_,?_,?_⟩ ?_;iterate 7 (· simp [hb,hid,hmp])
   simp [hid,hmp];refine aK _ _ (A2 _ rfl) ⟨?_,?_,?_,?_,?_,?_,?_⟩ ?_;iterate 7 (· simp [hb,hid,hmp])
   simp [hid,hmp];apply ai<;>simp [hib,hb,hid,hmp]
 rw [if_neg c1];have n1:(x.st==1)=false:=dh.2 c1;by_cases c3:x.st=2
 ·rw [if_pos (.inl c3)];dsimp only;generalize x.wrong 5=y at *
  unfold ed at *
  generalize x.out.map Tk.row=L at *
  generalize y.out.map Tk.row=L1 at *
  simp only [az,bE,a7,AV.mp,bK,Pl.mp];simp [KJ,c3];refine aK _ _ (W _ rfl) ⟨?_,?_,?_,?_,?_,?_,?_⟩ ?_;iterate 7 (· simp [hb,c3])
  simp;apply ai<;>simp [hib,hb]
 have n3:(x.st==2)=false:=dh.2 c3;by_cases c4:x.st=3
 ·rw [if_pos (.inr c4)];dsimp only;generalize x.wrong 5=y at *
  unfold ed at *
  generalize x.out.map Tk.row=L at *
  generalize y.out.map Tk.row=L1 at *
  simp only [az,bE,a7,AV.mp,bK,Pl.mp];simp [KJ,c4];refine aK _ _ (W _ rfl) ⟨?_,?_,?_,?_,?_,?_,?_⟩ ?_;iterate 7 (· simp [hb,c4])
  simp;apply ai<;>simp [hib,hb]
 have n4:(x.st==3)=false:=dh.2 c4;rw [if_neg (by omega)];have B:=fun e=>fL s x s.length 0 e (.up b) hb
 have A2:=fun e=>gx s (x.begin s.length 0) (by rw [Sc.begin_out];omega) (.t 0 [] 0) e (.up b) hb
 rw [hz,ho] at A2;dsimp only;generalize x.begin s.length 0=y1 at *
 generalize y1.add (.t 0 [] 0)=y2 at *
 clear W;unfold ed at *
 generalize x.out.map Tk.row=L at *
 generalize y1.out.map Tk.row=L2 at *
 generalize y2.out.map Tk.row=L3 at *
 simp only [az,bE,a7,AV.mp,bK,Pl.mp];simp [KJ,n1,n3,n4];refine aK _ _ (B _ rfl) ⟨?_,?_,?_,?_,?_,?_,?_⟩ ?_;iterate 7 (· simp [hb])
 simp;refine aK _ _ (A2 _ rfl) ⟨?_,?_,?_,?_,?_,?_,?_⟩ ?_;iterate 7 (· simp [hb])
 simp;apply ai<;>simp [hib,hb]
open Go.Proofs
def Ac (l:List Int) (i:Nat):Nat:=if h:i<l.length then (if l[i]=10 then i else Ac l (i+1)) else i
termination_by l.length - i
theorem uV {l:List Int} {i:Nat} (h:i<l.length):Ac l i=if l[i]=10 then i else Ac l (i+1):=by rw [Ac,dif_pos h]
theorem py {l:List Int} {i:Nat} (h: ¬i<l.length):Ac l i=i:=by rw [Ac,dif_neg h]
theorem FJ (l:List Int): ∀(n i:Nat),l.length - i≤n→i≤l.length→i≤Ac l i∧Ac l i≤l.length
 |0,i,h,hi=>by rw [py (by omega)];omega
 |n+1,i,h,hi=>by
  by_cases g:i<l.length
  ·rw [uV g];split
   ·omega
   ·have:=FJ l n (i+1) (by omega) (by omega)
    omega
  ·rw [py g];omega
def bp (VR:List Int→TV) (U:List UInt8→List UInt8×Int) (l:List Int) (P:List (Int×Int)):Nat→Nat→List Tk→TR
 |0,_,_=>⟨[],0,0,0⟩
 |f+1,i,out=>match l[i]? with
  |none=>⟨out++[⟨0,[],0,(P.getD l.length (0,0)).1,(P.getD l.length (0,0)).2⟩],0,0,0⟩
  |some r=>if r=32∨r=9∨r=10 then bp VR U l P f (i+1) out
   else if r=35 then bp VR U l P f (Ac l i) out
   else if (ck VR U l i r).c=0 then bp VR U l P f (ck VR U l i r).en (out++[⟨(ck VR U l i r).k,(ck VR U l i r).w,(ck VR U l i r).n,(P.getD i (0,0)).1,(P.getD i (0,0)).2⟩])
   else ⟨[],(ck VR U l i r).c,(P.getD i (0,0)).1,(P.getD i (0,0)).2⟩
def CY (VR:List Int→TV) (U:List UInt8→List UInt8×Int) (s:List UInt8):TR:=
 if 40000<s.length then ⟨[],9,1,1⟩ else bp VR U (ag s 0) (vp 1 1 (ag s 0)) ((ag s 0).length+1) 0 []
theorem Ic (VR:List Int→TV) (U:List UInt8→List UInt8×Int) (l:List Int) (i:Nat) (h:i<l.length) (hc:(ck VR U l i l[i]).c=0):i<(ck VR U l i l[i]).en∧(ck VR U l i l[i]).en≤l.length:=by
 unfold ck at hc ⊢;by_cases c1:l[i]=123
 ·rw [if_pos c1];exact ⟨Mj _,h⟩
 rw [if_neg c1] at hc ⊢;by_cases c2:l[i]=125
 ·rw [if_pos c2];exact ⟨Mj _,h⟩
 rw [if_neg c2] at hc ⊢;by_cases c3:l[i]=59
 ·rw [if_pos c3];exact ⟨Mj _,h⟩
 rw [if_neg c3] at hc ⊢;by_cases c4:l[i]=34
 ·rw [if_pos c4] at hc ⊢
  have:=Aa l l.length (i+1) (by omega)
  by_cases c5:lC l (i+1)=0
  ·rw [if_pos c5] at hc;exact absurd hc (by decide)
  ·rw [if_neg c5];dsimp only;omega
 rw [if_neg c4] at hc ⊢;by_cases c5:wthn l[i]=true
 ·rw [if_pos c5] at hc ⊢;have w1:=jt h;rw [if_pos c5] at w1;have w2:=px l l.length (i+1) (by omega) (by omega);rw [←w1] at w2;generalize VR (cF l i (fM l i))=v at *
  cases v<;>(dsimp only [TV.on];omega)
 ·rw [if_neg c5] at hc;exact absurd hc (by decide)
open Go.Proofs
theorem lD (s:List UInt8) (i n r0 l:Nat) (h:(bR s i n r0 l).1= -1):(bR s i n r0 l).2=1:=by
 unfold bR at h ⊢;split
 ·rename_i c;rw [if_pos c] at h;simp only at h;omega
 ·rfl
theorem qX (s:List UInt8) (i:Nat) (h:(ah s i).1= -1):(ah s i).2=1:=by
 unfold ah at h ⊢;simp only at h ⊢;split
 ·rfl
 ·rename_i c1;rw [if_neg c1] at h;split
  ·rename_i c2;rw [if_pos c2] at h;exact lD _ _ _ _ _ h
  ·rename_i c2;rw [if_neg c2] at h;split
   ·rename_i c3;rw [if_pos c3] at h;exact lD _ _ _ _ _ h
   ·rename_i c3;rw [if_neg c3] at h;split
    ·rename_i c4;rw [if_pos c4] at h;exact lD _ _ _ _ _ h
    ·rfl
theorem FM (s:List UInt8) (i:Nat): ∀n,kZ s i n=true→n=0∨i+n<s.length
 |0,_=> .inl rfl
 |k+1,h=>by
  rw [kZ,aC] at h;exact .inr (js h.2)
theorem qY (s:List UInt8) (i n r0 l:Nat) (h:i<s.length):i+(bR s i n r0 l).2≤s.length:=by
 unfold bR;split
 ·rename_i c;rw [aC] at c
  have:=FM s i n c.1
  simp only;omega
 ·exact h
theorem fN (s:List UInt8) (i:Nat) (h:i<s.length):i+(ah s i).2≤s.length:=by
 unfold ah;simp only;split
 ·exact h
 ·split
  ·exact qY _ _ _ _ _ h
  ·split
   ·exact qY _ _ _ _ _ h
   ·split
    ·exact qY _ _ _ _ _ h
    ·exact h
theorem mP (s:List UInt8) (i:Nat) (h:i<s.length):bD s i=(jv (ah s i).1,(ah s i).2):=by
 rw [cg s i h];unfold jv;by_cases c:(ah s i).1= -1
 ·rw [if_pos c,if_pos c,qX s i c]
 ·rw [if_neg c,if_neg c]
theorem Bu (V:List UInt8→TV) (U:List UInt8→List UInt8×Int) (s:List UInt8) (x:Sc) (i:Nat) (h:i<s.length):dL V U s x i=
  if (bv V U s x i (jv (ah s i).1)).2=true then dL V U s ((bv V U s x i (jv (ah s i).1)).1.adv (jv (ah s i).1)) (i+(ah s i).2) else ((bv V U s x i (jv (ah s i).1)).1,false):=by
 rw [dL,dif_pos h]
theorem iV (V:List UInt8→TV) (U:List UInt8→List UInt8×Int) (s:List UInt8) (x:Sc) (i:Nat) (h: ¬i<s.length):dL V U s x i=(x,true):=by
 rw [dL,dif_neg h]
theorem Sc.adv_out (x:Sc) (r:Int):(x.adv r).out=x.out:=by unfold Sc.adv;split<;>rfl
theorem Sc.adv_sa (x:Sc) (r:Int):(x.adv r).sa=x.sa:=by unfold Sc.adv;split<;>rfl
structure FN (x:Sc) (i:Nat):Prop where
 sa:x.sa≤i
 ou:x.out.length≤2*i
 a0:0≤x.al
 a1:x.al≤i+1
 c0:0≤x.ac
 c1:x.ac≤i+1
theorem FN.step {x:Sc} {i:Nat} (h:FN x i) (V:List UInt8→TV) (U:List UInt8→List UInt8×Int) (s:List UInt8) (r:Int) (w:Nat) (hw:1≤w):FN ((bv V U s x i r).1.adv r) (i+w):=by
 have k:=qW V U s x i r h.sa;have o:=CW V U s x i r;have h2:=h.ou;have h3:=h.a0;have h4:=h.a1;have h5:=h.c0;have h6:=h.c1;refine ⟨by rw [Sc.adv_sa];omega,by rw [Sc.adv_out];omega,?_,?_,?_,?_⟩<;>unfold Sc.adv<;>split<;>simp only<;>omega
theorem Kr:FN vq 0:=⟨eV _,eV _,by decide,by decide,by decide,by decide⟩
theorem mQ (V:List UInt8→TV) (U:List UInt8→List UInt8×Int) (s:List UInt8) (hU: ∀w,w.length≤s.length→Sp Tryz.prog gl 196 [.str w] (.tup [.str (U w).1,i6 (U w).2])) (hV: ∀w,w.length≤s.length→Sp Tryz.prog gl 109 [.str w] (V w).av):
  Sp Tryz.prog gl 47 [.str s] (oP V U s).av:=by
 refine P6 rfl rfl ?_;have B:=fun (e:Nat) (he:(Id.n 10).isNw e=false)=>fL s ⟨[],0,0,0,0,1,1,0,0,0⟩ 0 0 e (.n 10) rfl he
 have hB:Sc.begin ⟨[],0,0,0,0,1,1,0,0,0⟩ 0 0=vq:=rfl;rw [hB] at B;unfold oP;by_cases hl:40000<s.length
 ·rw [if_pos hl];have hl':(40000:Int)<s.length:=by omega
  have W:=fun (e:Nat) (he:(Id.n 10).isNw e=false)=>dG s vq 9 e (.n 10) rfl he
  unfold ed Sc.wrong vq at *
  simp only [vn] at B W;unfold TR.av;simp [Mf];refine ax _ _ (B _ rfl) ?_;simp [hl,hl'];refine ax _ _ (W _ rfl) ?_;simp
 ·rw [if_neg hl];have hl': ¬(40000:Int)<s.length:=by omega
  have B: ∀(e:Nat) (he:(Id.n 10).isNw e=false),b7 Tryz.prog gl 75 e ⟨[.ptr (.n 10) 0,i6 0,i6 0],[(.n 10,[.str s,.sl [],i6 0,i6 0,i6 0,i6 0,i6 1,i6 1,i6 0,i6 0,i6 0])],[(.b (.n 10) 1,5)]⟩ ⟨.tup [],[(.n 10,ed s vq)],[(.b (.n 10) 1,5)]⟩:=B;obtain ⟨R,hR⟩: ∃R,R=dL V U s vq 0:=⟨_,rfl⟩;rw [←hR];have sl: ∀x,(ed s x).length=11:=fun _=>rfl
  have si: ∀x,bc (ed s x)=[]:=fun _=>rfl
  simp [Mf];refine ax _ _ (B _ rfl) ?_;simp [hl,hl',sl,si];refine bT (α:=Sc×Nat) (fun y=>⟨[(0,.str s),(3,.ptr (.n 3) 0),(4,.ptr (.n 10) 0),(23,.itp 23)],[(.n 3,[i6 0,i6 0,i6 0]),(.n 10,ed s y.1),(.it 23,[.itr s y.2])],[(.b (.n 10) 1,5)]⟩)
   (fun y=>FN y.1 y.2∧y.2≤s.length∧dL V U s y.1 y.2=R) (fun y=>s.length - y.2) ?_ (vq,0) ?_ ?_
  ·rintro K ⟨x,i⟩ hK ⟨h1,h2,h3⟩;simp only at h1 h2 h3;by_cases g:i<s.length
   ·have sr:=mP s i g;have sp:=bA s i;have sw:=fN s i g;rw [Bu V U s x i g] at h3;have o1:=h1.ou;have T:=fun r (e:Nat) (he:(Id.n 10).isNw e=false)=>Ab V U s hU hV x (by omega) (by omega) i h1.sa g r e (.n 10) rfl he
    have ko:=h1.step V U s (jv (ah s i).1) (ah s i).2 sp;have kk:=qW V U s x i (jv (ah s i).1) h1.sa;have c0:=h1.c0;have c1:=h1.c1;have a0:=h1.a0;have a1:=h1.a1;have T:=T (jv (ah s i).1);generalize hq:jv (ah s i).1=r at *
    generalize (ah s i).2=w at *
    generalize (bv V U s x i r).2=ok at *
    generalize (bv V U s x i r).1=y at *
    have fin:dL V U s (y.adv r) (i+w)=R→ ∀σ',e7 σ' ⟨[(0,.str s),(3,.ptr (.n 3) 0),(4,.ptr (.n 10) 0),(23,.itp 23)],[(.n 3,[i6 0,i6 0,i6 0]),(.n 10,ed s (y.adv r)),(.it 23,[.itr s (i+w)])],[(.b (.n 10) 1,5)]⟩→K σ':=
     fun hh σ' hσ=>hK (y.adv r,i+w) σ' ⟨ko,by simp only;omega,hh⟩ (by simp only;omega) hσ
    have w1:IntKind.i64.wrap (y.ac+1)=y.ac+1:=by rw [an]<;>omega
    have w2:IntKind.i64.wrap (y.al+1)=y.al+1:=by rw [an]<;>omega
    clear hK hR ko;cases ok
    ·rw [if_neg (by decide)] at h3;subst h3;clear fin;dsimp only;rw [if_neg (by decide)];unfold TR.bad TR.av;unfold ed at *
     generalize y.out.map Tk.row=L at *
     generalize x.out.map Tk.row=L0 at *
     simp [g,sr];refine ax _ _ (T _ rfl) ?_;simp
    ·rw [if_pos rfl] at h3;have fin:=fin h3;clear h3;generalize TR.av _=res;unfold Sc.adv at fin;by_cases c:r=10
     ·rw [if_pos c] at fin;unfold ed at *
      generalize y.out.map Tk.row=L at *
      generalize x.out.map Tk.row=L0 at *
      simp [g,sr];refine ax _ _ (T _ rfl) ?_;simp [c,w1,w2];refine fin _ ?_;apply am<;>simp
     ·rw [if_neg c] at fin;have c':(r==10)=false:=dh.2 c;unfold ed at *
      generalize y.out.map Tk.row=L at *
      generalize x.out.map Tk.row=L0 at *
      simp [g,sr];refine ax _ _ (T _ rfl) ?_;simp [c,c',w1,w2];refine fin _ ?_;apply am<;>simp
   ·rw [iV V U s x i g] at h3;subst h3;dsimp only;rw [if_pos rfl];have o1:=h1.ou;have hsa:=h1.sa;clear hK;have E:=fun (e:Nat) (he:(Id.n 10).isNw e=false)=>CX V s hV x (by omega) (by omega) (by omega) e (.n 10) rfl he
    generalize (ju V s x).2=ok at *
    generalize (ju V s x).1=y at *
    cases ok
    ·rw [if_neg (by decide)];unfold TR.bad TR.av;unfold ed at *
     generalize y.out.map Tk.row=L at *
     generalize x.out.map Tk.row=L0 at *
     simp [g];refine ax _ _ (E _ rfl) ?_;simp
    ·rw [if_pos rfl];unfold TR.av;unfold ed at *
     dsimp only;generalize y.out.map Tk.row=L at *
     generalize x.out.map Tk.row=L0 at *
     simp [g];refine ax _ _ (E _ rfl) ?_;simp
  ·exact ⟨Kr,by simp only;omega,hR.symm⟩
  ·apply am<;>simp [ed,vq]
open Go.Proofs
def jH (V:List UInt8→TV) (s:List UInt8) (p:Sc×Bool):TR:=
 if p.2=true then (if (ju V s p.1).2=true then ⟨(ju V s p.1).1.out,0,0,0⟩ else .bad (ju V s p.1).1) else .bad p.1
theorem kp:wthn (-1)=false∧wthn 65533=false:=⟨by decide,by decide⟩
theorem qZ (x:Sc) (i:Nat) (r:Int):cu x i (jv r)=cu x i r:=by
 unfold jv;by_cases c:r= -1
 ·subst c;rw [if_pos rfl];unfold cu;simp [kp.1,kp.2]
 ·rw [if_neg c]
theorem xv (U:List UInt8→List UInt8×Int) (s:List UInt8) (x:Sc) (i:Nat) (r:Int):bj U s x i (jv r)=bj U s x i r:=by
 unfold jv;by_cases c:r= -1
 ·subst c;rw [if_pos rfl];unfold bj;simp
 ·rw [if_neg c]
theorem CZ (V:List UInt8→TV) (U:List UInt8→List UInt8×Int) (s:List UInt8) (x:Sc) (i:Nat) (r:Int):bv V U s x i (jv r)=bv V U s x i r:=by
 unfold bv;rw [xv,qZ,qZ];have h:wthn (jv r)=wthn r:=by
  unfold jv;by_cases c:r= -1
  ·subst c;rw [if_pos rfl,kp.1,kp.2]
  ·rw [if_neg c]
 have h2:(jv r=10)=(r=10):=by
  unfold jv;by_cases c:r= -1
  ·subst c;simp
  ·rw [if_neg c]
 rw [h];simp only [h2]
theorem Ie (x:Sc) (r:Int):x.adv (jv r)=x.adv r:=by
 unfold jv;by_cases c:r= -1
 ·subst c;rfl
 ·rw [if_neg c]
theorem eH (V:List UInt8→TV) (U:List UInt8→List UInt8×Int) (s:List UInt8) (x:Sc) (i:Nat) (h:i<s.length):dL V U s x i=
  if (bv V U s x i (ah s i).1).2=true then dL V U s ((bv V U s x i (ah s i).1).1.adv (ah s i).1) (i+(ah s i).2) else ((bv V U s x i (ah s i).1).1,false):=by
 rw [Bu V U s x i h,CZ,Ie]
theorem mR (l:List Int) (a b:Int):(vp a b l).getD 0 (0,0)=(a,b):=by cases l<;>rfl
theorem q8: ∀(l:List Int) (a b:Int) (k:Nat) (h:k<l.length),(vp a b l).getD (k+1) (0,0)=if l[k]=10 then (((vp a b l).getD k (0,0)).1+1,1) else (((vp a b l).getD k (0,0)).1,((vp a b l).getD k (0,0)).2+1)
 |[],a,b,k,h=>absurd h (by simp)
 |r::l,a,b,0,h=>by
  rw [mR];simp only [List.getElem_cons_zero];rw [vp,List.getD_cons_succ];split
  ·rw [mR]
  ·rw [mR]
 |r::l,a,b,k+1,h=>by
  simp only [List.getElem_cons_succ];rw [vp,List.getD_cons_succ,List.getD_cons_succ];split
  ·exact q8 l _ _ k (by simpa using h)
  ·exact q8 l _ _ k (by simpa using h)
structure At (s:List UInt8) (l:List Int) (i k:Nat):Prop where
 r:ag s i=l.drop k
 i:i≤s.length
 k:k≤l.length
theorem At.next {s:List UInt8} {l:List Int} {i k:Nat} (h:At s l i k) (g:k<l.length):i<s.length∧(ah s i).1=l[k]∧At s l (i+(ah s i).2) (k+1):=by
 have e:=h.r;rw [sf g] at e;by_cases c:i<s.length
 ·rw [aQ c] at e;injection e with e1 e2;exact ⟨c,e1,e2,fN s i c,g⟩
 ·rw [aD c] at e;cases e
theorem At.end {s:List UInt8} {l:List Int} {i:Nat} (h:At s l i l.length):i=s.length:=by
 have e:=h.r;rw [Ix] at e;by_cases c:i<s.length
 ·rw [aQ c] at e;cases e
 ·have:=h.i;omega
theorem iW {l:List Int} {a j:Nat} (h:j<l.length) (ha:a≤j):cF l a (j+1)=cF l a j++[l[j]]:=by
 unfold cF;rw [Gy h,List.drop_append_of_le_length (by rw [sj];omega)]
theorem kq (l:List Int) (a:Nat):cF l a a=[]:=by
 unfold cF;rw [Aq (by rw [sj];omega)]
theorem Bv (V:List UInt8→TV) (U:List UInt8→List UInt8×Int) (s:List UInt8) (x:Sc) (i:Nat) (r:Int) (h:x.st=0):bv V U s x i r=cu x i r:=by
 unfold bv;rw [if_neg (by omega),if_neg (by omega),if_neg (by omega)]
theorem FP (V:List UInt8→TV) (s:List UInt8) (x:Sc) (h:x.st=0∨x.st=4):ju V s x=((x.begin s.length 0).add (.t 0 [] 0),true):=by
 unfold ju;rw [if_neg (by omega),if_neg (by omega)]
theorem q9 (V:List UInt8→TV) (U:List UInt8→List UInt8×Int) (s:List UInt8) (x:Sc) (h:x.st=0∨x.st=4):jH V s (dL V U s x s.length)=⟨x.out++[⟨0,[],0,x.al,x.ac⟩],0,0,0⟩:=by
 rw [iV V U s x s.length (by omega)];unfold jH;rw [if_pos rfl,FP V s x h,if_pos rfl];rfl
theorem nZ (VR:List Int→TV) (U:List UInt8→List UInt8×Int) (l:List Int) (P:List (Int×Int)) (f:Nat) (out:List Tk):bp VR U l P (f+1) l.length out=⟨out++[⟨0,[],0,(P.getD l.length (0,0)).1,(P.getD l.length (0,0)).2⟩],0,0,0⟩:=by
 rw [bp,Di (by omega)]
theorem xw (VR:List Int→TV) (U:List UInt8→List UInt8×Int) (l:List Int) (P:List (Int×Int)) (f k:Nat) (out:List Tk) (h:k<l.length):bp VR U l P (f+1) k out=
  if l[k]=32∨l[k]=9∨l[k]=10 then bp VR U l P f (k+1) out
   else if l[k]=35 then bp VR U l P f (Ac l k) out
   else if (ck VR U l k l[k]).c=0 then bp VR U l P f (ck VR U l k l[k]).en (out++[⟨(ck VR U l k l[k]).k,(ck VR U l k l[k]).w,(ck VR U l k l[k]).n,(P.getD k (0,0)).1,(P.getD k (0,0)).2⟩])
   else ⟨[],(ck VR U l k l[k]).c,(P.getD k (0,0)).1,(P.getD k (0,0)).2⟩:=by
 rw [bp,rC h]
def ig (l:List Int) (x:Sc) (k:Nat):Prop:=(x.al,x.ac)=(vp 1 1 l).getD k (0,0)
theorem ig.adv {l:List Int} {x:Sc} {k:Nat} (h:ig l x k) (g:k<l.length) {y:Sc} (h1:y.al=x.al) (h2:y.ac=x.ac):ig l (y.adv l[k]) (k+1):=by
 unfold ig at h ⊢;rw [q8 l 1 1 k g,←h];unfold Sc.adv;split
 ·rw [←h1]
 ·rw [←h1,←h2]
theorem ig.one {l:List Int} {x:Sc} {k:Nat} (h:ig l x k):((vp 1 1 l).getD k (0,0)).1=x.al∧((vp 1 1 l).getD k (0,0)).2=x.ac:=by
 unfold ig at h;rw [←h];exact ⟨rfl,rfl⟩
theorem Sc.adv_st (x:Sc) (r:Int):(x.adv r).st=x.st:=by unfold Sc.adv;split<;>rfl
theorem Sc.adv_f (x:Sc) (r:Int):(x.adv r).fl=x.fl∧(x.adv r).fc=x.fc:=by unfold Sc.adv;split<;>exact ⟨rfl,rfl⟩
open Go.Proofs
structure C0 (V:List UInt8→TV) (U:List UInt8→List UInt8×Int) (VR:List Int→TV) (U':List Int→List UInt8×Int):Prop where
 u: ∀w,U w=U' (ag w 0)
 v: ∀m:List Int,m≠[]→(∀r∈m,wthn r=true)→VR m=V (aq m)
 e: ∀w c,V w= .e c→c≠0
def Ks (V:List UInt8→TV) (U:List UInt8→List UInt8×Int) (VR:List Int→TV) (s:List UInt8) (l:List Int) (k:Nat):Prop:=
 ∀i x f,At s l i k→x.st=0→ig l x k→l.length+1 - k≤f→jH V s (dL V U s x i)=bp VR U l (vp 1 1 l) f k x.out
variable {V:List UInt8→TV} {U:List UInt8→List UInt8×Int} {VR:List Int→TV} {U':List Int→List UInt8×Int} {s:List UInt8} {l:List Int}
theorem By:Ks V U VR s l l.length:=by
 intro i x f hA hst hP hf;obtain rfl:=hA.end;obtain ⟨f,rfl⟩: ∃g,f=g+1:=⟨f - 1,by omega⟩;rw [q9 V U s x (.inl hst),nZ,hP.one.1,hP.one.2]
theorem If (x:Sc) (i:Nat) (r:Int) (h:x.st=4):bv V U s x i r=((if r=10 then {x with st:=0} else x),true):=by
 unfold bv;rw [if_neg (by omega),if_pos h]
theorem Ma: ∀n j,l.length - j≤n→(∀k',j<k'→k'≤l.length→Ks V U VR s l k')→ ∀i x f,At s l i j→x.st=4→ig l x j→l.length+1 - j≤f→jH V s (dL V U s x i)=bp VR U l (vp 1 1 l) f (Ac l j) x.out:=by
 intro n;induction n with
 |zero=>
  intro j hj hB i x f hA hst hP hf
  have:j=l.length:=by have:=hA.k;omega
  subst this;obtain rfl:=hA.end;obtain ⟨f,rfl⟩: ∃g,f=g+1:=⟨f - 1,by omega⟩;rw [q9 V U s x (.inr hst),py (by omega),nZ,hP.one.1,hP.one.2]
 |succ n ih=>
  intro j hj hB i x f hA hst hP hf;by_cases g:j<l.length
  ·obtain ⟨hi,hr,hA'⟩:=hA.next g
   rw [eH V U s x i hi,hr,If x i _ hst,if_pos rfl];dsimp only;rw [uV g];by_cases c:l[j]=10
   ·rw [if_pos c,if_pos c];obtain ⟨f,rfl⟩: ∃g,f=g+1:=⟨f - 1,by omega⟩;rw [xw VR U l _ f j _ g,if_pos (.inr (.inr c))]
    have:=hB (j+1) (by omega) (by omega) _ (({x with st:=0}:Sc).adv l[j]) f hA' (by rw [Sc.adv_st]) (hP.adv g rfl rfl) (by omega)
    rw [Sc.adv_out] at this;exact this
   ·rw [if_neg c,if_neg c]
    have:=ih (j+1) (by omega) (fun k' a b=>hB k' (by omega) b) _ (x.adv l[j]) f hA' (by rw [Sc.adv_st];exact hst) (hP.adv g rfl rfl) (by omega)
    rw [Sc.adv_out] at this;exact this
  ·have:j=l.length:=by have:=hA.k;omega
   subst this;obtain rfl:=hA.end;obtain ⟨f,rfl⟩: ∃g,f=g+1:=⟨f - 1,by omega⟩;rw [q9 V U s x (.inr hst),py (by omega),nZ,hP.one.1,hP.one.2]
theorem Bz {k0 j:Nat} (h:k0<j) (hj:j≤l.length):cF l k0 j≠[]:=by
 intro e
 have:(cF l k0 j).length=0:=by rw [e];rfl
 unfold cF at this;rw [sn,sj] at this;omega
theorem Ig {r:Int} (h:wthn r=true):r≠ -1:=by
 intro e;rw [e,kp.1] at h;cases h
def xx (VR:List Int→TV) (U:List UInt8→List UInt8×Int) (l:List Int) (f e:Nat) (v:TV) (x:Sc):TR:=match v with
 | .e c=>⟨[],c,x.fl,x.fc⟩
 | .t k w n=>bp VR U l (vp 1 1 l) f e (x.out++[⟨k,w,n,x.fl,x.fc⟩])
theorem re (H:C0 V U VR U') {j k0 i f:Nat} {x:Sc} (hB: ∀k',k0<k'→k'≤l.length→Ks V U VR s l k') (hk:k0<j) (hA:At s l i j) (hst:x.st=1) (hP:ig l x j) (hW:Wk s x.sa (cF l k0 j) i) (hw: ∀r∈cF l k0 j,wthn r=true) (hf:l.length≤f+k0)
  (hn: ∀h:j<l.length,wthn l[j]=false):jH V s (dL V U s x i)=xx VR U l f j (VR (cF l k0 j)) x:=by
 have et:cR s x.sa i=aq (cF l k0 j):=uP s _ _ _ hA.i hW (fun r hr=>Ig (hw r hr));have ev:=H.v (cF l k0 j) (Bz hk hA.k) hw;rw [ev,←et];cases hv:V (cR s x.sa i) with
 |e c=>
  by_cases g:j<l.length
  ·obtain ⟨hi,hr,hA'⟩:=hA.next g
   rw [eH V U s x i hi,hr];have ht:bv V U s x i l[j]=(x.add (.e c),false):=by
    unfold bv;rw [if_pos hst,if_neg (by rw [hn g];decide),hv,if_neg (show ¬(TV.e c).ok=true from by intro h;cases h)]
   rw [ht,if_neg (show ¬(x.add (.e c),false).2=true from by intro h;cases h)];rfl
  ·have:j=l.length:=by have:=hA.k;omega
   subst this;obtain rfl:=hA.end;rw [iV V U s x _ (by omega)];unfold jH;rw [if_pos rfl];have ht:ju V s x=(x.add (.e c),false):=by
    unfold ju;rw [if_pos hst,hv,if_neg (show ¬(TV.e c).ok=true from by intro h;cases h)]
   rw [ht,if_neg (show ¬(x.add (.e c),false).2=true from by intro h;cases h)];rfl
 |t k w n=>
  have hs:dL V U s x i=dL V U s (x.add (.t k w n)) i∨jH V s (dL V U s x i)=jH V s (dL V U s (x.add (.t k w n)) i):=by
   by_cases g:j<l.length
   ·obtain ⟨hi,hr,hA'⟩:=hA.next g
    left;rw [eH V U s x i hi,eH V U s (x.add (.t k w n)) i hi,hr,Bv V U s (x.add (.t k w n)) i _ rfl];have ht:bv V U s x i l[j]=cu (x.add (.t k w n)) i l[j]:=by
     unfold bv;rw [if_pos hst,if_neg (by rw [hn g];decide),hv,if_pos (show (TV.t k w n).ok=true from rfl)]
    rw [ht]
   ·right
    have:j=l.length:=by have:=hA.k;omega
    subst this;obtain rfl:=hA.end;rw [iV V U s x _ (by omega),iV V U s (x.add (.t k w n)) _ (by omega)];unfold jH;rw [if_pos rfl,if_pos rfl];have ht:ju V s x=(((x.add (.t k w n)).begin s.length 0).add (.t 0 [] 0),true):=by
     unfold ju;rw [if_pos hst,hv,if_pos (show (TV.t k w n).ok=true from rfl)]
    have ht2:=FP V s (x.add (.t k w n)) (.inl rfl);simp only [ht,ht2]
  have hs:jH V s (dL V U s x i)=jH V s (dL V U s (x.add (.t k w n)) i):=by
   rcases hs with h|h
   ·rw [h]
   ·exact h
  rw [hs];exact hB j hk hA.k i (x.add (.t k w n)) f hA rfl hP (by omega)
theorem Kt (H:C0 V U VR U'): ∀n j,l.length - j≤n→ ∀k0 i x f,k0<j→(∀k',k0<k'→k'≤l.length→Ks V U VR s l k')→At s l i j→x.st=1→ig l x j→Wk s x.sa (cF l k0 j) i→(∀r∈cF l k0 j,wthn r=true)→l.length≤f+k0→
  jH V s (dL V U s x i)=xx VR U l f (fM l j) (VR (cF l k0 (fM l j))) x:=by
 intro n;induction n with
 |zero=>
  intro j hj k0 i x f hk hB hA hst hP hW hw hf;have g: ¬j<l.length:=by omega
  rw [gP g];exact re H hB hk hA hst hP hW hw hf (fun h=>absurd h g)
 |succ n ih=>
  intro j hj k0 i x f hk hB hA hst hP hW hw hf;by_cases g:j<l.length
  ·rw [jt g];by_cases c:wthn l[j]=true
   ·rw [if_pos c];obtain ⟨hi,hr,hA'⟩:=hA.next g
    have ht:bv V U s x i l[j]=(x,true):=by
     unfold bv;rw [if_pos hst,if_pos c]
    rw [eH V U s x i hi,hr,ht,if_pos rfl];have hsn:=iW g (show k0≤j by omega);have hW':=pw s _ _ _ hW hi;rw [hr,←hsn] at hW'
    have:=ih (j+1) (by omega) k0 _ (x.adv l[j]) f (by omega) hB hA' (by rw [Sc.adv_st];exact hst) (hP.adv g rfl rfl) (by rw [Sc.adv_sa];exact hW') (fun r hr=>by
     rw [hsn,gg,m9] at hr;rcases hr with hr|rfl
     ·exact hw r hr
     ·exact c) hf
    rw [this];unfold xx;rw [Sc.adv_out,(Sc.adv_f x _).1,(Sc.adv_f x _).2]
   ·rw [if_neg c];exact re H hB hk hA hst hP hW hw hf (fun h=>by simpa using c)
  ·rw [gP g];exact re H hB hk hA hst hP hW hw hf (fun h=>absurd h g)
end Go.Ai
