/- P14: a part of the proof. Conditions: as each theorem says. -/
import Derived.Test.YtggemlhclppciaaGreatDoorP13
set_option maxHeartbeats 4000000
set_option linter.unusedSimpArgs false
set_option linter.unusedVariables false
set_option maxRecDepth 20000
namespace Go.Ai
open Go.Proofs Go.Shelf
theorem PD:hZ Tryz.prog 69 69 2:=by unfold hZ;kernel_rfl
theorem H2 (r:Nat):(sM r).length≤6:=by
 have h:=qY r;unfold sM;repeat' split
 all_goals (simp;try omega)
theorem zI (s:List UInt8) (hl:s.length≤100000) (hg:dJ (ai s 0)=true) (hc:(ai s 0).length≤120):Sp Tryz.prog gl 92 [.str s] (.tup [.str (AU (ai s 0)),i6 0]):=by
 refine VW rfl rfl ?_;have GD:=ng s (by omega);rw [hg] at GD;have CT:=ly s (by omega);have ct': ¬(120:Int)<((ai s 0).length:Int):=by omega
 have h0: ∀r∈ai s 0,0≤r:=fun r hr=>AO (gE.1 hg r hr)
 have hlen:=iL s s.length 0 (by omega);have el:=lQ (ai s 0);have quE:AU (ai s 0)=34::(zA (ai s 0)++[34]):=rfl;obtain ⟨R,hR⟩: ∃R,R=34::zA (ai s 0):=⟨_,rfl⟩;have quR:AU (ai s 0)=R++[34]:=by rw [quE,hR];rfl
 have RL:R.length≤1000:=by rw [hR,em];omega
 rw [quR];have WR:=fun (d:Nat) (hb:(Id.n 4).isNw d=false) (c0:AV) hc0 (l:List UInt8) (r:Nat) hr h hl=>oT (d:=d) (b:= .n 4) rfl hb PD (c0:=c0) hc0 [] l r hr h hl
 have WS:=fun (d:Nat) (hb:(Id.n 4).isNw d=false) (l s:List UInt8) hl=>DR (d:=d) (b:= .n 4) rfl hb (c0:= .ptr (.n 4) 0) (.inr rfl) l s hl
 have ST:=fun (d:Nat) (hb:(Id.n 4).isNw d=false)=>DS (d:=d) (b:= .n 4) rfl hb (c0:= .ptr (.n 4) 0) (R++[34]) (by simp)
 have e34:cX 34=[34]:=rfl;have bn:ag []=[]:=rfl;have W0:=fun d hd=>WR d hd (.nilT (.n 4) 69 2) (.inl rfl) [] 34 (by left;decide) (by decide) (by decide)
 have W9:=fun d hd=>WR d hd (.ptr (.n 4) 0) (.inr rfl) R 34 (by left;decide) (by decide) (by omega)
 rw [e34] at W0 W9;rw [bR] at W0;simp [UY];apply ab GD;simp;apply ab CT;simp [ct'];refine aQ _ _ (W0 _ rfl) ⟨?_,?_,?_,?_,?_,?_,?_⟩ ?_;iterate 7 (· simp [bn])
 simp;refine aP (α:=Nat×List UInt8) (fun y=>⟨[(4,.ptr (.n 4) 0),(18,.itp 18)],[(.n 4,[.ptr (.n 4) 0,.sl (ag y.2)]),(.it 18,[.itr s y.1])],[(.b (.n 4) 1,bk 5)]⟩)
  (fun y=>y.1≤s.length∧(∀r∈ai s y.1,0≤r)∧y.2++zA (ai s y.1)=R) (fun y=>s.length - y.1) ?_ (0,[34]) ?_ ?_
 ·rintro K ⟨i,out⟩ hK ⟨h1,h2,h3⟩;simp only at h1 h2 h3;have cl:out.length≤1000:=by
   rw [←h3,cG] at RL;omega
  by_cases g:i<s.length
  ·rw [aW g] at h2 h3;rw [zA] at h3;have hr0:0≤(ak s i).1:=h2 _ (by simp);have sr:=cS s i g;have sl:=gQ s i g;have sp:=bI s i;have sk:=lX s i;rw [if_neg (by omega)] at sr;have esr:(ak s i)=((ak s i).1,(ak s i).2):=rfl;rw [esr] at sr;have fin:=fun σ' hσ=>hK (i+(ak s i).2,out++JK (ak s i).1.toNat) σ' ⟨sl,fun r hr=>h2 r (by simp [hr]),by simp only;rw [jq];exact h3⟩ (by simp only;omega) hσ
   obtain ⟨q,hq⟩: ∃q:Nat,(ak s i).1=q:=⟨(ak s i).1.toNat,by omega⟩;rw [hq] at sr sk fin;rw [Int.toNat_natCast,H1] at fin;clear hK esr hr0 h2 h3 hq ST W0 W9 sp sl;generalize (ak s i).2=w at *
   have rv:ee (q:Int)∧q≤1114111:=by
    rcases sk with sk|sk
    ·omega
    ·unfold ee;omega
   have ES:=wY q rv.2;have W1:=fun d hd=>WS d hd out (sM q) (by have:=H2 q;omega)
   have W2:=fun d hd=>WR d hd (.ptr (.n 4) 0) (.inr rfl) out q rv.1 rv.2 (by omega)
   clear WS WR;by_cases c:sM q=[]
   ·rw [if_pos c] at fin;rw [c] at ES;generalize cX q=bs at *
    simp [g,sr];apply ab ES;simp;refine aB _ _ (W2 _ rfl) ?_;simp;refine fin _ ?_;apply ae<;>simp
   ·rw [if_neg c] at fin;have c':(sM q).isEmpty=false:=by simpa using c
    generalize sM q=bs at *
    simp [g,sr];apply ab ES;simp [c,c'];refine aB _ _ (W1 _ rfl) ?_;simp;refine fin _ ?_;apply ae<;>simp
  ·obtain rfl:i=s.length:=by omega
   rw [aH (by omega),zA,nA] at h3;subst h3;clear hK W0 WS WR;simp;refine aB _ _ (W9 _ rfl) ?_;simp;refine aB _ _ (ST _ rfl) ?_;simp
 ·exact ⟨iA _,h0,hR.symm⟩
 ·apply ae<;>simp
open Go.Proofs
theorem Nr (k:Int) (hk:k=1) (s:List UInt8) (n:Nat) (l c:Int) (hl:s.length≤100000) (hn:n<18446744073709551616) (hr:gZ k s n=true):Sp Tryz.prog gl 64 [cV k s n l c] (.str s):=by
 refine GA rfl rfl ?_;have RG:=bT k s n l c (by omega);rw [hr] at RG;have d1:(k==1)=true:=by subst hk;decide
 clear hk;unfold cV at *
 simp [Gm];apply ab RG;simp [d1]
theorem Ns (k:Int) (hk:k=2) (s:List UInt8) (n:Nat) (l c:Int) (hl:s.length≤100000) (hn:n<18446744073709551616) (hg:dJ (ai s 0)=true) (hc:(ai s 0).length≤120) (hr:gZ k s n=true):Sp Tryz.prog gl 64 [cV k s n l c] (.str (AU (ai s 0))):=by
 refine GA rfl rfl ?_;have RG:=bT k s n l c (by omega);rw [hr] at RG;have d1:(k==1)=false:=by subst hk;decide
 have d2:(k==2)=true:=by subst hk;decide
 have Q:=zI s hl hg hc;generalize AU (ai s 0)=q at *
 clear hk hg hc;unfold cV at *
 simp [Gm];apply ab RG;simp [d1,d2];apply ab Q;simp
theorem Nt (k:Int) (hk:k=3) (s:List UInt8) (n:Nat) (l c:Int) (hl:s.length≤100000) (hn:n<18446744073709551616) (hr:gZ k s n=true):Sp Tryz.prog gl 64 [cV k s n l c] (.str (bg n)):=by
 refine GA rfl rfl ?_;have RG:=bT k s n l c (by omega);rw [hr] at RG;have d1:(k==1)=false:=by subst hk;decide
 have d2:(k==2)=false:=by subst hk;decide
 have d3:(k==3)=true:=by subst hk;decide
 have F:=pF n hn;generalize bg n=q at *
 clear hk;unfold cV at *
 simp [Gm];apply ab RG;simp [d1,d2,d3];apply ab F;simp
theorem Nu (k:Int) (hk:k=4) (s:List UInt8) (n:Nat) (l c:Int) (hl:s.length≤100000) (hn:n<18446744073709551616) (hr:gZ k s n=true):Sp Tryz.prog gl 64 [cV k s n l c] (.str (DW n)):=by
 refine GA rfl rfl ?_;have RG:=bT k s n l c (by omega);rw [hr] at RG;have d1:(k==1)=false:=by subst hk;decide
 have d2:(k==2)=false:=by subst hk;decide
 have d3:(k==3)=false:=by subst hk;decide
 have d4:(k==4)=true:=by subst hk;decide
 have F:=Cd n hn;generalize DW n=q at *
 clear hk;unfold cV at *
 simp [Gm];apply ab RG;simp [d1,d2,d3,d4];apply ab F;simp
theorem Nv (k:Int) (hk:k=5) (s:List UInt8) (n:Nat) (l c:Int) (hl:s.length≤100000) (hn:n<18446744073709551616) (hm:n≤1000000) (hr:gZ k s n=true):Sp Tryz.prog gl 64 [cV k s n l c] (.str (AT n)):=by
 refine GA rfl rfl ?_;have RG:=bT k s n l c (by omega);rw [hr] at RG;have d1:(k==1)=false:=by subst hk;decide
 have d2:(k==2)=false:=by subst hk;decide
 have d3:(k==3)=false:=by subst hk;decide
 have d4:(k==4)=false:=by subst hk;decide
 have d5:(k==5)=true:=by subst hk;decide
 have F:=zH n hm;have w1:IntKind.u32.wrap (n:Int)=n:=by rw [cJ]<;>omega
 generalize AT n=q at *
 clear hk hm;unfold cV at *
 simp [Gm];apply ab RG;simp [d1,d2,d3,d4,d5,w1];apply ab F;simp
theorem Nw (k:Int) (hk:k=6) (s:List UInt8) (n:Nat) (l c:Int) (hl:s.length≤100000) (hn:n<18446744073709551616) (hm:n≤253402300799) (hr:gZ k s n=true):Sp Tryz.prog gl 64 [cV k s n l c] (.str (pz n)):=by
 refine GA rfl rfl ?_;have RG:=bT k s n l c (by omega);rw [hr] at RG;have d1:(k==1)=false:=by subst hk;decide
 have d2:(k==2)=false:=by subst hk;decide
 have d3:(k==3)=false:=by subst hk;decide
 have d4:(k==4)=false:=by subst hk;decide
 have d5:(k==5)=false:=by subst hk;decide
 have d6:(k==6)=true:=by subst hk;decide
 have F:=uB n hm;have w1:IntKind.i64.wrap (n:Int)=n:=by rw [aj]<;>omega
 generalize pz n=q at *
 clear hk hm;unfold cV at *
 simp [Gm];apply ab RG;simp [d1,d2,d3,d4,d5,d6,w1];apply ab F;simp
theorem Nx (k:Int) (hk:k=0) (s:List UInt8) (n:Nat) (l c:Int) (hl:s.length≤100000) (hn:n<18446744073709551616) (hr:gZ k s n=true):Sp Tryz.prog gl 64 [cV k s n l c] (.str []):=by
 refine GA rfl rfl ?_;have RG:=bT k s n l c (by omega);rw [hr] at RG;have d1:(k==1)=false:=by subst hk;decide
 have d2:(k==2)=false:=by subst hk;decide
 have d3:(k==3)=false:=by subst hk;decide
 have d4:(k==4)=false:=by subst hk;decide
 have d5:(k==5)=false:=by subst hk;decide
 have d6:(k==6)=false:=by subst hk;decide
 have j0:(0:Int)≤k:=by omega
 have j1:k<10:=by omega
 have j2:k.toNat=0:=by omega
 clear hk;unfold cV at *
 simp [Gm];apply ab RG;simp [d1,d2,d3,d4,d5,d6,j0,j1,j2]
theorem Ny (k:Int) (hk:k=7) (s:List UInt8) (n:Nat) (l c:Int) (hl:s.length≤100000) (hn:n<18446744073709551616) (hr:gZ k s n=true):Sp Tryz.prog gl 64 [cV k s n l c] (.str [123]):=by
 refine GA rfl rfl ?_;have RG:=bT k s n l c (by omega);rw [hr] at RG;have d1:(k==1)=false:=by subst hk;decide
 have d2:(k==2)=false:=by subst hk;decide
 have d3:(k==3)=false:=by subst hk;decide
 have d4:(k==4)=false:=by subst hk;decide
 have d5:(k==5)=false:=by subst hk;decide
 have d6:(k==6)=false:=by subst hk;decide
 have j0:(0:Int)≤k:=by omega
 have j1:k<10:=by omega
 have j2:k.toNat=7:=by omega
 clear hk;unfold cV at *
 simp [Gm];apply ab RG;simp [d1,d2,d3,d4,d5,d6,j0,j1,j2]
theorem Nz (k:Int) (hk:k=8) (s:List UInt8) (n:Nat) (l c:Int) (hl:s.length≤100000) (hn:n<18446744073709551616) (hr:gZ k s n=true):Sp Tryz.prog gl 64 [cV k s n l c] (.str [125]):=by
 refine GA rfl rfl ?_;have RG:=bT k s n l c (by omega);rw [hr] at RG;have d1:(k==1)=false:=by subst hk;decide
 have d2:(k==2)=false:=by subst hk;decide
 have d3:(k==3)=false:=by subst hk;decide
 have d4:(k==4)=false:=by subst hk;decide
 have d5:(k==5)=false:=by subst hk;decide
 have d6:(k==6)=false:=by subst hk;decide
 have j0:(0:Int)≤k:=by omega
 have j1:k<10:=by omega
 have j2:k.toNat=8:=by omega
 clear hk;unfold cV at *
 simp [Gm];apply ab RG;simp [d1,d2,d3,d4,d5,d6,j0,j1,j2]
theorem NA (k:Int) (hk:k=9) (s:List UInt8) (n:Nat) (l c:Int) (hl:s.length≤100000) (hn:n<18446744073709551616) (hr:gZ k s n=true):Sp Tryz.prog gl 64 [cV k s n l c] (.str [59]):=by
 refine GA rfl rfl ?_;have RG:=bT k s n l c (by omega);rw [hr] at RG;have d1:(k==1)=false:=by subst hk;decide
 have d2:(k==2)=false:=by subst hk;decide
 have d3:(k==3)=false:=by subst hk;decide
 have d4:(k==4)=false:=by subst hk;decide
 have d5:(k==5)=false:=by subst hk;decide
 have d6:(k==6)=false:=by subst hk;decide
 have j0:(0:Int)≤k:=by omega
 have j1:k<10:=by omega
 have j2:k.toNat=9:=by omega
 clear hk;unfold cV at *
 simp [Gm];apply ab RG;simp [d1,d2,d3,d4,d5,d6,j0,j1,j2]
theorem KN (k:Int) (s:List UInt8) (n:Nat) (l c:Int) (hl:s.length≤100000) (hr:gZ k s n=false):Sp Tryz.prog gl 64 [cV k s n l c] (.str [63]):=by
 refine GA rfl rfl ?_;have RG:=bT k s n l c (by omega);rw [hr] at RG;unfold cV at *
 simp [Gm];apply ab RG;simp
theorem Fq (k:Int) (s:List UInt8) (n:Nat) (l c:Int) (hl:s.length≤100000) (hn:n<18446744073709551616):Sp Tryz.prog gl 64 [cV k s n l c] (.str (fP k s n)):=by
 unfold fP;cases hr:gZ k s n
 ·rw [if_pos rfl];exact KN k s n l c hl hr
 rw [if_neg (by decide)];have hr':=hr;unfold gZ at hr';by_cases c1:k=1
 ·rw [if_pos c1];exact Nr k c1 s n l c hl hn hr
 rw [if_neg c1] at hr' ⊢;by_cases c2:k=2
 ·rw [if_pos c2] at hr' ⊢;rw [aE,aE,kO] at hr';exact Ns k c2 s n l c hl hn hr'.1 hr'.2.1 hr
 rw [if_neg c2] at hr' ⊢;by_cases c3:k=3
 ·rw [if_pos c3];exact Nt k c3 s n l c hl hn hr
 rw [if_neg c3];by_cases c4:k=4
 ·rw [if_pos c4];exact Nu k c4 s n l c hl hn hr
 rw [if_neg c4];rw [if_neg (by rintro (h|h);exact c3 h;exact c4 h)] at hr';by_cases c5:k=5
 ·rw [if_pos c5] at hr' ⊢;rw [aE,kO] at hr';exact Nv k c5 s n l c hl hn hr'.2 hr
 rw [if_neg c5] at hr' ⊢;by_cases c6:k=6
 ·rw [if_pos c6] at hr' ⊢;rw [aE,kO] at hr';exact Nw k c6 s n l c hl hn hr'.2 hr
 rw [if_neg c6] at hr' ⊢;by_cases c7:k=7
 ·rw [if_pos c7];exact Ny k c7 s n l c hl hn hr
 rw [if_neg c7];by_cases c8:k=8
 ·rw [if_pos c8];exact Nz k c8 s n l c hl hn hr
 rw [if_neg c8];by_cases c9:k=9
 ·rw [if_pos c9];exact NA k c9 s n l c hl hn hr
 rw [if_neg c9];by_cases c0:k=0
 ·exact Nx k c0 s n l c hl hn hr
 ·rw [if_neg (by rintro (h|h|h|h);exact c0 h;exact c7 h;exact c8 h;exact c9 h)] at hr';cases hr'
open Go.Proofs
theorem H3 (k:Int) (s:List UInt8) (n:Nat) (hn:n<18446744073709551616) (hl:s.length≤2000):(fP k s n).length≤3000:=by
 unfold fP;cases hr:gZ k s n with
 |false=>rw [if_pos rfl];decide
 |true=>
  rw [if_neg (by decide)];by_cases c1:k=1
  ·rw [if_pos c1];omega
  rw [if_neg c1];by_cases c2:k=2
  ·rw [if_pos c2];subst c2;obtain ⟨_,_,_,h3⟩:=jL s n hr
   have:=lQ (ai s 0)
   unfold AU;rw [em,cG,uc];omega
  rw [if_neg c2];by_cases c0:1≤k∧k≤9
  ·obtain ⟨s',hs',e⟩: ∃s':List UInt8,s'.length≤500∧gZ k s' n=true∧fP k s' n=(if k=3 then bg n else if k=4 then DW n else if k=5 then AT n else if k=6 then pz n else if k=7 then [123] else if k=8 then [125] else if k=9 then [59] else []):=by
    have hs:s=[]:=by
     unfold gZ at hr;rw [if_neg c1,if_neg c2] at hr;repeat' split at hr
     all_goals first|(simp at hr;done)|(simp at hr;first|exact hr|exact hr.1)
    refine ⟨s,by rw [hs];decide,hr,?_⟩;unfold fP;rw [hr,if_neg (by decide),if_neg c1,if_neg c2]
   have:=KL ⟨k,s',n,0,0⟩ ⟨c0,hn,e.1⟩ hs'
   dsimp only at this;rw [e.2] at this;omega
  ·rw [if_neg (by omega),if_neg (by omega),if_neg (by omega),if_neg (by omega),if_neg (by omega),if_neg (by omega),if_neg (by omega)];decide
end Go.Ai
namespace Go.Ai
open Go.Proofs Go.Shelf
def lS (t:Tk):List UInt8:=fP t.k t.t t.n
def qm:List Tk→List UInt8
 |[]=>[]
 |w::r=>32::(lS w++qm r)
mutual
def D6:Nat→It→List UInt8
 |d,.mk n ws b ks _ _=>eX d++(n++(qm ws++(if b=false then [59,10] else 32::123::10::(eZ (d+1) ks++(eX d++[125,10])))))
def eZ:Nat→List It→List UInt8
 |_,[]=>[]
 |d,x::r=>D6 d x++eZ d r
end
theorem rh (d:Nat): ∀a b:List It,eZ d (a++b)=eZ d a++eZ d b
 |[],b=>rfl
 |x::a,b=>by rw [bH,eZ,eZ,rh d a b,jq]
theorem D7: ∀a b:List Tk,qm (a++b)=qm a++qm b
 |[],b=>rfl
 |x::a,b=>by rw [bH,qm,qm,D7 a b,bH,jq]
theorem H4: ∀ws:List Tk,Lib.joinTail [32] (ws.map lS)=qm ws
 |[]=>rfl
 |w::ws=>by
  have:=H4 ws
  unfold Lib.joinTail at this ⊢;rw [iP,iP,List.flatten_cons,this,qm];simp
theorem zJ (n:List UInt8) (ws:List Tk):Lib.join (n::ws.map lS) [32]=n++qm ws:=by rw [Lib.join_cons,H4]
theorem lT (x n:List UInt8) (l:List (List UInt8)):Lib.join ((n::l)++[x]) [32]=Lib.join (n::l) [32]++32::x:=by
 rw [bH,Lib.join_cons,Lib.join_cons];unfold Lib.joinTail;rw [List.map_append,List.flatten_append];simp
open Go.Proofs
def uf:List Tk→List Tk
 |_::y::r=>y::r
 |l=>l
def qn (l:List Tk) (n:Nat):List AV:=[.sl (l.map Tk.row),i6 n]
theorem sN (t:Tk) (r:List Tk) (n:Nat) (d:Nat) (b:Id) (hb:b.isIt=false) (hbd:b.isNw d=false):
  cB Tryz.prog gl 79 d ⟨[.ptr b 0],[(b,qn (t::r) n)],[]⟩ ⟨.agg t.row,[(b,qn (uf (t::r)) n)],[]⟩:=by
 refine VM rfl ?_;have hib:=aV hbd;obtain ⟨k,s,m,ln,co⟩:=t;cases r with
 |nil=>
  simp only [uf,qn,iP,xQ,Tk.row,aF,bV,bp,AV.mp,b7,Pl.mp];simp [Q5];apply am<;>simp [hib,hb]
 |cons y r=>
  simp only [uf,qn,iP,xQ,Tk.row,aF,bV,bp,AV.mp,b7,Pl.mp];have h1:=xA r;have hl:(1:Int)<((List.map Tk.row r).length:Int)+1+1:=by omega
  generalize List.map Tk.row r=L at *
  have hk:((L.length:Int)+1+1).toNat=L.length+1+1:=by omega
  have hg:(1:Int)≤(L.length:Int)+1+1:=by omega
  simp [Q5,hl,hk];refine ⟨hg,h1,?_⟩;apply am<;>simp [hib,hb]
def wZ (c:Int) (t:Tk):AV:= .ifc 35 (.agg [i6 c,i6 t.ln,i6 t.co])
theorem sO (c:Int) (t:Tk) (d:Nat):ue Tryz.prog gl 80 d ⟨[i6 c,.agg t.row],[],[]⟩ ⟨wZ c t,[],[]⟩:=by
 refine VO rfl ?_;obtain ⟨k,s,m,ln,co⟩:=t;simp only [Tk.row,wZ,aF,bV,bp,AV.mp,b7,Pl.mp];simp [Q6];refine ⟨rfl,by simp,⟨?_,?_,?_,?_,?_,?_⟩⟩<;>simp
end Go.Ai
namespace Go.Ai
inductive Pr (α:Type) where
 |ok (a:α) (l:List Tk) (n:Nat)
 |th (c:Int) (t:Tk) (l:List Tk) (n:Nat)
 |no
mutual
def pL:Nat→Nat→Int→List It→List Tk→Nat→Pr (List It)
 |0,_,_,_,_,_=> .no
 |_+1,_,_,_,[],_=> .no
 |f+1,d,e,out,t::r,n=>
  if t.k=e then .ok out (uf (t::r)) n
  else if t.k≠1 then .th 6 t (uf (t::r)) n
  else if 4<d then .th 19 t (uf (t::r)) n
  else if n=300 then .th 9 t (uf (t::r)) n
  else match pI f d t.t t.ln t.co [] (uf (t::r)) (n+1) with
   | .ok x l' n'=>pL f d e (out++[x]) l' n'
   | .th c t l' n'=> .th c t l' n'
   | .no=> .no
def pI:Nat→Nat→List UInt8→Int→Int→List Tk→List Tk→Nat→Pr It
 |0,_,_,_,_,_,_,_=> .no
 |_+1,_,_,_,_,_,[],_=> .no
 |f+1,d,nm,ln,co,ws,t::r,n=>
  if t.k=9 then .ok (.mk nm ws false [] ln co) (uf (t::r)) n
  else if t.k=7 then match pL f (d+1) 8 [] (uf (t::r)) n with
   | .ok ks l' n'=> .ok (.mk nm ws true ks ln co) l' n'
   | .th c t l' n'=> .th c t l' n'
   | .no=> .no
  else if t.k<1∨6<t.k then .th 6 t (uf (t::r)) n
  else if ws.length=6 then .th 9 t (uf (t::r)) n
  else pI f d nm ln co (ws++[t]) (uf (t::r)) n
end
theorem L4: ∀f:Nat,(∀d e out l n o l' n',pL f d e out l n= .ok o l' n'→n≤300→out.length≤n→n≤n'∧n'≤300∧o.length≤n')∧(∀d nm ln co ws l n x l' n',pI f d nm ln co ws l n= .ok x l' n'→n≤300→n≤n'∧n'≤300)
 |0=>⟨fun d e out l n o l' n' h _ _=>by simp [pL] at h,fun d nm ln co ws l n x l' n' h _=>by simp [pI] at h⟩
 |f+1=>by
  obtain ⟨ihL,ihI⟩:=L4 f;refine ⟨fun d e out l n o l' n' h hn ho=>?_,fun d nm ln co ws l n x l' n' h hn=>?_⟩
  ·cases l with
   |nil=>simp [pL] at h
   |cons t r=>
    rw [pL] at h;split at h
    ·cases h;exact ⟨eI _,hn,ho⟩
    split at h
    ·cases h
    split at h
    ·cases h
    split at h
    ·cases h
    rename_i c4;split at h
    ·rename_i x l2 n2 he;have h1:=ihI _ _ _ _ _ _ _ _ _ _ he (by omega);have h2:=ihL _ _ _ _ _ _ _ _ h h1.2 (by rw [cG,uc];omega);exact ⟨by omega,h2.2⟩
    ·cases h
    ·cases h
  ·cases l with
   |nil=>simp [pI] at h
   |cons t r=>
    rw [pI] at h;split at h
    ·cases h;exact ⟨eI _,hn⟩
    split at h
    ·split at h
     ·rename_i ks l2 n2 he;cases h
      have:=ihL _ _ _ _ _ _ _ _ he hn (iA _)
      exact ⟨this.1,this.2.1⟩
     ·cases h
     ·cases h
    split at h
    ·cases h
    split at h
    ·cases h
    exact ihI _ _ _ _ _ _ _ _ _ _ h hn
open Go.Proofs
def QO (f:Nat):Prop:= ∀(d:Nat) (e:Int) (l:List Tk) (n:Nat) (D:Nat) (b:Id),b.isIt=false→b.isNw D=false→d≤5→n≤300→
 (∀o l' n',pL f d e [] l n= .ok o l' n'→cB Tryz.prog gl 49 D ⟨[.ptr b 0,i6 d,i6 e],[(b,qn l n)],[]⟩ ⟨.sl (ar o),[(b,qn l' n')],[]⟩)∧
 (∀c t l' n',pL f d e [] l n= .th c t l' n'→ue Tryz.prog gl 49 D ⟨[.ptr b 0,i6 d,i6 e],[(b,qn l n)],[]⟩ ⟨wZ c t,[(b,qn l' n')],[]⟩)
def L5 (f:Nat):Prop:= ∀(d:Nat) (x:Tk) (l:List Tk) (n:Nat) (D:Nat) (b:Id),b.isIt=false→b.isNw D=false→d≤4→n≤300→
 (∀y l' n',pI f d x.t x.ln x.co [] l n= .ok y l' n'→cB Tryz.prog gl 81 D ⟨[.ptr b 0,.agg x.row,i6 d],[(b,qn l n)],[]⟩ ⟨.agg y.row,[(b,qn l' n')],[]⟩)∧
 (∀c t l' n',pI f d x.t x.ln x.co [] l n= .th c t l' n'→ue Tryz.prog gl 81 D ⟨[.ptr b 0,.agg x.row,i6 d],[(b,qn l n)],[]⟩ ⟨wZ c t,[(b,qn l' n')],[]⟩)
theorem D8 (f d:Nat) (e:Int) (l:List Tk) (n:Nat) (D:Nat) (b:Id) (hb:b.isIt=false) (hbd:b.isNw D=false) (hd:d≤5) (hn:n≤300) (hI: ∀g,g<f→L5 g) (Q:AE→St→Prop) (Rp:AV→St→Prop) (hno:pL f d e [] l n≠ .no)
  (hQ: ∀o l' n',pL f d e [] l n= .ok o l' n'→ ∀σ,cZ D [.t 6] ⟨.sl (ar o),[(b,qn l' n')],[]⟩ .r σ→Q .r σ)
  (hR: ∀c t l' n',pL f d e [] l n= .th c t l' n'→ ∀v σ,qf D ⟨wZ c t,[(b,qn l' n')],[]⟩ v σ→Rp v σ):
  cN (cB Tryz.prog gl) (ue Tryz.prog gl) Rp Ov Q (aF ⟨[.ptr b 0,i6 d,i6 e],[(b,qn l n)],[]⟩):=by
 have hib:=aV hbd;obtain ⟨R,hRR⟩: ∃R,R=pL f d e [] l n:=⟨_,rfl⟩;rw [←hRR] at hno hQ hR;have hlim:l8=140737488355328:=rfl;unfold qn at *
 simp only [aF,bV,bp,AV.mp,b7,Pl.mp];simp [Ov];refine DB (α:=Nat×List It×List Tk×Nat) (fun y=>⟨[(0,.ptr (.up b) 0),(1,i6 d),(2,i6 e),(7,.sl (ar y.2.1))],[(.up b,[.sl (y.2.2.1.map Tk.row),i6 y.2.2.2])],[(.s 7,6)]⟩) (fun y=>y.1≤f∧y.2.1.length≤y.2.2.2∧y.2.2.2≤300∧pL y.1 d e y.2.1 y.2.2.1 y.2.2.2=R) (fun y=>y.1) ?_ (f,[],l,n) ?_ ?_
 ·rintro K ⟨g,out,l,n⟩ hK ⟨hg,ho,hn,he⟩;simp only at hg ho hn he;cases g with
  |zero=>exact absurd (by rw [←he];simp [pL]) hno
  |succ g=>
   cases l with
   |nil=>exact absurd (by rw [←he];simp [pL]) hno
   |cons t r=>
    rw [pL] at he;have NX:=fun D h=>sN t r n D (.up b) hb h
    unfold qn at NX;have hri:=wQ out;have hrl:=bA out;have hll:((ar out).length+1)*88≤l8:=by rw [hlim,hrl];omega
    have TH:=fun (c:Int) (D:Nat)=>sO c t D
    simp only [Tk.row] at NX TH;rw [iP,Tk.row] at *
    have hi1:=hI g (by omega);obtain ⟨tk,tt,tn,tl,tc⟩:=t;simp only [Tk.row] at NX TH he ⊢;have e2:(tk==e)=decide (tk=e):=rfl;generalize uf (⟨tk,tt,tn,tl,tc⟩::r)=l2 at *
    generalize List.map Tk.row r=LR at *
    simp;refine aB _ _ (NX _ rfl) ?_;simp;by_cases c1:tk=e
    ·rw [if_pos c1] at he;have c1':(tk==e)=true:=by simpa using c1
     clear hK hR hI hi1;simp [c1,c1'];refine hQ _ _ _ he.symm _ ?_;apply am<;>simp [hib,hb]
    rw [if_neg c1] at he;have c1':(tk==e)=false:=by simpa using c1
    by_cases c2:tk≠1
    ·rw [if_pos c2] at he;have c2':(tk !=1)=true:=by simpa using c2
     clear hK hQ hI hi1;simp [c1,c1',c2,c2'];refine nV _ _ (TH 6 _) ⟨?_,?_,?_,?_,?_,?_,?_⟩ rfl ?_;iterate 7 (· simp)
     refine hR _ _ _ _ he.symm _ _ ⟨rfl,by simp,?_⟩;refine ⟨?_,?_,?_,?_,?_,?_⟩<;>simp [hib,hb]
    rw [if_neg c2] at he;have c2:tk=1:=by omega
    by_cases c3:4<d
    ·rw [if_pos c3] at he;have c3':(4:Int)<d:=by omega
     have c2':(tk !=1)=false:=by simpa using c2
     clear hK hQ hI hi1 c2;simp [c1,c1',c2',c3,c3'];refine nV _ _ (TH 19 _) ⟨?_,?_,?_,?_,?_,?_,?_⟩ rfl ?_;iterate 7 (· simp)
     refine hR _ _ _ _ he.symm _ _ ⟨rfl,by simp,?_⟩;refine ⟨?_,?_,?_,?_,?_,?_⟩<;>simp [hib,hb]
    rw [if_neg c3] at he;have c3': ¬(4:Int)<d:=by omega
    by_cases c4:n=300
    ·rw [if_pos c4] at he;have c4':((n:Int)==300)=true:=by rw [c4];rfl
     have c2':(tk !=1)=false:=by simpa using c2
     clear hK hQ hI hi1 c2;subst c4;simp [c1,c1',c2',c3,c3',c4'];refine nV _ _ (TH 9 _) ⟨?_,?_,?_,?_,?_,?_,?_⟩ rfl ?_;iterate 7 (· simp)
     refine hR _ _ _ _ he.symm _ _ ⟨rfl,by simp,?_⟩;refine ⟨?_,?_,?_,?_,?_,?_⟩<;>simp [hib,hb]
    rw [if_neg c4] at he;have c4':((n:Int)==300)=false:=cI.2 (by omega);have c2':(tk !=1)=false:=by simpa using c2
    have t1:IntKind.i64.wrap ((n:Int)+1)=(n+1:Nat):=by rw [aj]<;>omega
    have hcn:=(L4 g).2 d tt tl tc [] l2 (n+1);have hiO:=fun D h=>(hi1 d ⟨tk,tt,tn,tl,tc⟩ l2 (n+1) D (.up b) hb h (by omega) (by omega)).1
    have hiT:=fun D h=>(hi1 d ⟨tk,tt,tn,tl,tc⟩ l2 (n+1) D (.up b) hb h (by omega) (by omega)).2
    simp only [Tk.row] at hiO hiT;clear hi1 hI;split at he
    ·rename_i x l3 n3 hx;have L5:=fun D h=>hiO D h _ _ _ hx
     have hc3:=hcn _ _ _ hx (by omega);have fin:=fun σ' hσ=>hK (g,out++[x],l3,n3) σ' ⟨by omega,by simp only [cG,uc];omega,hc3.2,he⟩ (by simp only;omega) hσ
     simp only [sB,ar] at fin;obtain ⟨xn,ws,xb,ks,xl,xc⟩:=x;simp only [It.row] at L5 fin;unfold qn at L5;clear hiO hiT hK hQ hR TH NX hcn hx;generalize ar out=OR at *
     generalize ar ks=KR at *
     generalize List.map Tk.row ws=WR at *
     generalize List.map Tk.row l3=L3 at *
     generalize List.map Tk.row l2=L2 at *
     simp [c1,c1',c2',c3,c3',c4,c4',t1];refine G7 _ _ (L5 _ rfl) ⟨?_,?_,?_,?_,?_,?_,?_⟩ ?_;iterate 7 (· simp [t1])
     simp [hlim];refine ⟨by omega,hri,?_⟩;refine fin _ ?_;apply ae<;>simp [t1]
    ·rename_i c' t' l3 n3 hx;have IT:=fun D h=>hiT D h _ _ _ _ hx
     unfold qn at IT;clear hiO hiT hK hQ TH NX hcn hx;simp [c1,c1',c2',c3,c3',c4,c4',t1];refine nV _ _ (IT _ rfl) ⟨?_,?_,?_,?_,?_,?_,?_⟩ rfl ?_;iterate 7 (· simp [t1])
     refine hR _ _ _ _ he.symm _ _ ⟨rfl,by simp,?_⟩;refine ⟨?_,?_,?_,?_,?_,?_⟩<;>simp [hib,hb]
    ·exact absurd he.symm hno
 ·exact ⟨eI _,iA _,hn,hRR.symm⟩
 ·apply ae<;>simp [ar]
theorem KO (f:Nat) (hI: ∀g,g<f→L5 g):QO f:=by
 intro d e l n D b hb hbd hd hn;refine ⟨fun o l' n' h=>?_,fun c t l' n' h=>?_⟩
 ·refine Vt rfl ?_;refine D8 f d e l n D b hb hbd hd hn hI _ _ (by rw [h];simp) (fun o2 l2 n2 h2 σ hp=>?_) (fun c t l' n' h2=>by rw [h] at h2;cases h2);rw [h] at h2;cases h2;exact hp
 ·refine Vs rfl ?_;refine D8 f d e l n D b hb hbd hd hn hI _ _ (by rw [h];simp) (fun o2 l2 n2 h2=>by rw [h] at h2;cases h2) (fun c2 t2 l2 n2 h2 v σ hp=>?_);rw [h] at h2;cases h2;exact hp
open Go.Proofs
theorem D9 (f d:Nat) (x:Tk) (l:List Tk) (n:Nat) (D:Nat) (b:Id) (hb:b.isIt=false) (hbd:b.isNw D=false) (hd:d≤4) (hn:n≤300) (hL: ∀g,g<f→QO g) (Q:AE→St→Prop) (Rp:AV→St→Prop) (hno:pI f d x.t x.ln x.co [] l n≠ .no)
  (hQ: ∀y l' n',pI f d x.t x.ln x.co [] l n= .ok y l' n'→ ∀σ,cZ D [.ca 6 6] ⟨.agg y.row,[(b,qn l' n')],[]⟩ .r σ→Q .r σ)
  (hR: ∀c t l' n',pI f d x.t x.ln x.co [] l n= .th c t l' n'→ ∀v σ,qf D ⟨wZ c t,[(b,qn l' n')],[]⟩ v σ→Rp v σ):
  cN (cB Tryz.prog gl) (ue Tryz.prog gl) Rp Ox Q (aF ⟨[.ptr b 0,.agg x.row,i6 d],[(b,qn l n)],[]⟩):=by
 have hib:=aV hbd;obtain ⟨R,hRR⟩: ∃R,R=pI f d x.t x.ln x.co [] l n:=⟨_,rfl⟩;rw [←hRR] at hno hQ hR;have hlim:l8=140737488355328:=rfl;have w1:IntKind.i64.wrap ((d:Int)+1)=(d+1:Nat):=by rw [aj]<;>omega
 obtain ⟨xk,nm,xn,ln,co⟩:=x;simp only [Tk.row] at *
 unfold qn at *
 simp only [aF,bV,bp,AV.mp,b7,Pl.mp];simp [Ox];refine DB (α:=Nat×List Tk×List Tk×Nat) (fun y=>⟨[(0,.ptr (.up b) 0),(2,i6 d),(6,.ptr (.n 6) 0),(7,.ptr (.n 7) 0)],[(.n 7,[.str nm,.sl (y.2.1.map Tk.row),.bool false,.sl [],i6 ln,i6 co]),(.n 6,[.str [],.nils,.bool false,.nils,i6 0,i6 0]),(.up b,[.sl (y.2.2.1.map Tk.row),i6 y.2.2.2])],[(.b (.n 7) 1,5)]⟩) (fun y=>y.1≤f∧y.2.1.length≤6∧y.2.2.2≤300∧pI y.1 d nm ln co y.2.1 y.2.2.1 y.2.2.2=R) (fun y=>y.1) ?_ (f,[],l,n) ?_ ?_
 ·rintro K ⟨g,ws,l,n⟩ hK ⟨hg,ho,hn,he⟩;simp only at hg ho hn he;cases g with
  |zero=>exact absurd (by rw [←he];simp [pI]) hno
  |succ g=>
   cases l with
   |nil=>exact absurd (by rw [←he];simp [pI]) hno
   |cons t r=>
    rw [pI] at he;have NX:=fun D h=>sN t r n D (.up b) hb h
    unfold qn at NX;have hwr:=xA ws;have hwl:(ws.map Tk.row).length=ws.length:=JF _;have TH:=fun (c:Int) (D:Nat)=>sO c t D
    simp only [Tk.row] at NX TH;rw [iP,Tk.row] at *
    have hl1:=hL g (by omega);obtain ⟨tk,tt,tn,tl,tc⟩:=t;simp only [Tk.row] at NX TH he ⊢;have fin0:pI g d nm ln co (ws++[⟨tk,tt,tn,tl,tc⟩]) (uf (⟨tk,tt,tn,tl,tc⟩::r)) n=R→ws.length≠6→ ∀σ',dL σ' ⟨[(0,.ptr (.up b) 0),(2,i6 d),(6,.ptr (.n 6) 0),(7,.ptr (.n 7) 0)],[(.n 7,[.str nm,.sl (ws.map Tk.row++[[i6 tk,.str tt,u tn,i6 tl,i6 tc]]),.bool false,.sl [],i6 ln,i6 co]),(.n 6,[.str [],.nils,.bool false,.nils,i6 0,i6 0]),(.up b,[.sl ((uf (⟨tk,tt,tn,tl,tc⟩::r)).map Tk.row),i6 n])],[(.b (.n 7) 1,5)]⟩→K σ':=fun hp h6 σ' hσ=>
     hK (g,ws++[⟨tk,tt,tn,tl,tc⟩],uf (⟨tk,tt,tn,tl,tc⟩::r),n) σ' ⟨by omega,by simp only [cG,uc];omega,hn,hp⟩ (by simp only;omega) (by
      simp only [List.map_append,iP,xQ,Tk.row];exact hσ)
    generalize uf (⟨tk,tt,tn,tl,tc⟩::r)=l2 at *
    generalize List.map Tk.row r=LR at *
    clear hK;simp;refine aB _ _ (NX _ rfl) ?_;simp;by_cases c1:tk=9
    ·rw [if_pos c1] at he;have c1':(tk==9)=true:=by simpa using c1
     have hq:=hQ _ _ _ he.symm;simp only [It.row,ar] at hq;clear hQ hR hL hl1 fin0 NX TH;generalize List.map Tk.row ws=WR at *
     generalize List.map Tk.row l2=L2 at *
     simp [c1,c1'];refine hq _ ?_;apply am<;>simp [hib,hb]
    rw [if_neg c1] at he;have c1':(tk==9)=false:=by simpa using c1
    by_cases c7:tk=7
    ·rw [if_pos c7] at he;have c7':(tk==7)=true:=by simpa using c7
     have hlO:=fun D h=>(hl1 (d+1) 8 l2 n D (.up b) hb h (by omega) hn).1
     have hlT:=fun D h=>(hl1 (d+1) 8 l2 n D (.up b) hb h (by omega) hn).2
     unfold qn at hlO hlT;clear hl1 hL fin0 NX TH;split at he
     ·rename_i ks l3 n3 hx;have LO:=fun D h=>hlO D h _ _ _ hx
      have hq:=hQ _ _ _ he.symm;simp only [It.row] at hq;clear hlO hlT hx hQ hR;generalize ar ks=KR at *
      generalize List.map Tk.row ws=WR at *
      generalize List.map Tk.row l3=L3 at *
      generalize List.map Tk.row l2=L2 at *
      simp [c1,c1',c7,c7',w1];refine G7 _ _ (LO _ rfl) ⟨?_,?_,?_,?_,?_,?_,?_⟩ ?_;iterate 7 (· simp)
      simp;refine hq _ ?_;apply am<;>simp [hib,hb]
     ·rename_i c' t' l3 n3 hx;have LT:=fun D h=>hlT D h _ _ _ _ hx
      clear hlO hlT hQ hx;generalize List.map Tk.row ws=WR at *
      simp [c1,c1',c7,c7',w1];refine nV _ _ (LT _ rfl) ⟨?_,?_,?_,?_,?_,?_,?_⟩ rfl ?_;iterate 7 (· simp)
      refine hR _ _ _ _ he.symm _ _ ⟨rfl,by simp,?_⟩;refine ⟨?_,?_,?_,?_,?_,?_⟩<;>simp [hib,hb]
     ·exact absurd he.symm hno
    rw [if_neg c7] at he;have c7':(tk==7)=false:=by simpa using c7
    clear hl1 hL;by_cases c2:tk<1∨6<tk
    ·rw [if_pos c2] at he;by_cases c3:tk<1
     ·clear hQ fin0 NX;generalize List.map Tk.row ws=WR at *
      simp [c1,c1',c7,c7',c3];refine nV _ _ (TH 6 _) ⟨?_,?_,?_,?_,?_,?_,?_⟩ rfl ?_;iterate 7 (· simp)
      refine hR _ _ _ _ he.symm _ _ ⟨rfl,by simp,?_⟩;refine ⟨?_,?_,?_,?_,?_,?_⟩<;>simp [hib,hb]
     ·have c4:6<tk:=by omega
      clear hQ fin0 NX;generalize List.map Tk.row ws=WR at *
      simp [c1,c1',c7,c7',c3,c4];refine nV _ _ (TH 6 _) ⟨?_,?_,?_,?_,?_,?_,?_⟩ rfl ?_;iterate 7 (· simp)
      refine hR _ _ _ _ he.symm _ _ ⟨rfl,by simp,?_⟩;refine ⟨?_,?_,?_,?_,?_,?_⟩<;>simp [hib,hb]
    rw [if_neg c2] at he;have c3: ¬tk<1:=by omega
    have c4: ¬6<tk:=by omega
    by_cases c5:ws.length=6
    ·rw [if_pos c5] at he;have c5':((ws.length:Int)==6)=true:=by rw [c5];rfl
     clear hQ fin0 NX;rw [c5] at hwl;generalize List.map Tk.row ws=WR at *
     simp [c1,c1',c7,c7',c3,c4,hwl,c5,c5'];refine nV _ _ (TH 9 _) ⟨?_,?_,?_,?_,?_,?_,?_⟩ rfl ?_;iterate 7 (· simp)
     refine hR _ _ _ _ he.symm _ _ ⟨rfl,by simp,?_⟩;refine ⟨?_,?_,?_,?_,?_,?_⟩<;>simp [hib,hb]
    rw [if_neg c5] at he;have c5':((ws.length:Int)==6)=false:=cI.2 (by omega);have fin:=fin0 he c5;clear fin0 hQ hR NX TH;generalize List.map Tk.row ws=WR at *
    have hll:(WR.length+1)*48≤140737488355328:=by omega
    simp [c1,c1',c7,c7',c3,c4,hwl,c5,c5',hlim];refine ⟨by omega,hwr,?_⟩;refine fin _ ?_;apply ae<;>simp
 ·exact ⟨eI _,iA _,hn,hRR.symm⟩
 ·apply ae<;>simp
open Go.Proofs
theorem KQ (f:Nat) (hL: ∀g,g<f→QO g):L5 f:=by
 intro d x l n D b hb hbd hd hn;refine ⟨fun o l' n' h=>?_,fun c t l' n' h=>?_⟩
 ·refine VQ rfl ?_;refine D9 f d x l n D b hb hbd hd hn hL _ _ (by rw [h];simp) (fun o2 l2 n2 h2 σ hp=>?_) (fun c t l' n' h2=>by rw [h] at h2;cases h2);rw [h] at h2;cases h2;exact hp
 ·refine VP rfl ?_;refine D9 f d x l n D b hb hbd hd hn hL _ _ (by rw [h];simp) (fun o2 l2 n2 h2=>by rw [h] at h2;cases h2) (fun c2 t2 l2 n2 h2 v σ hp=>?_);rw [h] at h2;cases h2;exact hp
theorem Um: ∀f,QO f∧L5 f:=by
 intro f;induction f using Nat.strongRecOn with
 |ind f ih=>exact ⟨KO f fun g hg=>(ih g hg).2,KQ f fun g hg=>(ih g hg).1⟩
theorem KS (V:List (List AV)) (a b c:Int) (dm:Nat):LV Tryz.prog gl 48 dm ⟨[.ptr (.up (.n 2)) 0,.ptr (.up (.n 3)) 0],[(.up (.n 2),[.sl V]),(.up (.n 3),[i6 a,i6 b,i6 c])],[]⟩ .nili ⟨.tup [],[(.up (.n 2),[.sl V]),(.up (.n 3),[i6 a,i6 b,i6 c])],[]⟩:=by
 refine UH rfl rfl ?_;simp only [aF,bV,bp,AV.mp,b7,Pl.mp];simp [P0,P1];refine ij ⟨?_,?_,?_,?_,?_,?_⟩<;>simp
theorem KT (a b c:Int) (e:Int) (t:Tk) (dm:Nat):LV Tryz.prog gl 48 dm ⟨[.ptr (.up (.n 2)) 0,.ptr (.up (.n 3)) 0],[(.up (.n 2),[.nils]),(.up (.n 3),[i6 a,i6 b,i6 c])],[]⟩ (wZ e t) ⟨.tup [],[(.up (.n 2),[.nils]),(.up (.n 3),[i6 e,i6 t.ln,i6 t.co])],[]⟩:=by
 refine UH rfl rfl ?_;unfold wZ;simp only [aF,bV,bp,AV.mp,b7,Pl.mp];simp [P0,P1];refine ij ⟨?_,?_,?_,?_,?_,?_⟩<;>simp
section
variable {S SP:Nat→Nat→In→cK→Prop} {SD:Nat→Nat→In→AV→cK→Prop} {N sl dm d:Nat} {rs:List AR} {O:cK} {σ:St}
theorem KU {a:AC} {r:MU}:wN S SP SD N sl dm d rs O (.sq a r) σ=dG S a (fun e σ'=>match e with | .n=>wN S SP SD N sl dm d rs O r σ'| .r=>cZ d rs O .r σ'| .x _=>False) σ:=rfl
theorem Ea {l:List bz} {x:X} {c2:wJ}:wN S SP SD N sl dm d rs O (.df l x c2) σ=mm S l (fun σ'=>match σ'.v x with
 | .fn g caps=> ∃I M,I.vs.length=N∧dt sl σ' ((List.range N).map X.s) I M∧cZ d [.t sl] O .r (bm sl σ' ((List.range N).map X.s) I M)∧
  cN S SP (fun v τ=>(∃T y,v= .ifc T y)∧mr SD sl dm rs M g caps v τ) c2 (fun e τ=>match e with | .x _=>False|_=>mr SD sl dm rs M g caps .nili τ) (aF I)
 |_=>False) σ:=rfl
end
theorem PE:(List.range 22).map X.s=[.s 0,.s 1,.s 2,.s 3,.s 4,.s 5,.s 6,.s 7,.s 8,.s 9,.s 10,.s 11,.s 12,.s 13,.s 14,.s 15,.s 16,.s 17,.s 18,.s 19,.s 20,.s 21]:=rfl
def ke (s:List UInt8):List It×Int×Int×Int:=
 if (fk s).c≠0 then ([],(fk s).c,(fk s).a,(fk s).b)
 else match pL (2*(fk s).l.length+3) 1 0 [] (fk s).l 0 with
  | .ok o _ _=>(o,0,0,0)
  | .th c t _ _=>([],c,t.ln,t.co)
  | .no=>([],0,0,0)
def nb (x:List It×Int×Int×Int):AV:= .tup [.sl (ar x.1),.agg [i6 x.2.1,i6 x.2.2.1,i6 x.2.2.2]]
def Ch (x:TR):List It×Int×Int×Int:=
 if x.c≠0 then ([],x.c,x.a,x.b)
 else match pL (2*x.l.length+3) 1 0 [] x.l 0 with
  | .ok o _ _=>(o,0,0,0)
  | .th c t _ _=>([],c,t.ln,t.co)
  | .no=>([],0,0,0)
theorem zK (s:List UInt8) (x:TR) (TK:Sp Tryz.prog gl 47 [.str s] x.av) (hno:x.c=0→pL (2*x.l.length+3) 1 0 [] x.l 0≠ .no):Sp Tryz.prog gl 22 [.str s] (nb (Ch x)):=by
 refine Sp.of_h fun D=>?_
 refine Vg 1 1 (by decide) (by decide) rfl ?_;unfold Ch nb;obtain ⟨xl,xc,xa,xb⟩:=x;unfold TR.av at TK;simp only at *
 simp only [aF,bV,bp,AV.mp,b7,Pl.mp,QW,KU];by_cases h0:xc=0
 ·subst h0;have hno:=hno rfl;simp;apply ab TK;simp;have hL:=fun D h=>(Um (2*xl.length+3)).1 1 0 xl 0 D (.n 18) rfl h (by decide) (by decide)
  unfold qn at hL;cases hP:pL (2*xl.length+3) 1 0 [] xl 0 with
  |no=>exact absurd hP hno
  |ok o l' n'=>
   have LO:=fun D h=>(hL D h).1 _ _ _ hP
   clear hL hno hP;dsimp only;generalize ar o=OR at *
   generalize List.map Tk.row xl=XL at *
   generalize List.map Tk.row l'=L1 at *
   rw [Ea,PE];simp;refine ⟨⟨[.str s,.undef,.ptr (.n 2) 0,.ptr (.n 3) 0,.sl XL,.undef,.tup [.sl XL,.agg [i6 0,i6 xa,i6 xb]],.str s,.tup [.sl XL,.agg [i6 0,i6 xa,i6 xb]],.sl XL,.agg [i6 0,i6 xa,i6 xb],.ptr (.n 3) 0,i6 0,.bool false,.undef,.fn 48 [.ptr (.n 2) 0,.ptr (.n 3) 0],.undef,.undef,.undef,.undef,.undef,.undef],[(.n 2,[.nils]),(.n 3,[i6 0,i6 xa,i6 xb])],[]⟩,rfl,⟨.tup [.sl OR,.agg [i6 0,i6 0,i6 0]],[(.n 2,[.sl OR]),(.n 3,[i6 0,i6 0,i6 0])],[]⟩,⟨?_,?_,?_,?_,?_,?_,?_⟩,?_,?_⟩;iterate 7 (· simp)
   ·apply am<;>simp
   ·simp;refine G7 _ _ (LO _ rfl) ⟨?_,?_,?_,?_,?_,?_,?_⟩ ?_;iterate 7 (· simp)
    simp;refine ⟨_,_,KS OR 0 0 0 1,⟨?_,?_,?_,?_,?_,?_,?_⟩,?_⟩;iterate 7 (· simp)
    apply am<;>simp
  |th c t l' n'=>
   have LT:=fun D h=>(hL D h).2 _ _ _ _ hP
   clear hL hno hP;dsimp only;have RF:=KT 0 xa xb c t 1;generalize List.map Tk.row xl=XL at *
   generalize List.map Tk.row l'=L1 at *
   obtain ⟨tk,tt,tn,tl,tc⟩:=t;unfold wZ at *
   dsimp only at *
   rw [Ea,PE];simp;refine ⟨⟨[.str s,.undef,.ptr (.n 2) 0,.ptr (.n 3) 0,.sl XL,.undef,.tup [.sl XL,.agg [i6 0,i6 xa,i6 xb]],.str s,.tup [.sl XL,.agg [i6 0,i6 xa,i6 xb]],.sl XL,.agg [i6 0,i6 xa,i6 xb],.ptr (.n 3) 0,i6 0,.bool false,.undef,.fn 48 [.ptr (.n 2) 0,.ptr (.n 3) 0],.undef,.undef,.undef,.undef,.undef,.undef],[(.n 2,[.nils]),(.n 3,[i6 0,i6 xa,i6 xb])],[]⟩,rfl,⟨.tup [.sl [],.agg [i6 c,i6 tl,i6 tc]],[(.n 2,[.nils]),(.n 3,[i6 c,i6 tl,i6 tc])],[]⟩,⟨?_,?_,?_,?_,?_,?_,?_⟩,?_,?_⟩;iterate 7 (· simp)
   ·apply am<;>simp [ar]
   ·simp;refine nV _ _ (LT _ rfl) ⟨?_,?_,?_,?_,?_,?_,?_⟩ rfl ?_;iterate 7 (· simp)
    refine ⟨⟨_,_,rfl⟩,_,_,RF,⟨?_,?_,?_,?_,?_,?_,?_⟩,?_⟩;iterate 7 (· simp)
    apply am<;>simp
 ·have h0':(xc !=0)=true:=by simpa using h0
  rw [if_pos h0];generalize List.map Tk.row xl=XL at *
  simp;apply ab TK;simp [h0,h0'];apply am<;>simp [ar]
theorem Fs (s:List UInt8) (hno:(fk s).c=0→pL (2*(fk s).l.length+3) 1 0 [] (fk s).l 0≠ .no):Sp Tryz.prog gl 22 [.str s] (nb (ke s)):=zK s (fk s) (Fe s) hno
open Go.Proofs
structure Ci (t:Tk):Prop where
 k:1≤t.k∧t.k≤9
 nm:t.k=1→t.n=0
 br:7≤t.k→t.t=[]∧t.n=0
theorem H5 {k:Int} {w:List UInt8} {n:Nat} {a b:Int} (h1:1≤k∧k≤9) (h2:k=1→n=0) (h3:7≤k→w=[]∧n=0):Ci ⟨k,w,n,a,b⟩:=⟨h1,h2,h3⟩
def vE (t:Tk):Prop:=t.k=0∧t.t=[]∧t.n=0
theorem KV {m:List Int} {k:Int} {w:List UInt8} {n:Nat} (h:rV m= .t k w n):(k=1∧n=0)∨(3≤k∧k≤6):=by
 have td: ∀ {j:Int} {q:Nat×Int},bZ j q= .t k w n→k=j:=by
  intro j q h;unfold bZ at h;split at h
  ·cases h;rfl
  ·cases h
 unfold rV at h;split at h
 ·split at h
  ·cases h;exact .inl ⟨rfl,rfl⟩
  ·cases h
 ·unfold Dd at h;right;split at h
  ·rw [td h];decide
  split at h
  ·rw [td h];decide
  split at h
  ·rw [td h];decide
  ·rw [td h];decide
theorem Un {m:List Int} {c:Int} (h:rV m= .e c):c≠0:=by
 unfold rV at h;split at h
 ·split at h
  ·cases h
  ·cases h;decide
 ·unfold Dd at h;repeat' split at h
  all_goals exact oc h
theorem KW (l:List Int) (i:Nat) (r:Int) (hc:(dB rV sU l i r).c=0) (a b:Int):Ci ⟨(dB rV sU l i r).k,(dB rV sU l i r).w,(dB rV sU l i r).n,a,b⟩:=by
 unfold dB at hc ⊢;by_cases c1:r=123
 ·rw [if_pos c1];exact H5 (k:=7) (w:=[]) (n:=0) (by decide) (fun h=>absurd h (by decide)) (fun _=>⟨rfl,rfl⟩)
 rw [if_neg c1] at hc ⊢;by_cases c2:r=125
 ·rw [if_pos c2];exact H5 (k:=8) (w:=[]) (n:=0) (by decide) (fun h=>absurd h (by decide)) (fun _=>⟨rfl,rfl⟩)
 rw [if_neg c2] at hc ⊢;by_cases c3:r=59
 ·rw [if_pos c3];exact H5 (k:=9) (w:=[]) (n:=0) (by decide) (fun h=>absurd h (by decide)) (fun _=>⟨rfl,rfl⟩)
 rw [if_neg c3] at hc ⊢;by_cases c4:r=34
 ·rw [if_pos c4] at hc ⊢;by_cases c5:nk l (i+1)=0
  ·rw [if_pos c5] at hc;exact absurd hc (by decide)
  ·rw [if_neg c5];exact H5 (k:=2) (n:=0) (by decide) (fun h=>absurd h (by decide)) (fun h=>absurd h (by decide))
 rw [if_neg c4] at hc ⊢;by_cases c5:wthn r=true
 ·rw [if_pos c5] at hc ⊢;cases hv:rV (dw l i (hY l i)) with
  |e c=>
   rw [hv] at hc;exact absurd hc (Un hv)
  |t k w n=>
   have:=KV hv
   unfold TV.on;dsimp only;exact H5 (by omega) (by omega) (by omega)
 ·rw [if_neg c5] at hc;exact absurd hc (by decide)
theorem kg (Q:Tk→Prop) (l:List Int) (hQ: ∀i r,(dB rV sU l i r).c=0→ ∀a b,Q ⟨(dB rV sU l i r).k,(dB rV sU l i r).w,(dB rV sU l i r).n,a,b⟩) (P:List (Int×Int)): ∀(f i:Nat) (out:List Tk),l.length - i<f→i≤l.length→(bL rV sU l P f i out).c=0→ ∃o z,(bL rV sU l P f i out).l=out++o++[z]∧(∀t∈o,Q t)∧vE z
 |0,i,out,hf,hi,hc=>by omega
 |f+1,i,out,hf,hi,hc=>by
  rw [bL] at hc ⊢;cases hl:l[i]? with
  |none=>
   rw [hl] at hc;refine ⟨[],_,by rw [nA],(fun t ht=>by cases ht),rfl,rfl,rfl⟩
  |some r=>
   obtain ⟨gi,er⟩:=qI.1 hl;rw [hl] at hc;dsimp only at hc ⊢;by_cases c1:r=32∨r=9∨r=10
   ·rw [if_pos c1] at hc ⊢;exact kg Q l hQ P f (i+1) out (by omega) (by omega) hc
   rw [if_neg c1] at hc ⊢;by_cases c2:r=35
   ·rw [if_pos c2] at hc ⊢;have hs:=Je l l.length (i+1) (by omega) (by omega);have e:C0 l i=C0 l (i+1):=by rw [xD gi,if_neg (by rw [er,c2];decide)]
    rw [e] at hc ⊢;exact kg Q l hQ P f _ out (by omega) (by omega) hc
   rw [if_neg c2] at hc ⊢;by_cases c3:(dB rV sU l i r).c=0
   ·rw [if_pos c3] at hc ⊢;have he:=Lo rV sU l i gi (by rw [er];exact c3);rw [er] at he;obtain ⟨o,z,h1,h2,h3⟩:=kg Q l hQ P f _ _ (by omega) (by omega) hc;refine ⟨⟨(dB rV sU l i r).k,(dB rV sU l i r).w,(dB rV sU l i r).n,(P.getD i (0,0)).1,(P.getD i (0,0)).2⟩::o,z,?_,?_,h3⟩
    ·rw [h1];simp only [jq,List.singleton_append,bH,bR]
    ·intro t ht;rcases jU.1 ht with rfl|ht
     ·exact hQ i r c3 _ _
     ·exact h2 t ht
   ·rw [if_neg c3] at hc;exact absurd hc c3
theorem Ft (Q:Tk→Prop) {s:List UInt8} (hQ: ∀i r,(dB rV sU (ai s 0) i r).c=0→ ∀a b,Q ⟨(dB rV sU (ai s 0) i r).k,(dB rV sU (ai s 0) i r).w,(dB rV sU (ai s 0) i r).n,a,b⟩) (h:(fk s).c=0): ∃o z,(fk s).l=o++[z]∧(∀t∈o,Q t)∧vE z:=by
 unfold fk C4 at h ⊢;split at h
 ·exact absurd h (by decide)
 ·rename_i hl;rw [if_neg hl];obtain ⟨o,z,h1,h2⟩:=kg Q _ hQ _ _ 0 [] (by omega) (iA _) h;exact ⟨o,z,by rw [h1,bR],h2⟩
theorem zL {s:List UInt8} (h:(fk s).c=0): ∃o z,(fk s).l=o++[z]∧(∀t∈o,Ci t)∧vE z:=Ft Ci (fun i r hc a b=>KW _ i r hc a b) h
end Go.Ai
namespace Go.Ai
structure JM (l:List Tk):Prop where
 h: ∃o z,l=o++[z]∧(∀t∈o,Ci t)∧vE z
theorem JM.ne {l:List Tk} (h:JM l):l≠[]:=by
 obtain ⟨o,z,rfl,_⟩:=h;simp
theorem JM.cons {t:Tk} {r:List Tk} (h:JM (t::r)):(r=[]∧vE t∧uf (t::r)=[t])∨(Ci t∧JM r∧uf (t::r)=r):=by
 obtain ⟨o,z,e,ho,hz⟩:=h;cases o with
 |nil=>
  rw [bR] at e;injection e with e1 e2;subst e1;subst e2;exact .inl ⟨rfl,hz,rfl⟩
 |cons a o=>
  rw [bH] at e;injection e with e1 e2;subst e1;subst e2;refine .inr ⟨ho _ (by simp),⟨o,z,rfl,fun t ht=>ho t (by simp [ht]),hz⟩,?_⟩;cases o with
  |nil=>rfl
  |cons b o=>rfl
mutual
def sP:It→List Tk
 | .mk n ws b ks ln co=>⟨1,n,0,ln,co⟩::(ws++(if b=false then [⟨9,[],0,0,0⟩] else ⟨7,[],0,0,0⟩::(lw ks++[⟨8,[],0,0,0⟩])))
def lw:List It→List Tk
 |[]=>[]
 |x::r=>sP x++lw r
end
def Cj (t:Tk):Tk:=⟨t.k,t.t,t.n,if t.k<7 then t.ln else 0,if t.k<7 then t.co else 0⟩
theorem Eb {t:Tk} (h:t.k<7):Cj t=t:=by
 obtain ⟨k,s,n,a,b⟩:=t;unfold Cj;dsimp only at *
 rw [if_pos h,if_pos h]
theorem xd {t:Tk} (h:Ci t) (h7:7≤t.k):Cj t=⟨t.k,[],0,0,0⟩:=by
 obtain ⟨e1,e2⟩:=h.br h7;unfold Cj;rw [if_neg (by omega),if_neg (by omega),e1,e2]
def V9 (d:Nat) (e:Int) (out:List It) (l:List Tk) (n:Nat):Pr (List It)→Prop
 | .no=>False
 | .ok o l' n'=> ∃its T t r,o=out++its∧l=T++t::r∧t.k=e∧l'=uf (t::r)∧JM (t::r)∧T.map Cj=lw its∧n'=n+aT its∧(its=[]∨d+bN its≤5)∧JJ its
 | .th c _ _ _=>c≠0
def Wa (d:Nat) (nm:List UInt8) (ln co:Int) (ws l:List Tk) (n:Nat):Pr It→Prop
 | .no=>False
 | .ok y l' n'=> ∃T,l=T++l'∧JM l'∧(⟨1,nm,0,ln,co⟩::(ws++T.map Cj):List Tk)=sP y∧n'+1=n+fC y∧d+lm y≤5∧Pw y
 | .th c _ _ _=>c≠0
theorem L6: ∀f:Nat,(∀d e out l n,JM l→2*l.length+1≤f→(e=0∨e=8)→V9 d e out l n (pL f d e out l n))∧
  (∀d nm ln co ws l n,JM l→2*l.length+1≤f→d≤4→ws.length≤6→(∀w∈ws,1≤w.k∧w.k≤6)→Wa d nm ln co ws l n (pI f d nm ln co ws l n))
 |0=>⟨fun d e out l n hs hf=>by omega,fun d nm ln co ws l n hs hf=>by omega⟩
 |f+1=>by
  obtain ⟨ihL,ihI⟩:=L6 f;refine ⟨fun d e out l n hs hf he=>?_,fun d nm ln co ws l n hs hf hd hw hk=>?_⟩
  ·cases l with
   |nil=>exact absurd rfl hs.ne
   |cons t r=>
    rw [pL];rw [em] at hf;by_cases c1:t.k=e
    ·rw [if_pos c1];exact ⟨[],[],t,r,(nA _).symm,rfl,c1,rfl,hs,rfl,rfl,.inl rfl,trivial⟩
    rw [if_neg c1];by_cases c2:t.k≠1
    ·rw [if_pos c2];show (6:Int)≠0;decide
    rw [if_neg c2];by_cases c3:4<d
    ·rw [if_pos c3];show (19:Int)≠0;decide
    rw [if_neg c3];by_cases c4:n=300
    ·rw [if_pos c4];show (9:Int)≠0;decide
    rw [if_neg c4];rcases hs.cons with ⟨_,hz,_⟩|⟨ht,hr,hn⟩
    ·exact absurd hz.1 (by omega)
    rw [hn];have hi:=ihI d t.t t.ln t.co [] r (n+1) hr (by omega) (by omega) (by decide) (fun w hw=>by cases hw);split
    ·rename_i x l2 n2 hx;rw [hx] at hi;obtain ⟨T1,e1,s1,k1,n1,d1,w1⟩:=hi;have hl:=ihL d e (out++[x]) l2 n2 s1 (by rw [e1,cG] at hf;omega) he;generalize pL f d e (out++[x]) l2 n2=R at *
     cases R with
     |no=>exact hl
     |th c t l n=>exact hl
     |ok o l' n'=>
      obtain ⟨its,T2,t2,r2,e2,e3,k2,nx,s2,tk,n2',dd,ww⟩:=hl;refine ⟨x::its,t::(T1++T2),t2,r2,by rw [e2,jq];rfl,by rw [e1,e3];simp,k2,nx,s2,?_,?_,.inr ?_,w1,ww⟩
      ·have eu:Cj t=⟨1,t.t,0,t.ln,t.co⟩:=by
        rw [Eb (by omega)];obtain ⟨k,s,m,a,b⟩:=t;have h1:k=1:=by simpa using c2
        have h2:=ht.nm h1;dsimp only at h2 ⊢;rw [h1,h2]
       rw [iP,List.map_append,tk,eu,lw,←k1];simp
      ·rw [aT];omega
      ·rw [bN];rcases dd with rfl|dd
       ·rw [bN];omega
       ·omega
    ·rename_i c2' t2 l2 n2 hx;rw [hx] at hi;exact hi
    ·rename_i hx;rw [hx] at hi;exact hi
  ·cases l with
   |nil=>exact absurd rfl hs.ne
   |cons t r=>
    rw [pI];rw [em] at hf;rcases hs.cons with ⟨rfl,hz,hn⟩|⟨ht,hr,hn⟩
    ·rw [if_neg (by rw [hz.1];decide),if_neg (by rw [hz.1];decide),if_pos (by rw [hz.1];decide)];show (6:Int)≠0;decide
    rw [hn];by_cases c1:t.k=9
    ·rw [if_pos c1];refine ⟨[t],rfl,hr,?_,by rw [fC,aT],by rw [lm,bN];omega,hw,hk,fun _=>rfl,trivial⟩;rw [iP,xQ,xd ht (by omega),c1,sP,if_pos rfl]
    rw [if_neg c1];by_cases c2:t.k=7
    ·rw [if_pos c2];have hl:=ihL (d+1) 8 [] r n hr (by omega) (.inr rfl);split
     ·rename_i ks l2 n2 hx;rw [hx] at hl;obtain ⟨its,T2,t2,r2,e2,e3,k2,nx,s2,tk,n2',dd,ww⟩:=hl;rw [bR] at e2;subst e2;rcases s2.cons with ⟨_,hz,_⟩|⟨ht2,hr2,hn2⟩
      ·exact absurd hz.1 (by omega)
      rw [hn2] at nx;subst nx;refine ⟨t::(T2++[t2]),by rw [e3];simp,hr2,?_,?_,?_,hw,hk,(fun h=>by cases h),ww⟩
      ·rw [iP,List.map_append,iP,xQ,xd ht (by omega),xd ht2 (by omega),tk,c2,k2,sP,if_neg (by decide)]
      ·rw [fC];omega
      ·rw [lm];rcases dd with rfl|dd
       ·rw [bN];omega
       ·omega
     ·rename_i c2' t2 l2 n2 hx;rw [hx] at hl;exact hl
     ·rename_i hx;rw [hx] at hl;exact hl
    rw [if_neg c2];by_cases c3:t.k<1∨6<t.k
    ·rw [if_pos c3];show (6:Int)≠0;decide
    rw [if_neg c3];by_cases c4:ws.length=6
    ·rw [if_pos c4];show (9:Int)≠0;decide
    rw [if_neg c4];have hi:=ihI d nm ln co (ws++[t]) r n hr (by omega) hd (by rw [cG,uc];omega) (fun w hw=>by
     rw [iB,oZ] at hw;rcases hw with hw|rfl
     ·exact hk w hw
     ·omega)
    generalize pI f d nm ln co (ws++[t]) r n=R at *
    cases R with
    |no=>exact hi
    |th c t l n=>exact hi
    |ok y l' n'=>
     obtain ⟨T,e1,s1,k1,rest⟩:=hi;refine ⟨t::T,by rw [e1];rfl,s1,?_,rest⟩;rw [←k1,iP,Eb (by omega)];simp
open Go.Proofs
theorem H6 {s:List UInt8} (h:(fk s).c=0):JM (fk s).l:=⟨zL h⟩
theorem H7 (s:List UInt8) (h:(fk s).c=0):pL (2*(fk s).l.length+3) 1 0 [] (fk s).l 0≠ .no:=by
 have:=(L6 (2*(fk s).l.length+3)).1 1 0 [] _ 0 (H6 h) (by omega) (.inl rfl)
 intro e;rw [e] at this;exact this
theorem zM (s:List UInt8):Sp Tryz.prog gl 22 [.str s] (nb (ke s)):=Fs s (H7 s)
end Go.Ai
