/- Lib11: a part of the proof. Conditions: as each theorem says. -/
import Derived.Test.YtojgeamhdkphaaaGreatDoorLib7
import Derived.Test.YtojgeamhdkphaaaGreatDoorLib10
import Derived.Shelf.Strings.OnBuilder
import Derived.Shelf.Strconv.Itoa3
import Derived.Sort.Row
import Derived.Sort.Grow
import Derived.Shelf.Strings.Builder1
import Derived.Shelf.Small.Wraps
import Derived.Shelf.LaysM
import Derived.Shelf.Strings.SplitCore
import Derived.Shelf.Strings.Search3
import Derived.Shelf.Strings.Count
import Derived.Lib.SplitLaws
import Derived.Shelf.Strings.Fields
import Derived.Shelf.Strings.Search2
import Derived.Shelf.Strings.BuilderK
import Derived.Lib.RuneBytes
set_option maxHeartbeats 4000000
set_option linter.unusedSimpArgs false
set_option linter.unusedVariables false
namespace Go.Ai
open Go.RowKit
theorem mU {P:Program} {GL:List (Nat×List Value)} {f:Nat} {fn:Func} (hf:P.funcs[f]?=some fn) (hname:(fn.name== "runtime.NumGoroutine")=false) (hb:fn.body.isSome=true) {l:List AV} {r:AV}
  (h: ∀(S:aR) (gb:Gb) (w:World) (vs:List Value),aa S gb l vs->(∀g o v,S g o=some v->w.cell? ⟨g,o,none⟩=some v)->
   Calls P f vs.toArray w fun e w'=> ∃v,e= .returned v/\Below w.heap.size w w'/\PR S gb r v):Sp P GL f l r:=by
 rw[uL];intro d S gb w vs hvs hhr hglo hnw;have h1:=h S gb w vs hvs hhr.agree;unfold lH;have hcall:(callFunc f vs.toArray).run P w= .ok (.enter f vs.toArray) w:=by
  obtain ⟨c,hc⟩:=jp.1 hb;have hn: ¬fn.name= "runtime.NumGoroutine":=by simpa using hname
  simp[callFunc,hf,hc,hn]
 rw[hcall];refine h1.mono fun e w' ⟨v,he,hbel,hp⟩=>⟨v,he,S,gb,Bw.of_below hbel,fun _ _ _ _=>rfl,aR.le.refl _,fun _ _=>rfl,fun i hi hne=>absurd (hnw i hi) hne,hp,⟨?_,?_,?_,?_,?_,?_,?_,?_⟩,?_,?_⟩
 ·intro g o u hu
  have:=hhr.agree g o u hu
  have hlt:=World.block_lt_of_cell? w _ this;rw[hbel.cell (p:=⟨g,o,none⟩) (by simpa using hlt)];exact this
 ·intro d cs hcs;simp[aD] at hcs
 ·intro d cs hcs;simp[aD] at hcs
 ·intro d d' g z z' hg;simp[aD] at hg
 ·intro p k hk;simp[aH] at hk
 ·intro p q k l b hk;simp[aH] at hk
 ·intro p k b d z hk;simp[aH] at hk
 ·intro d off k hk;simp[aH] at hk
 ·intro d g z hg;simp[aD] at hg
 ·intro p k g hk;simp[aH] at hk
end Go.Ai
namespace Go.Ai
open Go.RowKit
theorem xO {P:Program} {GL:List (Nat×List Value)} {f:Nat} {fn:Func} (hf:P.funcs[f]?=some fn) (hname:(fn.name== "runtime.NumGoroutine")=false) (hb:fn.body.isSome=true) {l:List AV} {r:AV}
  (h: ∀(S:aR) (gb:Gb) (w:World) (vs:List Value),aa S gb l vs->(∀g o v,S g o=some v->w.cell? ⟨g,o,none⟩=some v)->
   (∀i us,GL.lookup i=some us-> ∀(o:Nat) (u:Value),us[o]?=some u->w.cell? ⟨i,o,none⟩=some u)->
   Calls P f vs.toArray w fun e w'=> ∃v,e= .returned v/\Below w.heap.size w w'/\PR S gb r v):Sp P GL f l r:=by
 rw[uL];intro d S gb w vs hvs hhr hglo hnw;have h1:=h S gb w vs hvs hhr.agree (fun i us hi o u hu=>hhr.agree _ _ _ (hglo i us hi o u hu).1);unfold lH;have hcall:(callFunc f vs.toArray).run P w= .ok (.enter f vs.toArray) w:=by
  obtain ⟨c,hc⟩:=jp.1 hb;have hn: ¬fn.name= "runtime.NumGoroutine":=by simpa using hname
  simp[callFunc,hf,hc,hn]
 rw[hcall];refine h1.mono fun e w' ⟨v,he,hbel,hp⟩=>⟨v,he,S,gb,Bw.of_below hbel,fun _ _ _ _=>rfl,aR.le.refl _,fun _ _=>rfl,fun i hi hne=>absurd (hnw i hi) hne,hp,⟨?_,?_,?_,?_,?_,?_,?_,?_⟩,?_,?_⟩
 ·intro g o u hu
  have:=hhr.agree g o u hu
  have hlt:=World.block_lt_of_cell? w _ this;rw[hbel.cell (p:=⟨g,o,none⟩) (by simpa using hlt)];exact this
 ·intro d cs hcs;simp[aD] at hcs
 ·intro d cs hcs;simp[aD] at hcs
 ·intro d d' g z z' hg;simp[aD] at hg
 ·intro p k hk;simp[aH] at hk
 ·intro p q k l b hk;simp[aH] at hk
 ·intro p k b d z hk;simp[aH] at hk
 ·intro d off k hk;simp[aH] at hk
 ·intro d g z hg;simp[aD] at hg
 ·intro p k g hk;simp[aH] at hk
end Go.Ai
namespace Go.Ai
open Go.RowKit
end Go.Ai
namespace Go.Ai
open Go.RowKit Go.Shelf Go.Proofs
variable {P:Program} {ρ:Ren}
theorem Q8 {p:Prop} (h:p):Hid p:=h
theorem nK {w w':World} {B:Nat} {e:TypeId} {sz:Nat} {v:Value} {n:Nat} {xs:List Value} (h:w.ownsRow B e sz v n xs) (hh: ∀g,v.ownBlock=some g->w'.heap[g]?=w.heap[g]?):w'.ownsRow B e sz v n xs:=by
 refine ⟨h.1,?_⟩;rcases h.2 with hn|⟨g,cap,cur,rfl,hb,hgg,rest⟩
 ·exact .inl hn
 ·refine .inr ⟨g,cap,cur,rfl,hb,?_,rest⟩;rw[hh g rfl];exact hgg
def rx (P:Program) (B T n:Nat):Prop:=liesAt P P.depth T (n / P.cellsOf T) 0 B 1=true
structure fH (w:World) (b:Nat) (p v:Value) (us:Array Value) (T:TypeId):Prop where
 heap:w.heap[b]?=some (.cells us T (0,0))
 c0:us[0]?=some p
 c1:us[1]?=some v
theorem fH.cell {w:World} {b:Nat} {p v:Value} {us:Array Value} {T:TypeId} (h:fH w b p v us T):w.cell? ⟨b,0,none⟩=some p/\w.cell? ⟨b,1,none⟩=some v/\w.frozen? ⟨b,0,none⟩=false/\w.frozen? ⟨b,1,none⟩=false/\w.shape? b=some (T,us.size):=by
 refine ⟨?_,?_,?_,?_,?_⟩
 ·rw[Lib.cell_of_heap h.heap];exact h.c0
 ·rw[Lib.cell_of_heap h.heap];exact h.c1
 ·simp[World.frozen?,h.heap]
 ·simp[World.frozen?,h.heap]
 ·simp[World.shape?,h.heap]
theorem fH.set0 {w:World} {b:Nat} {p v:Value} {us:Array Value} {T:TypeId} (h:fH w b p v us T) (q:Value):fH (w.setCell ⟨b,0,none⟩ q) b q v (us.setIfInBounds 0 q) T:=by
 have h0:=h.c0;have h1:=h.c1;refine ⟨?_,?_,?_⟩
 ·simp[World.setCell,Array.getElem?_modify,h.heap]
 ·obtain ⟨hl,_⟩:=qC.1 h0;simp[Array.getElem?_setIfInBounds,hl]
 ·simp[Array.getElem?_setIfInBounds,h1]
theorem fH.set1 {w:World} {b:Nat} {p v:Value} {us:Array Value} {T:TypeId} (h:fH w b p v us T) (q:Value):fH (w.setCell ⟨b,1,none⟩ q) b p q (us.setIfInBounds 1 q) T:=by
 have h0:=h.c0;have h1:=h.c1;refine ⟨?_,?_,?_⟩
 ·simp[World.setCell,Array.getElem?_modify,h.heap]
 ·simp[Array.getElem?_setIfInBounds,h0]
 ·obtain ⟨hl,_⟩:=qC.1 h1;simp[Array.getElem?_setIfInBounds,hl]
structure xP (w w':World) (b:Nat) (r:Option Nat):Prop where
 size:w.heap.size<=w'.heap.size
 os:w'.os=w.os
 tape:w'.tape=w.tape
 output:w'.output=w.output
 block: ∀k,k<w.heap.size->k≠b->r≠some k->w'.heap[k]?=w.heap[k]?
set_option maxRecDepth 100000 in
theorem DV (L:Lays.n240 P ρ) (X:Builder.X72 P ρ) (b:Nat) (w:World) (T n:Nat) (hT:rx P (ρ.t 72) T n) (hn:0<n) (h0:w.cell? ⟨b,0,none⟩=some (.pointer none)) (hsh:w.shape? b=some (T,n)) (hfz:w.frozen? ⟨b,0,none⟩=false):
  Calls P (ρ.f 240) #[.pointer (some ⟨b,0,none⟩)] w fun e w'=>e= .returned (.tuple #[])/\w'=w.setCell ⟨b,0,none⟩ (.pointer (some ⟨b,0,none⟩)):=by
 obtain ⟨j,hj,hjs⟩:=AB.1 X.sizeBuilder;have mixed:=L.mixed;have t72:=L.t72;have a72:=L.a72;have z72:=L.z72;have v72:=L.v72;have u72:=run_underlying L.t72;have t70:=L.t70;have a70:=L.a70;have z70:=L.z70;have v70:=L.v70;have u70:=run_underlying L.t70;have t9:=L.t9;have a9:=L.a9;have z9:=L.z9;have v9:=L.v9;have u9:=run_underlying L.t9;have t4:=L.t4;have a4:=L.a4;have z4:=L.z4;have v4:=L.v4;have u4:=run_underlying L.t4;have t164:=L.t164;have a164:=L.a164;have z164:=L.z164;have v164:=L.v164;have u164:=run_underlying L.t164
 go_enter L.f240,Body.n240_ntmps ρ
 go_wp2
 rw[Lib.run_to_unsafe w ⟨b,0,none⟩ L.t70 L.t164 hj (by rw[hjs];decide) hsh hn];simp only[Result.andThen];rw[Oper.upon_value]
 go_wp2
 rw[run_callFunc_extern L.f276 (by kernel_rfl) (by kernel_rfl) (by kernel_rfl) (e:=Extern.AbiNoEscape.same) (by kernel_rfl)];rw[Lib.run_noEscape];simp only[Result.andThen];rw[Oper.upon_value]
 go_wp2
 rw[Lib.run_from_unsafe w ⟨b,0,none⟩ L.t164 L.t70 hj hsh hT];simp only[Result.andThen];rw[Oper.upon_value]
 go_wp2
 go_end0
 exact ⟨rfl,rfl⟩
theorem jr (w:World) (b o:Nat) (q:Value) (r:Option Nat):xP w (w.setCell ⟨b,o,none⟩ q) b r:=
 ⟨by simp[World.setCell],rfl,rfl,rfl,fun k _ hk _=>by simp only[World.setCell,Array.getElem?_modify];rw[if_neg (fun e=>hk e.symm)]⟩
theorem xP.trans {a b c:World} {x:Nat} {r:Option Nat} (h:xP a b x r) (k:xP b c x r):xP a c x r:=
 ⟨mu h.size k.size,k.os.trans h.os,k.tape.trans h.tape,k.output.trans h.output,fun i hi h1 h2=>(k.block i (AD hi h.size) h1 h2).trans (h.block i hi h1 h2)⟩
theorem xP.refl (w:World) (x:Nat) (r:Option Nat):xP w w x r:=⟨eR _,rfl,rfl,rfl,fun _ _ _ _=>rfl⟩
theorem xP.grown {w w':World} {x:Nat} {r:Option Nat} (h:w.grownBy w' r):xP w w' x r:=⟨h.size,h.os,h.tape,h.output,fun k hk _ h2=>h.block k hk (fun e=>h2 e.symm)⟩
def JG (P:Program) (B T n b:Nat) (p:Value):Prop:=(p= .pointer none/\rx P B T n)\/p= .pointer (some ⟨b,0,none⟩)
theorem DW (L:Lays.n240 P ρ) (X:Builder.X72 P ρ) {b:Nat} {w:World} {p v:Value} {us:Array Value} {T:TypeId} (h:fH w b p v us T) (hp:JG P (ρ.t 72) T us.size b p):
  Calls P (ρ.f 240) #[.pointer (some ⟨b,0,none⟩)] w fun e w'=>e= .returned (.tuple #[])/\fH w' b (.pointer (some ⟨b,0,none⟩)) v (us.setIfInBounds 0 (.pointer (some ⟨b,0,none⟩))) T/\(∀r,xP w w' b r)/\w'.heap.size=w.heap.size:=by
 obtain ⟨c0,c1,f0,f1,sh⟩:=h.cell;have hlen:0<us.size:=(qC.1 h.c0).1;rcases hp with ⟨rfl,hT⟩|rfl
 ·refine (DV L X b w T us.size hT hlen c0 sh f0).mono ?_;rintro e w' ⟨rfl,rfl⟩;exact ⟨rfl,h.set0 _,fun r=>jr w b 0 _ r,by simp[World.setCell]⟩
 ·refine (Any.Builder_copyCheck_used L X b w c0).mono ?_;rintro e w' ⟨rfl,rfl⟩;refine ⟨rfl,⟨?_,?_,?_⟩,fun r=>xP.refl _ _ _,rfl⟩
  ·rw[h.heap];congr 2
   apply Array.ext_getElem?;intro j;rw[Array.getElem?_setIfInBounds];split
   ·rename_i e;subst e;simp only[h.c0]
   ·rfl
  ·simp[Array.getElem?_setIfInBounds,hlen]
  ·simp[Array.getElem?_setIfInBounds,h.c1]
def vH (w:World) (b:Nat) (v:Value) (us:Array Value) (T E:TypeId) (bs:List Value) (w':World):Prop:=
 ∃v',fH w' b (.pointer (some ⟨b,0,none⟩)) v' ((us.setIfInBounds 0 (.pointer (some ⟨b,0,none⟩))).setIfInBounds 1 v') T/\w'.ownsRow 0 E 1 v' bs.length bs/\(v'.ownBlock=v.ownBlock\/((∃g,v'.ownBlock=some g/\w.heap.size<=g)/\xP w w' b none))/\v'.ownBlock≠some b/\xP w w' b v.ownBlock
set_option maxRecDepth 100000 in
theorem A0 (L:Lays.n169 P ρ) (X:Builder.Extra P ρ) {b g cap:Nat} {w:World} {p:Value} {us cur:Array Value} {T:TypeId} (l:List UInt8) (h0:l≠[]) (h:fH w b p (.slice (some ⟨g,0,none⟩) l.length cap) us T)
  (hown:w.ownsRow 0 (ρ.t 5) 1 (.slice (some ⟨g,0,none⟩) l.length cap) l.length (Lib.byteCells l)):
  Calls P (ρ.f 169) #[.pointer (some ⟨b,0,none⟩)] w fun e w'=>e= .returned (.string ⟨l.toArray⟩)/\w'=w.drew.freeze ⟨g,0,none⟩ l.length:=by
 have hl0:l.length≠0:=by simpa using h0
 obtain ⟨g',cap',cur,hv,hbg,hg,hnc,hcm,hcs,htake⟩: ∃g' cap' cur,Value.slice (some ⟨g,0,none⟩) l.length cap= .slice (some ⟨g',0,none⟩) l.length cap'/\0<=g'/\w.heap[g']?=some (.cells cur (ρ.t 5) (0,0))/\l.length<=cap'/\cap'<=maxLen/\cur.size=cap'*1/\cur.toList.take (l.length*1)=Lib.byteCells l:=by
  rcases hown.2 with ⟨_,hz⟩|⟨g,cap,cur,hv,r⟩
  ·exact absurd hz hl0
  ·exact ⟨g,cap,cur,hv,r⟩
 cases hv;have c1:w.drew.cell? ⟨b,1,none⟩=some (.slice (some ⟨g,0,none⟩) l.length cap):=h.cell.2.1;have hSD:(Builtin.unsafeSliceData_ #[(ρ.t 37)] (ρ.t 127) #[.slice (some ⟨g,0,none⟩) l.length cap]).run P w.drew= .ok (.pointer (some ⟨g,0,none⟩)) w.drew:=
  Lib.run_unsafeSliceData_row _ _ _ _ _ _ (by omega)
 have hUS:(Builtin.unsafeString_ #[(ρ.t 127),(ρ.t 3)] (ρ.t 9) #[.pointer (some ⟨g,0,none⟩),.int .i64 l.length]).run P w.drew= .ok (.string ⟨l.toArray⟩) (w.drew.freeze ⟨g,0,none⟩ l.length):=by
  refine Lib.run_unsafeString_row w.drew (ρ.t 127) (ρ.t 3) (ρ.t 9) (ρ.t 5) L.t127 X.cellsByte g cur.size (by have hg':w.drew.heap[g]?=some (.cells cur (ρ.t 5) (0,0)):=hg;simp[World.shape?,hg']) l h0 (by omega) (by unfold maxLen at hcm;omega) ?_;intro j x hx
  have:=hown.cells (g:=g) rfl j (.int .u8 x.toNat) (by simp[Lib.byteCells,hx])
  exact this
 have mixed:=L.mixed;have t72:=L.t72;have a72:=L.a72;have z72:=L.z72;have v72:=L.v72;have u72:=run_underlying L.t72;have t70:=L.t70;have a70:=L.a70;have z70:=L.z70;have v70:=L.v70;have u70:=run_underlying L.t70;have t37:=L.t37;have a37:=L.a37;have z37:=L.z37;have v37:=L.v37;have u37:=run_underlying L.t37;have t127:=L.t127;have a127:=L.a127;have z127:=L.z127;have v127:=L.v127;have u127:=run_underlying L.t127;have t3:=L.t3;have a3:=L.a3;have z3:=L.z3;have v3:=L.v3;have u3:=run_underlying L.t3;have t9:=L.t9;have a9:=L.a9;have z9:=L.z9;have v9:=L.v9;have u9:=run_underlying L.t9;have t5:=X.t5;have a5:=X.a5;have z5:=X.z5;have v5:=X.v5;have u5:=run_underlying X.t5
 go_enter L.f169,Body.n169_ntmps ρ
 go_wp2
 go_region_o
 all_goals (go_wp2;go_ret;exact ⟨rfl,rfl⟩)
def bk (E:Nat):Nat:=KB+E
theorem vI (l:List UInt8) (j:Nat):(aj l)[j]?=(l[j]?).map fun b=>[AV.int .u8 b.toNat]:=by simp[aj]
theorem kF (l:List UInt8) (j:Nat):(Lib.byteCells l)[j]?=(l[j]?).map fun b=>Value.int .u8 b.toNat:=by simp[Lib.byteCells]
theorem xQ {S:aR} {l:List UInt8} {k g o:Nat} (h:a6 S k (aj l) g o): ∀(j:Nat) (u:Value),(Lib.byteCells l)[j]?=some u->S g (o+j)=some u:=by
 intro j u hu;rw[kF,AB] at hu;obtain ⟨x,hx,rfl⟩:=hu;have h2:(aj l)[j]?=some [.int .u8 x.toNat]:=by rw[vI,hx];rfl
 obtain ⟨hk,h3⟩:=h.get h2;simp only[e7,tO,l5] at hk;subst hk;simp only[aK,PR,Nat.mul_one] at h3;obtain ⟨⟨u,hu,_,rfl⟩,_⟩:=h3;exact hu
theorem xR {S:aR} {gb:Gb}: ∀(m:List UInt8),aa S gb (m.map fun b=>AV.int .u8 b.toNat) (Lib.byteCells m)
 |[]=>by simp[Lib.byteCells,aa]
 |a::m=>by
  have ih:=xR (S:=S) (gb:=gb) m;simp only[Lib.byteCells,fZ,aa,PR] at ih ⊢;exact ⟨_,_,rfl,rfl,ih⟩
theorem uw {S:aR} {gb:Gb} {w:World} {v:Value} {l:List UInt8} {E:Nat} (hag: ∀g o v,S g o=some v->w.cell? ⟨g,o,none⟩=some v) (ho:rk S w (bk E) v) (hp:PR S gb (.sl (aj l)) v):
  w.ownsRow 0 E 1 v l.length (Lib.byteCells l)/\(∀g o,v.ownBlock=some g->l.length<=o->S g o=none):=by
 have hll:(aj l).length=l.length:=by simp[aj]
 rcases ho with rfl|⟨hk,_⟩|⟨hk,g,n,cap,cur,rfl,h3,h4,h5,h6,h7⟩
 ·simp only[PR] at hp;rcases hp with ⟨_,hp⟩|⟨_,_,_,hp,_⟩
  ·have hl:l=[]:=by simpa[aj] using hp
   subst hl;exact ⟨World.ownsRow_nil _ _ _ _,fun g o hg=>by simp[Value.ownBlock] at hg⟩
  ·cases hp
 ·exact absurd hk (by unfold bk;omega)
 ·have hE:bk E - KB=E:=by unfold bk;omega
  rw[hE] at h3;simp only[PR] at hp;rcases hp with ⟨hp,_⟩|⟨a,cap',k,hp,hc,hr⟩
  ·cases hp
  ·rw[hll] at hp;cases hp;refine ⟨⟨by simp[Lib.byteCells],.inr ⟨g,cap,cur,rfl,jq _,h3,h4,h5,by omega,?_⟩⟩,fun g1 o hg ho=>?_⟩
   ·have hcell: ∀(j:Nat) (u:Value),(Lib.byteCells l)[j]?=some u->cur[j]?=some u:=by
     intro j u hu;rcases hr with hr|⟨_,hr⟩
     ·have hl:l=[]:=by simpa[aj] using hr
      subst hl;simp[Lib.byteCells] at hu
     ·have:=hag _ _ _ (xQ hr j u hu)
      rw[l5,cell_of_row w g j cur E _ h3] at this;exact this
    apply List.ext_getElem?;intro j;rw[qr];split
    ·rename_i hj;have hj2:j<(Lib.byteCells l).length:=by simp[Lib.byteCells];omega
     rw[uk hj2]
     have:=hcell j _ (uk hj2)
     simpa using this
    ·rename_i hj;rw[Ga (by simp[Lib.byteCells];omega)]
   ·simp only[Value.ownBlock,cW] at hg;subst hg;exact h7 o ho
theorem aa.two {S:aR} {gb:Gb} {c0 c1:AV} {rest:List AV} {us:List Value} (h:aa S gb (c0::c1::rest) us): ∃p v us',us=p::v::us'/\PR S gb c0 p/\PR S gb c1 v/\aa S gb rest us':=by
 simp only[aa] at h;obtain ⟨p,_,rfl,hp,v,us',rfl,hv,hr⟩:=h;exact ⟨p,v,us',rfl,hp,hv,hr⟩
theorem xS {GL:List (Nat×List Value)} {f:Nat} {fn:Func} (hf:P.funcs[f]?=some fn) (hname:(fn.name== "runtime.NumGoroutine")=false) (hbd:fn.body.isSome=true) {B E d:Nat} {b:Id} (hit:b.isIt=false) (hnwb:b.isNw d=false)
  {c0:AV} {T n:Nat} (hc0:(c0= .nilT b T n/\rx P B T n)\/c0= .ptr b 0) {rest:List AV} {x r:AV} {y rv:Value} (hx: ∀(S:aR) (gb:Gb) (u:Value),PR S gb x u->u=y) (hr: ∀(S:aR) (gb:Gb),PR S gb r rv) (l l2:List UInt8)
  (h: ∀(w:World) (g:Nat) (p v:Value) (us:Array Value) (T':TypeId),fH w g p v us T'->JG P B T' us.size g p->w.ownsRow 0 E 1 v l.length (Lib.byteCells l)->v.ownBlock≠some g->
   Calls P f #[.pointer (some ⟨g,0,none⟩),y] w fun e w'=>e= .returned rv/\vH w g v us T' E (Lib.byteCells (l++l2)) w'):
  ba P GL f d ⟨[.ptr b 0,x],[(b,c0:: .sl (aj l)::rest)],[(.b b 1,bk E)]⟩ ⟨r,[(b,.ptr b 0:: .sl (aj (l++l2))::rest)],[(.b b 1,bk E)]⟩:=by
 unfold ba;intro S gb w vs hvs hhr hglo hnw;simp only[aa] at hvs;obtain ⟨v0,_,rfl,hv0,v1,_,rfl,hv1,rfl⟩:=hvs
 have:=hx _ _ _ hv1
 subst this;simp only[PR] at hv0;obtain ⟨g,z,hg,_,rfl⟩:=hv0;obtain ⟨g',us,T1,e1,e3,e0,e4,e5,e6⟩:=hhr.box b _ (by simp[aD];rfl) hit;rw[hg] at e1;cases e1;obtain ⟨p,v,us2,hus,hp0,hv,hrest⟩:=e4.two;have hu0:us[0]?=some p:=by
  have:(us.toList.take (c0:: .sl (aj l)::rest).length)[0]?=some p:=by rw[hus];rfl
  rw[qr,if_pos (by simp)] at this;simpa using this
 have hu1:us[1]?=some v:=by
  have:(us.toList.take (c0:: .sl (aj l)::rest).length)[1]?=some v:=by rw[hus];rfl
  rw[qr,if_pos (by simp)] at this;simpa using this
 have hB:fH w g p v us T1:=⟨e3,hu0,hu1⟩;have hP:JG P B T1 us.size g p:=by
  rcases hc0 with ⟨rfl,hT⟩|rfl
  ·simp only[PR] at hp0;obtain ⟨rfl,g2,hg2⟩:=hp0;rw[hg] at hg2;cases hg2;exact .inl ⟨rfl,hT⟩
  ·simp only[PR] at hp0;obtain ⟨g2,z2,hg2,_,rfl⟩:=hp0;rw[hg] at hg2;cases hg2;exact .inr rfl
 have hpl:ct gb (fun t=>[Value.pointer (some ⟨g,0,none⟩),v1].getD t undef) w (.b b 1)=v:=by simp[ct,hg,hB.cell.2.1]
 have hown:=hhr.own (.b b 1) (bk E) (by simp[aH]);rw[hpl] at hown;obtain ⟨hrow,hun⟩:=uw hhr.agree hown hv;have hneb:v.ownBlock≠some g:=fun e=>hhr.ownb (.b b 1) (bk E) g b _ (by simp[aH]) (by rw[hpl];exact e) (by simp[aD]) hg
 have h1:=h w g p v us T1 hB hP hrow hneb;have hglt:g<w.heap.size:=(qC.1 e3).1;unfold lH;have hcall:(callFunc f #[Value.pointer (some ⟨g,0,none⟩),v1]).run P w= .ok (.enter f #[Value.pointer (some ⟨g,0,none⟩),v1]) w:=by
  obtain ⟨c,hc⟩:=jp.1 hbd;have hn: ¬fn.name= "runtime.NumGoroutine":=by simpa using hname
  simp[callFunc,hf,hc,hn]
 have hcall':(callFunc f [Value.pointer (some ⟨g,0,none⟩),v1].toArray).run P w= .ok (.enter f #[Value.pointer (some ⟨g,0,none⟩),v1]) w:=hcall;rw[hcall'];refine h1.mono ?_;rintro e w' ⟨he,v',k1,k2,k3,k4,k5⟩;have hle:aR.le S (fun g1 o=>if v'.ownBlock=some g1 then (Lib.byteCells (l++l2))[o]? else S g1 o):=by
  intro g1 o u hu;show (if v'.ownBlock=some g1 then (Lib.byteCells (l++l2))[o]? else S g1 o)=some u;split
  ·rename_i e;rcases k3 with e2|⟨⟨g2,e2,e3⟩,_⟩
   ·rw[e2] at e;have ho:o<l.length:=by
     rcases Nat.lt_or_ge o l.length with h|h
     ·exact h
     ·rw[hun g1 o e h] at hu;cases hu
    have hc:=hrow.cells e o _ (uk (by rw[Lib.byteCells_length];exact ho));have hadd:(⟨g1,0,none⟩:Addr).add o=⟨g1,o,none⟩:=by rw[Addr.add_lit,l5]
    rw[hadd,hhr.agree _ _ _ hu] at hc;rw[kF,List.getElem?_append_left ho,<-kF,uk (by rw[Lib.byteCells_length];exact ho)];exact hc.symm
   ·rw[e2] at e;cases e
    have:=World.block_lt_of_cell? w _ (hhr.agree _ _ _ hu)
    simp only at this;omega
  ·exact hu
 refine ⟨rv,he,(fun g1 o=>if v'.ownBlock=some g1 then (Lib.byteCells (l++l2))[o]? else S g1 o),gb,⟨k5.os,k5.tape,k5.output,k5.size,?_⟩,?_,hle,fun _ _=>rfl,fun i hi hne=>absurd (hnw i hi) hne,hr _ _,⟨?_,?_,?_,?_,?_,?_,?_,?_⟩,?_,?_⟩
 ·intro k hk hm;exact k5.block k hk (fun e=>hm (.inl ⟨b,_,by simp[aD],by rw[hg,e]⟩)) (fun e=>hm (.inr ⟨.b b 1,bk E,by simp[aH],by rw[hpl];exact e⟩))
 ·intro g1 o hg1 hm;show (if v'.ownBlock=some g1 then (Lib.byteCells (l++l2))[o]? else S g1 o)=S g1 o;rw[if_neg];intro e;rcases k3 with e2|⟨⟨g2,e2,e3⟩,_⟩
  ·exact hm (.inr ⟨.b b 1,bk E,by simp[aH],by rw[hpl,<-e2];exact e⟩)
  ·rw[e2] at e;cases e;omega
 ·
  intro g1 o u hu
  replace hu:(if v'.ownBlock=some g1 then (Lib.byteCells (l++l2))[o]? else S g1 o)=some u:=hu
  split at hu
  ·rename_i e;have hc:=k2.cells e o u hu;have hadd:(⟨g1,0,none⟩:Addr).add o=⟨g1,o,none⟩:=by rw[Addr.add_lit,l5]
   rw[hadd] at hc;exact hc
  ·rename_i e;have hc:=hhr.agree _ _ _ hu;have hlt:=World.block_lt_of_cell? w _ hc;have hne:g1≠g:=fun e=>by subst e;rw[e6] at hu;cases hu
   rw[World.cell?_of_block (w:=w)]
   ·exact hc
   ·rcases k3 with e2|⟨_,e3⟩
    ·exact k5.block g1 hlt hne (by rw[<-e2];exact e)
    ·exact e3.block g1 hlt hne (by simp)
 ·intro d' cs1 hcs1 hi;simp only[aD] at hcs1;split at hcs1
  ·rename_i e;subst e;cases hcs1;have hsz:((us.setIfInBounds 0 (.pointer (some ⟨g,0,none⟩))).setIfInBounds 1 v').size=us.size:=by simp
   refine ⟨g,_,T1,by rw[hsz];exact hg,k1.heap,by rw[hsz];simpa using e0,?_,?_,?_⟩
   ·have hl2:(AV.ptr b 0::AV.sl (aj (l++l2))::rest).length=(c0::AV.sl (aj l)::rest).length:=by simp
    rw[hl2];have htk:((us.setIfInBounds 0 (.pointer (some ⟨g,0,none⟩))).setIfInBounds 1 v').toList.take (c0::AV.sl (aj l)::rest).length= .pointer (some ⟨g,0,none⟩)::v'::us2:=by
     rw[Array.toList_setIfInBounds,Array.toList_setIfInBounds,List.take_set,List.take_set,hus];rfl
    rw[htk];simp only[aa];refine ⟨_,_,rfl,?_,_,_,rfl,?_,?_⟩
    ·simp only[PR];exact ⟨g,_,hg,hit,rfl⟩
    ·simp only[PR];have hll:(aj (l++l2)).length=(Lib.byteCells (l++l2)).length:=by simp[aj,Lib.byteCells]
     rcases k2.2 with ⟨hv',hn⟩|⟨g3,cap,cur,hv',_,q1,q2,q3,q4,q5⟩
     ·refine .inl ⟨hv',?_⟩;exact Jy (by rw[hll];exact hn)
     ·refine .inr ⟨⟨g3,0,none⟩,cap,1,by rw[hll];exact hv',by rw[hll];exact q2,.inr ⟨rfl,?_⟩⟩;rw[a6.flat];refine ⟨fun r hr=>by simp only[aj,oY] at hr;obtain ⟨_,_,rfl⟩:=hr;rfl,?_⟩;have hfl:(aj (l++l2)).flatten=(l++l2).map fun b=>AV.int .u8 b.toNat:=by
       generalize l++l2=m;induction m with
       |nil=>rfl
       |cons a m ih=>simp only[aj,fZ,List.flatten_cons] at ih ⊢;rw[ih];rfl
      rw[hfl];refine aK.of_list (us:=Lib.byteCells (l++l2)) ?_ ?_ (fun j u hu=>?_)
      ·exact xR _
      ·intro u hu;simp only[Lib.byteCells,oY] at hu;obtain ⟨_,_,rfl⟩:=hu;rfl
      ·simp only[hv',Value.ownBlock,if_true,l5];exact hu
    ·exact aa.mono hle (Gb.le.refl _) _ _ hrest
   ·intro u hu;rw[Array.toList_setIfInBounds,Array.toList_setIfInBounds] at hu;rcases List.mem_or_eq_of_mem_set hu with hu|rfl
    ·rcases List.mem_or_eq_of_mem_set hu with hu|rfl
     ·exact e5 u hu
     ·rfl
    ·rcases k2.2 with ⟨hv',_⟩|⟨_,_,_,hv',_⟩<;>rw[hv']<;>rfl
   ·intro o;show (if v'.ownBlock=some g then (Lib.byteCells (l++l2))[o]? else S g o)=none;rw[if_neg k4];exact e6 o
  ·cases hcs1
 ·intro d' cs1 hcs1 hi;simp only[aD] at hcs1;split at hcs1
  ·rename_i e;subst e;rw[hit] at hi;cases hi
  ·cases hcs1
 ·intro d1 d2 g1 z1 z2 i1 i2 _ _;simp only[aD] at i1 i2;split at i1
  ·split at i2
   ·rename_i e1 e2;rw[<-e1,<-e2]
   ·cases i2
  ·cases i1
 ·intro p1 k hk;simp only[aH] at hk;split at hk
  ·rename_i e;subst e;simp only[cW] at hk;subst hk;have hpl':ct gb (fun _=>rv) w' (.b b 1)=v':=by simp[ct,hg,k1.cell.2.1]
   rw[hpl'];rcases k2.2 with ⟨hv',hn⟩|⟨g3,cap,cur,hv',_,q1,q2,q3,q4,q5⟩
   ·exact .inl hv'
   ·refine .inr (.inr ⟨by unfold bk;omega,g3,_,cap,cur,hv',by rw[show bk E - KB=E by unfold bk;omega];exact q1,q2,q3,by omega,fun o ho=>?_⟩);simp only[hv',Value.ownBlock,if_true];exact Ga ho
  ·cases hk
 ·intro p1 p2 k1 k2 b1 h1 h2 _ _;simp only[aH] at h1 h2;split at h1
  ·split at h2
   ·rename_i e1 e2;rw[<-e1,<-e2]
   ·cases h2
  ·cases h1
 ·intro p1 k b1 d' z1 hk hb1 hd' hgd;simp only[aH] at hk;split at hk
  ·rename_i e;subst e;have hpl':ct gb (fun _=>rv) w' (.b b 1)=v':=by simp[ct,hg,k1.cell.2.1]
   rw[hpl'] at hb1;simp only[aD] at hd';split at hd'
   ·rename_i e2;subst e2;rw[hg] at hgd;cases hgd;exact k4 hb1
   ·cases hd'
  ·cases hk
 ·intro d' off k hk;simp only[aH] at hk;split at hk
  ·rename_i e;cases e;exact ⟨by simp[aD],hit⟩
  ·cases hk
 ·intro i g1 z1 hi hgi;simp only[aD] at hi;split at hi
  ·rename_i e;subst e;rw[hg] at hgi;cases hgi;exact .inr (.inl ⟨b,_,by simp[aD],hg⟩)
  ·cases hi
 ·intro p1 k g1 hk hb1;simp only[aH] at hk;split at hk
  ·rename_i e;subst e;have hpl':ct gb (fun _=>rv) w' (.b b 1)=v':=by simp[ct,hg,k1.cell.2.1]
   rw[hpl'] at hb1;rcases k3 with e2|⟨⟨g2,e2,e3⟩,_⟩
   ·exact .inr (.inr ⟨.b b 1,bk E,by simp[aH],by rw[hpl,<-e2];exact hb1⟩)
   ·rw[e2] at hb1;cases hb1;exact .inl e3
  ·cases hk
theorem vJ (w:World) (g n:Nat):(∀k,k≠g->(w.freeze ⟨g,0,none⟩ n).heap[k]?=w.heap[k]?)/\(∀a,(w.freeze ⟨g,0,none⟩ n).cell? a=w.cell? a)/\(w.freeze ⟨g,0,none⟩ n).heap.size=w.heap.size/\(w.freeze ⟨g,0,none⟩ n).os=w.os/\(w.freeze ⟨g,0,none⟩ n).tape=w.tape/\(w.freeze ⟨g,0,none⟩ n).output=w.output:=by
 unfold World.freeze;split
 ·exact ⟨fun _ _=>rfl,fun _=>rfl,rfl,rfl,rfl,rfl⟩
 ·refine ⟨fun k hk=>?_,fun a=>?_,by simp,rfl,rfl,rfl⟩
  ·simp only[Array.getElem?_modify];rw[if_neg (fun e=>hk e.symm)]
  ·simp only[World.cell?,Array.getElem?_modify];by_cases e:g=a.block
   ·simp only[if_pos e];cases h:w.heap[a.block]? with
    |none=>rfl
    |some o=>cases o<;>rfl
   ·simp only[if_neg e]
theorem xT {GL:List (Nat×List Value)} {f:Nat} {fn:Func} (hf:P.funcs[f]?=some fn) (hname:(fn.name== "runtime.NumGoroutine")=false) (hbd:fn.body.isSome=true) {E d:Nat} {b:Id} (hit:b.isIt=false) (hnwb:b.isNw d=false)
  {c0:AV} {rest:List AV} (l:List UInt8) (h0:l≠[])
  (h: ∀(w:World) (b' g cap:Nat) (p:Value) (us:Array Value) (T':TypeId),fH w b' p (.slice (some ⟨g,0,none⟩) l.length cap) us T'->w.ownsRow 0 E 1 (.slice (some ⟨g,0,none⟩) l.length cap) l.length (Lib.byteCells l)->
   Calls P f #[.pointer (some ⟨b',0,none⟩)] w fun e w'=>e= .returned (.string ⟨l.toArray⟩)/\w'=w.drew.freeze ⟨g,0,none⟩ l.length):
  ba P GL f d ⟨[.ptr b 0],[(b,c0:: .sl (aj l)::rest)],[(.b b 1,bk E)]⟩ ⟨.str l,[(b,c0:: .sl (aj l)::rest)],[]⟩:=by
 unfold ba;intro S gb w vs hvs hhr hglo hnw;simp only[aa] at hvs;obtain ⟨v0,_,rfl,hv0,rfl⟩:=hvs;simp only[PR] at hv0;obtain ⟨g,z,hg,_,rfl⟩:=hv0;obtain ⟨g',us,T1,e1,e3,e0,e4,e5,e6⟩:=hhr.box b _ (by simp[aD];rfl) hit;rw[hg] at e1;cases e1;obtain ⟨p,v,us2,hus,hp0,hv,hrest⟩:=e4.two;have hu0:us[0]?=some p:=by
  have:(us.toList.take (c0:: .sl (aj l)::rest).length)[0]?=some p:=by rw[hus];rfl
  rw[qr,if_pos (by simp)] at this;simpa using this
 have hu1:us[1]?=some v:=by
  have:(us.toList.take (c0:: .sl (aj l)::rest).length)[1]?=some v:=by rw[hus];rfl
  rw[qr,if_pos (by simp)] at this;simpa using this
 have hB:fH w g p v us T1:=⟨e3,hu0,hu1⟩;have hpl:ct gb (fun t=>[Value.pointer (some ⟨g,0,none⟩)].getD t undef) w (.b b 1)=v:=by simp[ct,hg,hB.cell.2.1]
 have hown:=hhr.own (.b b 1) (bk E) (by simp[aH]);rw[hpl] at hown;obtain ⟨hrow,hun⟩:=uw hhr.agree hown hv;have hneb:v.ownBlock≠some g:=fun e=>hhr.ownb (.b b 1) (bk E) g b _ (by simp[aH]) (by rw[hpl];exact e) (by simp[aD]) hg
 obtain ⟨g2,cap,hv2⟩: ∃g2 cap,v= .slice (some ⟨g2,0,none⟩) l.length cap:=by
  rcases hrow.2 with ⟨_,hn⟩|⟨g2,cap,_,hv2,_⟩
  ·exact absurd (Jy hn) h0
  ·exact ⟨g2,cap,hv2⟩
 subst hv2;have hne2:g2≠g:=fun e=>hneb (by simp[Value.ownBlock,e])
 have h1:=h w g g2 cap p us T1 hB hrow;have hglt:g<w.heap.size:=(qC.1 e3).1;unfold lH;have hcall:(callFunc f [Value.pointer (some ⟨g,0,none⟩)].toArray).run P w= .ok (.enter f #[Value.pointer (some ⟨g,0,none⟩)]) w:=by
  obtain ⟨c,hc⟩:=jp.1 hbd;have hn: ¬fn.name= "runtime.NumGoroutine":=by simpa using hname
  simp[callFunc,hf,hc,hn]
 rw[hcall];refine h1.mono ?_;rintro e w' ⟨he,rfl⟩;obtain ⟨f1,f2,f3,f4,f5,f6⟩:=vJ w.drew g2 l.length;refine ⟨_,he,S,gb,⟨f4,f5,f6,by rw[f3];exact eR _,?_⟩,fun _ _ _ _=>rfl,aR.le.refl _,fun _ _=>rfl,fun i hi hne=>absurd (hnw i hi) hne,by simp[PR],⟨?_,?_,?_,?_,?_,?_,?_,?_⟩,?_,?_⟩
 ·intro k hk hm;exact f1 k (fun e=>hm (.inr ⟨.b b 1,bk E,by simp[aH],by rw[hpl,e];rfl⟩))
 ·intro g1 o u hu;rw[f2];exact hhr.agree _ _ _ hu
 ·intro d' cs1 hcs1 hi;simp only[aD] at hcs1;split at hcs1
  ·rename_i e;subst e;cases hcs1;exact ⟨g,us,T1,hg,by rw[f1 g (fun e=>hne2 e.symm)];exact e3,e0,e4,e5,e6⟩
  ·cases hcs1
 ·intro d' cs1 hcs1 hi;simp only[aD] at hcs1;split at hcs1
  ·rename_i e;subst e;rw[hit] at hi;cases hi
  ·cases hcs1
 ·intro d1 d2 g1 z1 z2 i1 i2 _ _;simp only[aD] at i1 i2;split at i1
  ·split at i2
   ·rename_i e1 e2;rw[<-e1,<-e2]
   ·cases i2
  ·cases i1
 ·intro p1 k hk;simp[aH] at hk
 ·intro p1 p2 k1 k2 b1 h1;simp[aH] at h1
 ·intro p1 k b1 d' z1 hk;simp[aH] at hk
 ·intro d' off k hk;simp[aH] at hk
 ·intro i g1 z1 hi hgi;simp only[aD] at hi;split at hi
  ·rename_i e;subst e;rw[hg] at hgi;cases hgi;exact .inr (.inl ⟨b,_,by simp[aD],hg⟩)
  ·cases hi
 ·intro p1 k g1 hk;simp[aH] at hk
theorem vK (a b:List UInt8):Lib.byteCells a++Lib.byteCells b=Lib.byteCells (a++b):=by simp[Lib.byteCells]
theorem Gn {GL:List (Nat×List Value)} (L:Lays.n169 P ρ) (X:Builder.Extra P ρ) (hname:((Body.n169 ρ).name== "runtime.NumGoroutine")=false) (hbd:(Body.n169 ρ).body.isSome=true) {d:Nat} {b:Id} (hit:b.isIt=false) (hnwb:b.isNw d=false)
  {c0:AV} {rest:List AV} (l:List UInt8) (h0:l≠[]):
  ba P GL (ρ.f 169) d ⟨[.ptr b 0],[(b,c0:: .sl (aj l)::rest)],[(.b b 1,bk (ρ.t 5))]⟩ ⟨.str l,[(b,c0:: .sl (aj l)::rest)],[]⟩:=
 xT L.f169 hname hbd hit hnwb l h0 fun w b' g cap p us T' hB hrow=>A0 L X l h0 (cur:= #[]) hB hrow
end Go.Ai
namespace Go.Ai
open Go.RowKit Go.Shelf Go.Proofs
variable {P:Program} {ρ:Ren}
theorem A3 {GL:List (Nat×List Value)} (L:Lays.n103 P ρ) (hname:((Body.n103 ρ).name== "runtime.NumGoroutine")=false) (hb:(Body.n103 ρ).body.isSome=true) (s p:List UInt8):
  Sp P GL (ρ.f 103) [.str s,.str p] (.tup [.str (Lib.trimPrefix s p),.bool (Lib.hasPrefix s p)]):=by
 refine mU L.f103 hname hb ?_;intro S gb w vs hvs hag;simp only[aa] at hvs;obtain ⟨v1,_,rfl,p1,v2,_,rfl,p2,rfl⟩:=hvs;simp only[PR] at p1 p2;subst p1;subst p2;refine (Any.strings_CutPrefix L ⟨s.toArray⟩ ⟨p.toArray⟩ w).mono ?_;rintro e w' ⟨rfl,rfl⟩;exact ⟨_,rfl,Below.refl _ _,by simp only[PR,aa];exact ⟨_,rfl,_,_,rfl,rfl,_,_,rfl,rfl,rfl⟩⟩
end Go.Ai
namespace Go.Ai
open Go.RowKit Go.Shelf Go.Proofs
variable {P:Program} {ρ:Ren}
theorem A4 {GL:List (Nat×List Value)} (L:Lays.n219 P ρ) (hname:((Body.n219 ρ).name== "runtime.NumGoroutine")=false) (hb:(Body.n219 ρ).body.isSome=true) (s:List UInt8) (c:UInt8):
  Sp P GL (ρ.f 219) [.str s,.str [c]] (.int .i64 (Lib.indexByte s c)):=by
 refine mU L.f219 hname hb ?_;intro S gb w vs hvs hag;simp only[aa] at hvs;obtain ⟨v1,_,rfl,p1,v2,_,rfl,p2,rfl⟩:=hvs;simp only[PR] at p1 p2;subst p1;subst p2;refine (Any.stringslite_Index_one L ⟨s.toArray⟩ c w).mono ?_;rintro e w' ⟨rfl,rfl⟩;exact ⟨_,rfl,Below.refl _ _,by simp[PR]⟩
open Builder in
set_option maxRecDepth 100000 in
theorem xU (L:Lays.n169 P ρ) (X:Builder.Extra P ρ) {b:Nat} {w:World} {p:Value} {us:Array Value} {T:TypeId} (h:fH w b p (.slice none 0 0) us T):
  Calls P (ρ.f 169) #[.pointer (some ⟨b,0,none⟩)] w fun e w'=>e= .returned (.string ⟨#[]⟩)/\w'=w.drew:=by
 have c1:w.drew.cell? ⟨b,1,none⟩=some (.slice none 0 0):=h.cell.2.1;have hSD:(Builtin.unsafeSliceData_ #[(ρ.t 37)] (ρ.t 127) #[.slice none 0 0]).run P w.drew= .ok (.pointer none) w.drew:=rfl;have hUS:(Builtin.unsafeString_ #[(ρ.t 127),(ρ.t 3)] (ρ.t 9) #[.pointer none,.int .i64 0]).run P w.drew= .ok (.string ⟨#[]⟩) w.drew:=rfl;have mixed:=L.mixed;have t72:=L.t72;have a72:=L.a72;have z72:=L.z72;have v72:=L.v72;have u72:=run_underlying L.t72;have t70:=L.t70;have a70:=L.a70;have z70:=L.z70;have v70:=L.v70;have u70:=run_underlying L.t70;have t37:=L.t37;have a37:=L.a37;have z37:=L.z37;have v37:=L.v37;have u37:=run_underlying L.t37;have t127:=L.t127;have a127:=L.a127;have z127:=L.z127;have v127:=L.v127;have u127:=run_underlying L.t127;have t3:=L.t3;have a3:=L.a3;have z3:=L.z3;have v3:=L.v3;have u3:=run_underlying L.t3;have t9:=L.t9;have a9:=L.a9;have z9:=L.z9;have v9:=L.v9;have u9:=run_underlying L.t9;have t5:=X.t5;have a5:=X.a5;have z5:=X.z5;have v5:=X.v5;have u5:=run_underlying X.t5
 go_enter L.f169,Body.n169_ntmps ρ
 go_wp2
 go_region_o
 all_goals (go_wp2;go_ret;exact ⟨rfl,rfl⟩)
theorem DX {GL:List (Nat×List Value)} (L:Lays.n169 P ρ) (X:Builder.Extra P ρ) (hname:((Body.n169 ρ).name== "runtime.NumGoroutine")=false) (hbd:(Body.n169 ρ).body.isSome=true) {d:Nat} {b:Id} (hit:b.isIt=false) (hnwb:b.isNw d=false)
  {c0:AV} {rest:List AV}:ba P GL (ρ.f 169) d ⟨[.ptr b 0],[(b,c0:: .nils::rest)],[]⟩ ⟨.str [],[(b,c0:: .nils::rest)],[]⟩:=by
 unfold ba;intro S gb w vs hvs hhr hglo hnw;simp only[aa] at hvs;obtain ⟨v0,_,rfl,hv0,rfl⟩:=hvs;simp only[PR] at hv0;obtain ⟨g,z,hg,_,rfl⟩:=hv0;obtain ⟨g',us,T1,e1,e3,e0,e4,e5,e6⟩:=hhr.box b _ (by simp[aD];rfl) hit;rw[hg] at e1;cases e1;obtain ⟨p,v,us2,hus,hp0,hv,hrest⟩:=e4.two;have hu0:us[0]?=some p:=by
  have:(us.toList.take (c0:: .nils::rest).length)[0]?=some p:=by rw[hus];rfl
  rw[qr,if_pos (by simp)] at this;simpa using this
 have hu1:us[1]?=some v:=by
  have:(us.toList.take (c0:: .nils::rest).length)[1]?=some v:=by rw[hus];rfl
  rw[qr,if_pos (by simp)] at this;simpa using this
 simp only[PR] at hv;subst hv;have hB:fH w g p (.slice none 0 0) us T1:=⟨e3,hu0,hu1⟩;have h1:=xU L X hB;unfold lH;have hcall:(callFunc (ρ.f 169) [Value.pointer (some ⟨g,0,none⟩)].toArray).run P w= .ok (.enter (ρ.f 169) #[Value.pointer (some ⟨g,0,none⟩)]) w:=by
  obtain ⟨c,hc⟩:=jp.1 hbd;have hn: ¬(Body.n169 ρ).name= "runtime.NumGoroutine":=by simpa using hname
  simp[callFunc,L.f169,hc,hn]
 rw[hcall];refine h1.mono ?_;rintro e w' ⟨he,rfl⟩;refine ⟨_,he,S,gb,⟨rfl,rfl,rfl,eR _,fun _ _ _=>rfl⟩,fun _ _ _ _=>rfl,aR.le.refl _,fun _ _=>rfl,fun i hi hne=>absurd (hnw i hi) hne,by simp[PR],⟨?_,?_,?_,?_,?_,?_,?_,?_⟩,?_,?_⟩
 ·intro g1 o u hu;exact hhr.agree _ _ _ hu
 ·intro d' cs1 hcs1 hi;simp only[aD] at hcs1;split at hcs1
  ·rename_i e;subst e;cases hcs1;exact ⟨g,us,T1,hg,e3,e0,e4,e5,e6⟩
  ·cases hcs1
 ·intro d' cs1 hcs1 hi;simp only[aD] at hcs1;split at hcs1
  ·rename_i e;subst e;rw[hit] at hi;cases hi
  ·cases hcs1
 ·intro d1 d2 g1 z1 z2 i1 i2 _ _;simp only[aD] at i1 i2;split at i1
  ·split at i2
   ·rename_i e1 e2;rw[<-e1,<-e2]
   ·cases i2
  ·cases i1
 ·intro p1 k hk;simp[aH] at hk
 ·intro p1 p2 k1 k2 b1 h1;simp[aH] at h1
 ·intro p1 k b1 d' z1 hk;simp[aH] at hk
 ·intro d' off k hk;simp[aH] at hk
 ·intro i g1 z1 hi hgi;simp only[aD] at hi;split at hi
  ·rename_i e;subst e;rw[hg] at hgi;cases hgi;exact .inr (.inl ⟨b,_,by simp[aD],hg⟩)
  ·cases hi
 ·intro p1 k g1 hk;simp[aH] at hk
end Go.Ai
namespace Go.Ai
open Go.RowKit Go.Shelf Go.Proofs
variable {P:Program} {ρ:Ren}
theorem vL (w:World) (t ty e:TypeId) (i:TypeInfo) (ht:P.underlying t=some (.slice e)) (hi:P.info? e=some i) (hz:i.zero=some (.int .u8 0)) (hsize:i.size=1) (hby:i.bytes=1)
  (v:Value) (n:Nat) (xs:List Value) (hown:w.ownsRow 0 e 1 v n xs) (ad:Addr) (m c:Nat) (us:List Value) (hm:us.length=m) (hm0:0<m) (hm4:m<=4) (hn: ∀j x,us[j]?=some x->w.cell? (ad.add j)=some x) (h1: ∀x∈us,x.oneCell'=true) (hb:n+m<=140737488355328):
  ∃v' w',(Builtin.append_ #[t,t] ty #[v,.slice (some ad) m c]).run P w= .ok v' w'/\w'.ownsRow 0 e 1 v' (n+m) (xs++us)/\w.grownBy w' v.ownBlock/\(v'.ownBlock=v.ownBlock\/(v'.ownBlock=some w.heap.size/\w.grownBy w' none)):=by
 have hl:us.length=m*i.size:=by rw[hsize,hm,Nat.mul_one]
 obtain ⟨v',w',hr,h2,h3,h4⟩:=run_append_own (P:=P) w 0 t ty e i (.int .u8 0) 1 1 ht hi hz hsize hby rfl (by decide) v n xs hown ad m c us (by rw[hm,Nat.mul_one]) hn h1 (by first|omega|(unfold maxLen;omega)) (by omega) (jq _);refine ⟨v',w',hr,h2,h3,?_⟩;rcases hown.2 with ⟨rfl,rfl⟩|⟨g,cap,cur,rfl,hbg,hg,hnc,hcm,hcs,htake⟩
 ·have hr2:=run_append_nil (P:=P) w t ty e i (.int .u8 0) ht hi hz ad m c us hl hn hm0 (by first|omega|(unfold maxLen;omega)) (by rw[hby];omega);rw[hr2] at hr;cases hr;exact .inr ⟨rfl,⟨rfl,rfl,rfl,by simp,fun k hk _=>Lib.alloc_old w.drew _ k hk⟩⟩
 ·by_cases hroom:n+m<=cap
  ·have hcs':cur.size=cap:=by simpa using hcs
   have hr2:=run_append_room (P:=P) w t ty e i ht hi g n cap cur hg ad m c us hl hn h1 hroom (by rw[hsize];simp;omega);rw[hr2] at hr;cases hr;exact .inl rfl
  ·have hxl:xs.length=n:=by simpa using hown.1
   have holds: ∀j u,xs[j]?=some u->w.cell? ((⟨g,0,none⟩:Addr).add j)=some u:=hown.cells (g:=g) rfl;have hr2:=run_append_grow (P:=P) w t ty e i (.int .u8 0) ht hi hz ⟨g,0,none⟩ n cap xs (by rw[hsize];simpa using hxl) holds ad m c us hl hn (by omega) (by first|omega|(unfold maxLen;omega)) (by rw[hby];exact growslice_fits (by omega) (by omega));rw[hr2] at hr;cases hr;exact .inr ⟨rfl,⟨rfl,rfl,rfl,by simp,fun k hk _=>Lib.alloc_old w.drew _ k hk⟩⟩
theorem dS {w:World} {rest:List Oper} {o:Oper} {a:Act} {ops:Array Oper} {Q:Exit->Act->World->Prop} (hgd:o.guard=none) (sl x:Operand) (t:TypeId)
  (ho:o.op= .call {callee:= .builtin .append,args:= #[sl,x],argTypes:= #[t,t]})
  (e:TypeId) (i:TypeInfo) (ht:P.underlying t=some (.slice e)) (hi:P.info? e=some i) (hz:i.zero=some (.int .u8 0)) (hsize:i.size=1) (hby:i.bytes=1)
  (v:Value) (n:Nat) (xs:List Value) (hs:a.eval sl=v) (hown:w.ownsRow 0 e 1 v n xs) (ad:Addr) (m c:Nat) (us:List Value) (hx:a.eval x= .slice (some ad) m c) (hm:us.length=m) (hm0:0<m) (hm4:m<=4) (hn: ∀j x,us[j]?=some x->w.cell? (ad.add j)=some x) (h1: ∀x∈us,x.oneCell'=true) (hb:n+m<=140737488355328)
  (h: ∀v' w',w'.ownsRow 0 e 1 v' (n+m) (xs++us)->w.grownBy w' v.ownBlock->(v'.ownBlock=v.ownBlock\/(v'.ownBlock=some w.heap.size/\w.grownBy w' none))->wpList P ops Q rest (a.put o.dst v') w'):wpList P ops Q (o::rest) a w:=by
 refine wpList_plain hgd fun K hK=>?_
 obtain ⟨v',w',hr,h2,h3,h4⟩:=vL (P:=P) w t o.type e i ht hi hz hsize hby v n xs hown ad m c us hm hm0 hm4 hn h1 hb;unfold Oper.wp execOp;simp only[ho,resolve,invoke,builtin,Sem.run_bind,Sem.run_pure,Result.andThen_ok,List.map_toArray,fZ,l6,hs,hx,hr];exact hK _ _ (h v' w' h2 h3 h4)
def i7 (w:World) (v:Value) (E:TypeId) (n:Nat) (bs:List Value) (o:Obj) (v':Value) (w':World):Prop:=
 w'.ownsRow 0 E 1 v' n bs/\(w.alloc o).grownBy w' v.ownBlock/\(v'.ownBlock=v.ownBlock\/((∃g,v'.ownBlock=some g/\w.heap.size<=g)/\(w.alloc o).grownBy w' none))
def Gp (r:Int):Prop:=(128<=r/\r<55296)\/(57343<r/\r<=1114111)
set_option maxRecDepth 100000 in
theorem DY (L:Lays.n278 P ρ) (hbyte:(P.info? (ρ.t 5)).map (fun i=>(i.zero,i.size,i.bytes))=some (some (.int .u8 0),1,1)) (v:Value) (n:Nat) (xs:List Value) (r:Int) (h0:128<=r) (h1:r<=2047) (w:World) (hown:w.ownsRow 0 (ρ.t 5) 1 v n xs) (hlen:n+4<=140737488355328):
  Calls P (ρ.f 278) #[v,.int .i32 r] w fun e w'=> ∃v' o,e= .returned v'/\i7 w v (ρ.t 5) (n+2) (xs++[.int .u8 (192+r / 64),.int .u8 (128+r%64)]) o v' w':=by
 obtain ⟨i0,hi,hz0,hz1,hz2⟩:=info_parts hbyte;have mixed:=L.mixed;have t4:=L.t4;have a4:=L.a4;have z4:=L.z4;have v4:=L.v4;have u4:=run_underlying L.t4;have t5:=L.t5;have a5:=L.a5;have z5:=L.z5;have v5:=L.v5;have u5:=run_underlying L.t5;have t21:=L.t21;have a21:=L.a21;have z21:=L.z21;have v21:=L.v21;have u21:=run_underlying L.t21;have t37:=L.t37;have a37:=L.a37;have z37:=L.z37;have v37:=L.v37;have u37:=run_underlying L.t37;have t46:=L.t46;have a46:=L.a46;have z46:=L.z46;have v46:=L.v46;have u46:=run_underlying L.t46;have t51:=L.t51;have a51:=L.a51;have z51:=L.z51;have v51:=L.v51;have u51:=run_underlying L.t51
 go_enter L.f278,Body.n278_ntmps ρ
 go_wp2_with (at_builtin;refine dS rfl _ _ (ρ.t 37) rfl (ρ.t 5) i0 L.t37 hi hz0 hz1 hz2 _ _ _ rfl (hown.alloc _) ⟨w.heap.size,0,none⟩ 2 2 [.int .u8 (192+r / 64),.int .u8 (128+r%64)] rfl rfl (by decide) (by decide) ?q1 ?q2 ?q3 ?_)
 case q1=>
  intro j u hj
  match j,hj with
  |0,hj=>simp at hj;subst hj;simp[Addr.add]
  |1,hj=>simp at hj;subst hj;simp[Addr.add]
  |(j+2),hj=>simp at hj
 case q2=>intro u hu;simp at hu;rcases hu with rfl|rfl<;>rfl
 case q3=>omega
 intro v' w2 hown' hgrow hdi
 go_wp2
 go_ret
 exact ⟨_,_,rfl,hown',hgrow,hdi.imp id (fun e=>⟨⟨_,e.1,by simp⟩,e.2⟩)⟩
set_option maxRecDepth 100000 in
theorem DZ (L:Lays.n278 P ρ) (hbyte:(P.info? (ρ.t 5)).map (fun i=>(i.zero,i.size,i.bytes))=some (some (.int .u8 0),1,1)) (v:Value) (n:Nat) (xs:List Value) (r:Int) (h0:2048<=r) (h1:r<55296) (w:World) (hown:w.ownsRow 0 (ρ.t 5) 1 v n xs) (hlen:n+4<=140737488355328):
  Calls P (ρ.f 278) #[v,.int .i32 r] w fun e w'=> ∃v' o,e= .returned v'/\i7 w v (ρ.t 5) (n+3) (xs++[.int .u8 (224+r / 4096),.int .u8 (128+r / 64%64),.int .u8 (128+r%64)]) o v' w':=by
 obtain ⟨i0,hi,hz0,hz1,hz2⟩:=info_parts hbyte;have mixed:=L.mixed;have t4:=L.t4;have a4:=L.a4;have z4:=L.z4;have v4:=L.v4;have u4:=run_underlying L.t4;have t5:=L.t5;have a5:=L.a5;have z5:=L.z5;have v5:=L.v5;have u5:=run_underlying L.t5;have t21:=L.t21;have a21:=L.a21;have z21:=L.z21;have v21:=L.v21;have u21:=run_underlying L.t21;have t37:=L.t37;have a37:=L.a37;have z37:=L.z37;have v37:=L.v37;have u37:=run_underlying L.t37;have t46:=L.t46;have a46:=L.a46;have z46:=L.z46;have v46:=L.v46;have u46:=run_underlying L.t46;have t51:=L.t51;have a51:=L.a51;have z51:=L.z51;have v51:=L.v51;have u51:=run_underlying L.t51
 go_enter L.f278,Body.n278_ntmps ρ
 go_wp2_with (at_builtin;refine dS rfl _ _ (ρ.t 37) rfl (ρ.t 5) i0 L.t37 hi hz0 hz1 hz2 _ _ _ rfl (hown.alloc _) ⟨w.heap.size,0,none⟩ 3 3 [.int .u8 (224+r / 4096),.int .u8 (128+r / 64%64),.int .u8 (128+r%64)] rfl rfl (by decide) (by decide) ?q1 ?q2 ?q3 ?_)
 case q1=>
  intro j u hj
  match j,hj with
  |0,hj=>simp at hj;subst hj;simp[Addr.add]
  |1,hj=>simp at hj;subst hj;simp[Addr.add]
  |2,hj=>simp at hj;subst hj;simp[Addr.add]
  |(j+3),hj=>simp at hj
 case q2=>intro u hu;simp at hu;rcases hu with rfl|rfl|rfl<;>rfl
 case q3=>omega
 intro v' w2 hown' hgrow hdi
 go_wp2
 go_ret
 exact ⟨_,_,rfl,hown',hgrow,hdi.imp id (fun e=>⟨⟨_,e.1,by simp⟩,e.2⟩)⟩
set_option maxRecDepth 100000 in
theorem A5 (L:Lays.n278 P ρ) (hbyte:(P.info? (ρ.t 5)).map (fun i=>(i.zero,i.size,i.bytes))=some (some (.int .u8 0),1,1)) (v:Value) (n:Nat) (xs:List Value) (r:Int) (h0:57343<r) (h1:r<=65535) (w:World) (hown:w.ownsRow 0 (ρ.t 5) 1 v n xs) (hlen:n+4<=140737488355328):
  Calls P (ρ.f 278) #[v,.int .i32 r] w fun e w'=> ∃v' o,e= .returned v'/\i7 w v (ρ.t 5) (n+3) (xs++[.int .u8 (224+r / 4096),.int .u8 (128+r / 64%64),.int .u8 (128+r%64)]) o v' w':=by
 obtain ⟨i0,hi,hz0,hz1,hz2⟩:=info_parts hbyte;have mixed:=L.mixed;have t4:=L.t4;have a4:=L.a4;have z4:=L.z4;have v4:=L.v4;have u4:=run_underlying L.t4;have t5:=L.t5;have a5:=L.a5;have z5:=L.z5;have v5:=L.v5;have u5:=run_underlying L.t5;have t21:=L.t21;have a21:=L.a21;have z21:=L.z21;have v21:=L.v21;have u21:=run_underlying L.t21;have t37:=L.t37;have a37:=L.a37;have z37:=L.z37;have v37:=L.v37;have u37:=run_underlying L.t37;have t46:=L.t46;have a46:=L.a46;have z46:=L.z46;have v46:=L.v46;have u46:=run_underlying L.t46;have t51:=L.t51;have a51:=L.a51;have z51:=L.z51;have v51:=L.v51;have u51:=run_underlying L.t51
 go_enter L.f278,Body.n278_ntmps ρ
 go_wp2_with (at_builtin;refine dS rfl _ _ (ρ.t 37) rfl (ρ.t 5) i0 L.t37 hi hz0 hz1 hz2 _ _ _ rfl (hown.alloc _) ⟨w.heap.size,0,none⟩ 3 3 [.int .u8 (224+r / 4096),.int .u8 (128+r / 64%64),.int .u8 (128+r%64)] rfl rfl (by decide) (by decide) ?q1 ?q2 ?q3 ?_)
 case q1=>
  intro j u hj
  match j,hj with
  |0,hj=>simp at hj;subst hj;simp[Addr.add]
  |1,hj=>simp at hj;subst hj;simp[Addr.add]
  |2,hj=>simp at hj;subst hj;simp[Addr.add]
  |(j+3),hj=>simp at hj
 case q2=>intro u hu;simp at hu;rcases hu with rfl|rfl|rfl<;>rfl
 case q3=>omega
 intro v' w2 hown' hgrow hdi
 go_wp2
 go_ret
 exact ⟨_,_,rfl,hown',hgrow,hdi.imp id (fun e=>⟨⟨_,e.1,by simp⟩,e.2⟩)⟩
set_option maxRecDepth 100000 in
theorem D0 (L:Lays.n278 P ρ) (hbyte:(P.info? (ρ.t 5)).map (fun i=>(i.zero,i.size,i.bytes))=some (some (.int .u8 0),1,1)) (v:Value) (n:Nat) (xs:List Value) (r:Int) (h0:65536<=r) (h1:r<=1114111) (w:World) (hown:w.ownsRow 0 (ρ.t 5) 1 v n xs) (hlen:n+4<=140737488355328):
  Calls P (ρ.f 278) #[v,.int .i32 r] w fun e w'=> ∃v' o,e= .returned v'/\i7 w v (ρ.t 5) (n+4) (xs++[.int .u8 (240+r / 262144),.int .u8 (128+r / 4096%64),.int .u8 (128+r / 64%64),.int .u8 (128+r%64)]) o v' w':=by
 obtain ⟨i0,hi,hz0,hz1,hz2⟩:=info_parts hbyte;have mixed:=L.mixed;have t4:=L.t4;have a4:=L.a4;have z4:=L.z4;have v4:=L.v4;have u4:=run_underlying L.t4;have t5:=L.t5;have a5:=L.a5;have z5:=L.z5;have v5:=L.v5;have u5:=run_underlying L.t5;have t21:=L.t21;have a21:=L.a21;have z21:=L.z21;have v21:=L.v21;have u21:=run_underlying L.t21;have t37:=L.t37;have a37:=L.a37;have z37:=L.z37;have v37:=L.v37;have u37:=run_underlying L.t37;have t46:=L.t46;have a46:=L.a46;have z46:=L.z46;have v46:=L.v46;have u46:=run_underlying L.t46;have t51:=L.t51;have a51:=L.a51;have z51:=L.z51;have v51:=L.v51;have u51:=run_underlying L.t51
 go_enter L.f278,Body.n278_ntmps ρ
 go_wp2_with (at_builtin;refine dS rfl _ _ (ρ.t 37) rfl (ρ.t 5) i0 L.t37 hi hz0 hz1 hz2 _ _ _ rfl (hown.alloc _) ⟨w.heap.size,0,none⟩ 4 4 [.int .u8 (240+r / 262144),.int .u8 (128+r / 4096%64),.int .u8 (128+r / 64%64),.int .u8 (128+r%64)] rfl rfl (by decide) (by decide) ?q1 ?q2 ?q3 ?_)
 case q1=>
  intro j u hj
  match j,hj with
  |0,hj=>simp at hj;subst hj;simp[Addr.add]
  |1,hj=>simp at hj;subst hj;simp[Addr.add]
  |2,hj=>simp at hj;subst hj;simp[Addr.add]
  |3,hj=>simp at hj;subst hj;simp[Addr.add]
  |(j+4),hj=>simp at hj
 case q2=>intro u hu;simp at hu;rcases hu with rfl|rfl|rfl|rfl<;>rfl
 case q3=>omega
 intro v' w2 hown' hgrow hdi
 go_wp2
 go_ret
 exact ⟨_,_,rfl,hown',hgrow,hdi.imp id (fun e=>⟨⟨_,e.1,by simp⟩,e.2⟩)⟩
theorem Gq (L:Lays.n278 P ρ) (hbyte:(P.info? (ρ.t 5)).map (fun i=>(i.zero,i.size,i.bytes))=some (some (.int .u8 0),1,1)) (v:Value) (n:Nat) (xs:List Value) (r:Int) (hr:Gp r) (w:World) (hown:w.ownsRow 0 (ρ.t 5) 1 v n xs) (hlen:n+4<=140737488355328):
  Calls P (ρ.f 278) #[v,.int .i32 r] w fun e w'=> ∃v' o,e= .returned v'/\i7 w v (ρ.t 5) (n+(Lib.runeCells r).length) (xs++Lib.runeCells r) o v' w':=by
 by_cases c2:r<=2047
 ·have h0:128<=r:=by rcases hr with h|h<;>omega
  have ec:Lib.runeCells r=[.int .u8 (192+r / 64),.int .u8 (128+r%64)]:=by unfold Lib.runeCells;rw[Lib.encodeRuneZ_two h0 c2];rfl
  rw[ec];exact DY L hbyte v n xs r h0 c2 w hown hlen
 ·by_cases c3:r<=65535
  ·have ec:Lib.runeCells r=[.int .u8 (224+r / 4096),.int .u8 (128+r / 64%64),.int .u8 (128+r%64)]:=by unfold Lib.runeCells;rw[Lib.encodeRuneZ_three (by rcases hr with h|h<;>omega)];rfl
   rw[ec];by_cases c4:r<55296
   ·exact DZ L hbyte v n xs r (by omega) c4 w hown hlen
   ·exact A5 L hbyte v n xs r (by rcases hr with h|h<;>omega) c3 w hown hlen
  ·have h1:r<=1114111:=by rcases hr with h|h<;>omega
   have ec:Lib.runeCells r=[.int .u8 (240+r / 262144),.int .u8 (128+r / 4096%64),.int .u8 (128+r / 64%64),.int .u8 (128+r%64)]:=by unfold Lib.runeCells;rw[Lib.encodeRuneZ_four (by omega) h1];rfl
   rw[ec];exact D0 L hbyte v n xs r (by omega) h1 w hown hlen
def eS (r:Int):Prop:=(0<=r/\r<55296)\/(57343<r/\r<=1114111)
set_option maxRecDepth 100000 in
theorem JH (L:Lays.n242 P ρ) (hbyte:(P.info? (ρ.t 5)).map (fun i=>(i.zero,i.size,i.bytes))=some (some (.int .u8 0),1,1)) (v:Value) (n:Nat) (xs:List Value) (r:Int) (h0:0<=r) (h1:r<=127) (w:World) (hown:w.ownsRow 0 (ρ.t 5) 1 v n xs) (hlen:n+4<=140737488355328):
  Calls P (ρ.f 242) #[v,.int .i32 r] w fun e w'=> ∃v' o,e= .returned v'/\i7 w v (ρ.t 5) (n+1) (xs++[.int .u8 r]) o v' w':=by
 obtain ⟨i0,hi,hz0,hz1,hz2⟩:=info_parts hbyte;have mixed:=L.mixed;have t4:=L.t4;have a4:=L.a4;have z4:=L.z4;have v4:=L.v4;have u4:=run_underlying L.t4;have t5:=L.t5;have a5:=L.a5;have z5:=L.z5;have v5:=L.v5;have u5:=run_underlying L.t5;have t21:=L.t21;have a21:=L.a21;have z21:=L.z21;have v21:=L.v21;have u21:=run_underlying L.t21;have t37:=L.t37;have a37:=L.a37;have z37:=L.z37;have v37:=L.v37;have u37:=run_underlying L.t37;have t46:=L.t46;have a46:=L.a46;have z46:=L.z46;have v46:=L.v46;have u46:=run_underlying L.t46;have t51:=L.t51;have a51:=L.a51;have z51:=L.z51;have v51:=L.v51;have u51:=run_underlying L.t51
 go_enter L.f242,Body.n242_ntmps ρ
 go_wp2_with (at_builtin;refine dS rfl _ _ (ρ.t 37) rfl (ρ.t 5) i0 L.t37 hi hz0 hz1 hz2 _ _ _ rfl (hown.alloc _) ⟨w.heap.size,0,none⟩ 1 1 [.int .u8 r] rfl rfl (by decide) (by decide) ?q1 ?q2 ?q3 ?_)
 all_goals first
  |(intro v' w2 hown' hgrow hdi;go_wp2;go_ret;exact ⟨_,_,rfl,hown',hgrow,hdi.imp id (fun e=>⟨⟨_,e.1,by simp⟩,e.2⟩)⟩)
  |omega
  |(intro u hu;simp at hu;subst hu;rfl)
  |(intro j u hj;cases j with |zero=>(simp at hj;subst hj;simp[Addr.add])|succ j=>simp at hj)
set_option maxRecDepth 100000 in
theorem JI (L:Lays.n242 P ρ) (hbyte:(P.info? (ρ.t 5)).map (fun i=>(i.zero,i.size,i.bytes))=some (some (.int .u8 0),1,1)) (v:Value) (n:Nat) (xs:List Value) (r:Int) (hr:eS r) (w:World) (hown:w.ownsRow 0 (ρ.t 5) 1 v n xs) (hlen:n+4<=140737488355328):
  Calls P (ρ.f 242) #[v,.int .i32 r] w fun e w'=> ∃v' o,e= .returned v'/\i7 w v (ρ.t 5) (n+(Lib.runeCells r).length) (xs++Lib.runeCells r) o v' w':=by
 by_cases c:r<=127
 ·have h0:0<=r:=by rcases hr with h|h<;>omega
  rw[show Lib.runeCells r=[.int .u8 r] by simp[Lib.runeCells,Lib.encodeRuneZ_one h0 c]];exact JH L hbyte v n xs r h0 c w hown hlen
 ·have hu:Gp r:=by unfold Gp;rcases hr with h|h<;>omega
  have hna:128<=r:=by omega
  have hr1:r<=2147483647:=by rcases hr with h|h<;>omega
  have hr0: -2147483648<=r:=by omega
  clear c hr;have mixed:=L.mixed;have t4:=L.t4;have a4:=L.a4;have z4:=L.z4;have v4:=L.v4;have u4:=run_underlying L.t4;have t5:=L.t5;have a5:=L.a5;have z5:=L.z5;have v5:=L.v5;have u5:=run_underlying L.t5;have t21:=L.t21;have a21:=L.a21;have z21:=L.z21;have v21:=L.v21;have u21:=run_underlying L.t21;have t37:=L.t37;have a37:=L.a37;have z37:=L.z37;have v37:=L.v37;have u37:=run_underlying L.t37;have t46:=L.t46;have a46:=L.a46;have z46:=L.z46;have v46:=L.v46;have u46:=run_underlying L.t46;have t51:=L.t51;have a51:=L.a51;have z51:=L.z51;have v51:=L.v51;have u51:=run_underlying L.t51;have e278: ∀args w,(callFunc (ρ.f 278) args).run P w= .ok (.enter (ρ.f 278) args) w:=enters_of L.f278 (by kernel_rfl) rfl
  go_enter L.f242,Body.n242_ntmps ρ
  go_wp2_with (go_at_fn (ρ.f 278);refine (Gq {L with} hbyte v n xs r hu _ hown hlen).mono ?_)
  rintro e w1 ⟨v',o,rfl,h1⟩
  go_wp2
  go_ret
  exact ⟨_,_,rfl,h1⟩
set_option maxRecDepth 100000 in
theorem Gr (L:Lays.n168 P ρ) (X:Builder.Extra P ρ) {b:Nat} {w:World} {p v:Value} {us:Array Value} {T:TypeId} (h:fH w b p v us T) (hp:JG P (ρ.t 72) T us.size b p)
  (bs:List Value) (r:Int) (hr:eS r) (hown:w.ownsRow 0 (ρ.t 5) 1 v bs.length bs) (hne:v.ownBlock≠some b) (hlen:bs.length+4<=140737488355328):
  Calls P (ρ.f 168) #[.pointer (some ⟨b,0,none⟩),.int .i32 r] w fun e w'=>e= .returned (.tuple #[.int .i64 (Lib.runeCells r).length,.nilIface])/\vH w b v us T (ρ.t 5) (bs++Lib.runeCells r) w':=by
 have mixed:=L.mixed;have t0:=L.t0;have a0:=L.a0;have z0:=L.z0;have v0:=L.v0;have u0:=run_underlying L.t0;have t3:=L.t3;have a3:=L.a3;have z3:=L.z3;have v3:=L.v3;have u3:=run_underlying L.t3;have t4:=L.t4;have a4:=L.a4;have z4:=L.z4;have v4:=L.v4;have u4:=run_underlying L.t4;have t5:=L.t5;have a5:=L.a5;have z5:=L.z5;have v5:=L.v5;have u5:=run_underlying L.t5;have t9:=L.t9;have a9:=L.a9;have z9:=L.z9;have v9:=L.v9;have u9:=run_underlying L.t9;have t20:=L.t20;have a20:=L.a20;have z20:=L.z20;have v20:=L.v20;have u20:=run_underlying L.t20;have t21:=L.t21;have a21:=L.a21;have z21:=L.z21;have v21:=L.v21;have u21:=run_underlying L.t21;have t37:=L.t37;have a37:=L.a37;have z37:=L.z37;have v37:=L.v37;have u37:=run_underlying L.t37;have t46:=L.t46;have a46:=L.a46;have z46:=L.z46;have v46:=L.v46;have u46:=run_underlying L.t46;have t51:=L.t51;have a51:=L.a51;have z51:=L.z51;have v51:=L.v51;have u51:=run_underlying L.t51;have t70:=L.t70;have a70:=L.a70;have z70:=L.z70;have v70:=L.v70;have u70:=run_underlying L.t70;have t72:=L.t72;have a72:=L.a72;have z72:=L.z72;have v72:=L.v72;have u72:=run_underlying L.t72;have t75:=L.t75;have a75:=L.a75;have z75:=L.z75;have v75:=L.v75;have u75:=run_underlying L.t75;have t164:=L.t164;have a164:=L.a164;have z164:=L.z164;have v164:=L.v164;have u164:=run_underlying L.t164;have e240: ∀args w,(callFunc (ρ.f 240) args).run P w= .ok (.enter (ρ.f 240) args) w:=enters_of L.f240 (by kernel_rfl) rfl;have e242: ∀args w,(callFunc (ρ.f 242) args).run P w= .ok (.enter (ρ.f 242) args) w:=enters_of L.f242 (by kernel_rfl) rfl;obtain ⟨ao,cap,rfl⟩: ∃ao cap,v= .slice ao bs.length cap:=by
  rcases hown.2 with ⟨hv,h0⟩|⟨g,cap,cur,hv,_⟩
  ·exact ⟨none,0,by rw[hv,h0]⟩
  ·exact ⟨_,_,hv⟩
 have hk4:=Lib.runeCells_le r
 go_enter L.f168,Body.n168_ntmps ρ
 go_wp2_with (go_at_fn (ρ.f 240);refine (DW {L with} X.toX72 h hp).mono ?_)
 rintro e w1 ⟨rfl,h1,hb1,hsz⟩;have hs1:w.heap.size<=w1.heap.size:=(hb1 none).size;have hown1:w1.ownsRow 0 (ρ.t 5) 1 (.slice ao bs.length cap) bs.length bs:=nK hown (fun g hg=>(hb1 none).block g (hown.lt g hg).2 (fun e=>hne (by rw[hg,e])) (by simp));obtain ⟨c0,c1,f0,f1,sh⟩:=h1.cell
 go_wp2_with (go_at_fn (ρ.f 242);refine (JI {L with} X.infoByte _ bs.length bs r hr _ hown1 hlen).mono ?_)
 rintro e w2 ⟨v',o,rfl,hown',hgrow,hdi⟩;have hlt:b<w1.heap.size:=(qC.1 h1.heap).1;have hb2:fH w2 b (.pointer (some ⟨b,0,none⟩)) (.slice ao bs.length cap) (us.setIfInBounds 0 (.pointer (some ⟨b,0,none⟩))) T:=⟨by rw[hgrow.block b (by simp;omega) (fun e=>hne e.symm),Lib.alloc_old w1 _ b hlt];exact h1.heap,h1.c0,h1.c1⟩;obtain ⟨d0,d1,g0,g1,sh2⟩:=hb2.cell;have hneb:v'.ownBlock≠some b:=by
  rcases hdi with e|⟨⟨g,e,e3⟩,_⟩
  ·rw[e];exact hne
  ·rw[e];intro e2;simp at e2;omega
 obtain ⟨ao',n',cap',hv',hn'⟩: ∃ao n' cap,v'= .slice ao n' cap/\n'=bs.length+(Lib.runeCells r).length:=by
  rcases hown'.2 with ⟨hv,h0⟩|⟨g,cap,cur,hv,_⟩
  ·exact ⟨_,_,_,hv,h0.symm⟩
  ·exact ⟨_,_,_,hv,rfl⟩
 subst hv';subst hn';have hfin:vH w b (.slice ao bs.length cap) us T (ρ.t 5) (bs++Lib.runeCells r) (w2.setCell ⟨b,1,none⟩ (.slice ao' (bs.length+(Lib.runeCells r).length) cap')):=by
  refine ⟨_,hb2.set1 _,?_,?_,hneb,?_⟩
  ·refine nK (w:=w2) (by simpa using hown') (fun g hg=>?_)
   have:g<w2.heap.size:=(hown'.lt g hg).2
   exact (jr w2 b 1 _ none).block g this (fun e=>hneb (by rw[hg,e])) (by simp)
  ·rcases hdi with e|⟨⟨g,e,e3⟩,e2⟩
   ·exact .inl e
   ·exact .inr ⟨⟨g,e,by omega⟩,((hb1 _).trans (xP.trans (b:=w1.alloc _) ⟨by simp,rfl,rfl,rfl,fun k hk _ _=>Lib.alloc_old w1 _ k hk⟩ (xP.grown e2))).trans (jr _ _ _ _ _)⟩
  ·refine ((hb1 _).trans (xP.trans (b:=w1.alloc _) ⟨by simp,rfl,rfl,rfl,fun k hk _ _=>Lib.alloc_old w1 _ k hk⟩ (xP.grown hgrow))).trans (jr _ _ _ _ _)
 have HF:=Q8 hfin;clear hfin hown' hgrow hdi hneb
 go_wp2
 go_ret2
 refine ⟨?_,HF.out⟩;have e:((bs.length:Int)+((Lib.runeCells r).length:Int) - (bs.length:Int))=((Lib.runeCells r).length:Int):=by omega
 simp[e]
theorem Gs {GL:List (Nat×List Value)} (L:Lays.n168 P ρ) (X:Builder.Extra P ρ) (hname:((Body.n168 ρ).name== "runtime.NumGoroutine")=false) (hbd:(Body.n168 ρ).body.isSome=true) {d:Nat} {b:Id} (hit:b.isIt=false) (hnwb:b.isNw d=false)
  {c0:AV} {T n:Nat} (hc0:(c0= .nilT b T n/\rx P (ρ.t 72) T n)\/c0= .ptr b 0) {rest:List AV} (l bs:List UInt8) (r:Int) (hr:eS r) (hb:Lib.byteCells bs=Lib.runeCells r) (hl:l.length+4<=140737488355328):
  ba P GL (ρ.f 168) d ⟨[.ptr b 0,.int .i32 r],[(b,c0:: .sl (aj l)::rest)],[(.b b 1,bk (ρ.t 5))]⟩ ⟨.tup [.int .i64 bs.length,.undef],[(b,.ptr b 0:: .sl (aj (l++bs))::rest)],[(.b b 1,bk (ρ.t 5))]⟩:=by
 have hbl:bs.length=(Lib.runeCells r).length:=by rw[<-hb,Lib.byteCells_length]
 refine xS L.f168 hname hbd hit hnwb hc0 (y:= .int .i32 r) (rv:= .tuple #[.int .i64 bs.length,.nilIface]) (fun S gb u h=>by simpa[PR] using h) (fun S gb=>by simp only[PR,aa];exact ⟨_,rfl,_,_,rfl,rfl,_,_,rfl,trivial,rfl⟩) l bs ?_;intro w g p v us T' hB hP hrow hne;have hlb:(Lib.byteCells l).length=l.length:=Lib.byteCells_length l
 have:=Gr L X hB hP (Lib.byteCells l) r hr (by rw[hlb];exact hrow) hne (by rw[hlb];exact hl)
 rw[<-hb,vK,Lib.byteCells_length] at this;exact this
end Go.Ai
