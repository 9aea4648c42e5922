/- AiBuild: a part of the proof: the rules, or what functions compute. Conditions: as each theorem says. -/
import Derived.Test.YthonkjadcpdphaaGreatDoorAiShelf3
import Derived.Shelf.Strings.Builder1
set_option linter.unusedSimpArgs false
set_option linter.unusedVariables false
namespace Go.Ai
open Go.RowKit Go.Shelf Go.Proofs
variable {P:Program} {ρ:Ren}
theorem hidA {p:Prop} (h:p):Hid p:=h
theorem ownsRow_same {w w':World} {B:Nat} {e:TypeId} {sz:Nat} {v:Value} {n:Nat} {xs:List Value} (h:w.ownsRow B e sz v n xs) (hh: ∀g,v.ownBlock=some g→w'.heap[g]?=w.heap[g]?):w'.ownsRow B e sz v n xs:=by
 refine ⟨h.1,?_⟩
 rcases h.2 with hn|⟨g,cap,cur,rfl,hb,hgg,rest⟩
 ·exact .inl hn
 ·refine .inr ⟨g,cap,cur,rfl,hb,?_,rest⟩
  rw [hh g rfl];exact hgg
theorem run_bld_app (w:World) (t u ty e:TypeId) (i:TypeInfo) (ht:P.underlying t=some (.slice e)) (hu:P.underlying u=some .string) (hi:P.info? e=some i) (hz:i.zero=some (.int .u8 0)) (hsize:i.size=1) (hby:i.bytes=1)
  (v:Value) (n:Nat) (xs:List Value) (hown:w.ownsRow 0 e 1 v n xs) (s:ByteArray) (hb:n+s.size≤140737488355328):
  ∃v' w',(Builtin.append_ #[t,u] ty #[v,.string s]).run P w= .ok v' w'∧w'.ownsRow 0 e 1 v' (n+s.size) (xs++Lib.strCells s)∧w.grownBy w' v.ownBlock∧(v'.ownBlock=v.ownBlock∨(v'.ownBlock=some w.heap.size∧w.grownBy w' none)):=by
 obtain ⟨v',w',hr,h2,h3,h4⟩:=Lib.run_append_own_string (P:=P) w 0 t u ty e i ht hu hi hz hsize hby v n xs hown s (by unfold maxLen;omega) hb (Nat.zero_le _)
 refine ⟨v',w',hr,h2,h3,?_⟩
 rcases hown.2 with ⟨rfl,rfl⟩|⟨g,cap,cur,rfl,hbg,hg,hnc,hcm,hcs,htake⟩
 ·by_cases hm:s.size=0
  ·have:v'= .slice none 0 0:=h4.2 ⟨rfl,hm⟩
   subst this;exact .inl rfl
  ·have hr2:=run_append_nil_string (P:=P) w t u ty e i (.int .u8 0) ht hu hi hz s (by omega) (by omega) (by rw [hby];omega)
   rw [hr2] at hr;cases hr
   exact .inr ⟨rfl,⟨rfl,rfl,rfl,by simp,fun k hk _=>Lib.alloc_old w.drew _ k hk⟩⟩
 ·by_cases hroom:n+s.size≤cap
  ·have hcs':cur.size=cap:=by simpa using hcs
   have hr2:=Lib.run_append_room_string (P:=P) w t u ty e i ht hu hi hsize g n cap cur hg s hroom (by omega)
   rw [hr2] at hr;cases hr
   exact .inl rfl
  ·have hxl:xs.length=n:=by simpa using hown.1
   have holds: ∀j u,xs[j]?=some u→w.cell? ((⟨g,0,none⟩:Addr).add j)=some u:=hown.cells (g:=g) rfl
   have hr2:=Lib.run_append_grow_string (P:=P) w t u ty e i (.int .u8 0) ht hu hi hz ⟨g,0,none⟩ n cap xs (by rw [hsize];simpa using hxl) holds s (by omega) (by omega) (by rw [hby];exact growslice_fits (by omega) (by omega))
   rw [hr2] at hr;cases hr
   exact .inr ⟨rfl,⟨rfl,rfl,rfl,by simp,fun k hk _=>Lib.alloc_old w.drew _ k hk⟩⟩
theorem wpList_bld_app {w:World} {rest:List Oper} {o:Oper} {a:Act} {ops:Array Oper} {Q:Exit→Act→World→Prop} (hgd:o.guard=none) (sl x:Operand) (t u:TypeId)
  (ho:o.op= .call {callee:= .builtin .append,args:= #[sl,x],argTypes:= #[t,u]})
  (e:TypeId) (i:TypeInfo) (ht:P.underlying t=some (.slice e)) (hu:P.underlying u=some .string) (hi:P.info? e=some i) (hz:i.zero=some (.int .u8 0)) (hsize:i.size=1) (hby:i.bytes=1)
  (v:Value) (n:Nat) (xs:List Value) (hs:a.eval sl=v) (hown:w.ownsRow 0 e 1 v n xs) (s:ByteArray) (hx:a.eval x= .string s) (hb:n+s.size≤140737488355328)
  (h: ∀v' w',w'.ownsRow 0 e 1 v' (n+s.size) (xs++Lib.strCells s)→w.grownBy w' v.ownBlock→(v'.ownBlock=v.ownBlock∨(v'.ownBlock=some w.heap.size∧w.grownBy w' none))→wpList P ops Q rest (a.put o.dst v') w'):wpList P ops Q (o::rest) a w:=by
 refine wpList_plain hgd fun K hK=>?_
 obtain ⟨v',w',hr,h2,h3,h4⟩:=run_bld_app (P:=P) w t u o.type e i ht hu hi hz hsize hby v n xs hown s hb
 unfold Oper.wp execOp
 simp only [ho,resolve,invoke,builtin,Sem.run_bind,Sem.run_pure,Result.andThen_ok,List.map_toArray,List.map_cons,List.map_nil,hs,hx,hr]
 exact hK _ _ (h v' w' h2 h3 h4)
def bldAt (P:Program) (B T n:Nat):Prop:=liesAt P P.depth T (n / P.cellsOf T) 0 B 1=true
structure BldAt (w:World) (b:Nat) (p v:Value) (us:Array Value) (T:TypeId):Prop where
 heap:w.heap[b]?=some (.cells us T (0,0))
 c0:us[0]?=some p
 c1:us[1]?=some v
theorem BldAt.cell {w:World} {b:Nat} {p v:Value} {us:Array Value} {T:TypeId} (h:BldAt w b p v us T):w.cell? ⟨b,0,none⟩=some p∧w.cell? ⟨b,1,none⟩=some v∧w.frozen? ⟨b,0,none⟩=false∧w.frozen? ⟨b,1,none⟩=false∧w.shape? b=some (T,us.size):=by
 refine ⟨?_,?_,?_,?_,?_⟩
 ·rw [Lib.cell_of_heap h.heap];exact h.c0
 ·rw [Lib.cell_of_heap h.heap];exact h.c1
 ·simp [World.frozen?,h.heap]
 ·simp [World.frozen?,h.heap]
 ·simp [World.shape?,h.heap]
theorem BldAt.set0 {w:World} {b:Nat} {p v:Value} {us:Array Value} {T:TypeId} (h:BldAt w b p v us T) (q:Value):BldAt (w.setCell ⟨b,0,none⟩ q) b q v (us.setIfInBounds 0 q) T:=by
 have h0:=h.c0
 have h1:=h.c1
 refine ⟨?_,?_,?_⟩
 ·simp [World.setCell,Array.getElem?_modify,h.heap]
 ·obtain ⟨hl,_⟩:=Array.getElem?_eq_some_iff.1 h0
  simp [Array.getElem?_setIfInBounds,hl]
 ·simp [Array.getElem?_setIfInBounds,h1]
theorem BldAt.set1 {w:World} {b:Nat} {p v:Value} {us:Array Value} {T:TypeId} (h:BldAt w b p v us T) (q:Value):BldAt (w.setCell ⟨b,1,none⟩ q) b p q (us.setIfInBounds 1 q) T:=by
 have h0:=h.c0
 have h1:=h.c1
 refine ⟨?_,?_,?_⟩
 ·simp [World.setCell,Array.getElem?_modify,h.heap]
 ·simp [Array.getElem?_setIfInBounds,h0]
 ·obtain ⟨hl,_⟩:=Array.getElem?_eq_some_iff.1 h1
  simp [Array.getElem?_setIfInBounds,hl]
structure Two (w w':World) (b:Nat) (r:Option Nat):Prop where
 size:w.heap.size≤w'.heap.size
 os:w'.os=w.os
 tape:w'.tape=w.tape
 output:w'.output=w.output
 block: ∀k,k<w.heap.size→k≠b→r≠some k→w'.heap[k]?=w.heap[k]?
set_option maxHeartbeats 1000000 in
set_option maxRecDepth 100000 in
theorem bld_fresh (L:Lays.n240 P ρ) (X:Builder.X72 P ρ) (b:Nat) (w:World) (T n:Nat) (hT:bldAt P (ρ.t 72) T n) (hn:0<n) (h0:w.cell? ⟨b,0,none⟩=some (.pointer none)) (hsh:w.shape? b=some (T,n)) (hfz:w.frozen? ⟨b,0,none⟩=false):
  Calls P (ρ.f 240) #[.pointer (some ⟨b,0,none⟩)] w fun e w'=>e= .returned (.tuple #[])∧w'=w.setCell ⟨b,0,none⟩ (.pointer (some ⟨b,0,none⟩)):=by
 obtain ⟨j,hj,hjs⟩:=Option.map_eq_some_iff.1 X.sizeBuilder
 have mixed:=L.mixed
 have t72:=L.t72;have a72:=L.a72;have z72:=L.z72;have v72:=L.v72;have u72:=run_underlying L.t72
 have t70:=L.t70;have a70:=L.a70;have z70:=L.z70;have v70:=L.v70;have u70:=run_underlying L.t70
 have t9:=L.t9;have a9:=L.a9;have z9:=L.z9;have v9:=L.v9;have u9:=run_underlying L.t9
 have t4:=L.t4;have a4:=L.a4;have z4:=L.z4;have v4:=L.v4;have u4:=run_underlying L.t4
 have t164:=L.t164;have a164:=L.a164;have z164:=L.z164;have v164:=L.v164;have u164:=run_underlying L.t164
 go_enter L.f240,Body.n240_ntmps ρ
 go_wp2
 rw [Lib.run_to_unsafe w ⟨b,0,none⟩ L.t70 L.t164 hj (by rw [hjs];decide) hsh hn]
 simp only [Result.andThen]
 rw [Oper.upon_value]
 go_wp2
 rw [run_callFunc_extern L.f276 (by kernel_rfl) (by kernel_rfl) (by kernel_rfl) (e:=Extern.AbiNoEscape.same) (by kernel_rfl)]
 rw [Lib.run_noEscape]
 simp only [Result.andThen]
 rw [Oper.upon_value]
 go_wp2
 rw [Lib.run_from_unsafe w ⟨b,0,none⟩ L.t164 L.t70 hj hsh hT]
 simp only [Result.andThen]
 rw [Oper.upon_value]
 go_wp2
 go_end0
 exact ⟨rfl,rfl⟩
theorem setCell_two (w:World) (b o:Nat) (q:Value) (r:Option Nat):Two w (w.setCell ⟨b,o,none⟩ q) b r:=
 ⟨by simp [World.setCell],rfl,rfl,rfl,fun k _ hk _=>by simp only [World.setCell,Array.getElem?_modify];rw [if_neg (fun e=>hk e.symm)]⟩
theorem Two.trans {a b c:World} {x:Nat} {r:Option Nat} (h:Two a b x r) (k:Two b c x r):Two a c x r:=
 ⟨Nat.le_trans h.size k.size,k.os.trans h.os,k.tape.trans h.tape,k.output.trans h.output,fun i hi h1 h2=>(k.block i (Nat.lt_of_lt_of_le hi h.size) h1 h2).trans (h.block i hi h1 h2)⟩
theorem Two.refl (w:World) (x:Nat) (r:Option Nat):Two w w x r:=⟨Nat.le_refl _,rfl,rfl,rfl,fun _ _ _ _=>rfl⟩
theorem Two.grown {w w':World} {x:Nat} {r:Option Nat} (h:w.grownBy w' r):Two w w' x r:=⟨h.size,h.os,h.tape,h.output,fun k hk _ h2=>h.block k hk (fun e=>h2 e.symm)⟩
def bldP (P:Program) (B T n b:Nat) (p:Value):Prop:=(p= .pointer none∧bldAt P B T n)∨p= .pointer (some ⟨b,0,none⟩)
theorem bld_check (L:Lays.n240 P ρ) (X:Builder.X72 P ρ) {b:Nat} {w:World} {p v:Value} {us:Array Value} {T:TypeId} (h:BldAt w b p v us T) (hp:bldP P (ρ.t 72) T us.size b p):
  Calls P (ρ.f 240) #[.pointer (some ⟨b,0,none⟩)] w fun e w'=>e= .returned (.tuple #[])∧BldAt w' b (.pointer (some ⟨b,0,none⟩)) v (us.setIfInBounds 0 (.pointer (some ⟨b,0,none⟩))) T∧(∀r,Two w w' b r)∧w'.heap.size=w.heap.size:=by
 obtain ⟨c0,c1,f0,f1,sh⟩:=h.cell
 have hlen:0<us.size:=(Array.getElem?_eq_some_iff.1 h.c0).1
 rcases hp with ⟨rfl,hT⟩|rfl
 ·refine (bld_fresh L X b w T us.size hT hlen c0 sh f0).mono ?_
  rintro e w' ⟨rfl,rfl⟩
  exact ⟨rfl,h.set0 _,fun r=>setCell_two w b 0 _ r,by simp [World.setCell]⟩
 ·refine (Any.Builder_copyCheck_used L X b w c0).mono ?_
  rintro e w' ⟨rfl,rfl⟩
  refine ⟨rfl,⟨?_,?_,?_⟩,fun r=>Two.refl _ _ _,rfl⟩
  ·rw [h.heap]
   congr 2
   apply Array.ext_getElem?
   intro j
   rw [Array.getElem?_setIfInBounds]
   split
   ·rename_i e;subst e;simp only [h.c0]
   ·rfl
  ·simp [Array.getElem?_setIfInBounds,hlen]
  ·simp [Array.getElem?_setIfInBounds,h.c1]
def BldPost (w:World) (b:Nat) (v:Value) (us:Array Value) (T E:TypeId) (bs:List Value) (w':World):Prop:=
 ∃v',BldAt w' b (.pointer (some ⟨b,0,none⟩)) v' ((us.setIfInBounds 0 (.pointer (some ⟨b,0,none⟩))).setIfInBounds 1 v') T∧w'.ownsRow 0 E 1 v' bs.length bs∧(v'.ownBlock=v.ownBlock∨((∃g,v'.ownBlock=some g∧w.heap.size≤g)∧Two w w' b none))∧v'.ownBlock≠some b∧Two w w' b v.ownBlock
set_option maxHeartbeats 2000000 in
set_option maxRecDepth 100000 in
theorem bld_write (L:Lays.n166 P ρ) (X:Builder.Extra P ρ) {b:Nat} {w:World} {p v:Value} {us:Array Value} {T:TypeId} (h:BldAt w b p v us T) (hp:bldP P (ρ.t 72) T us.size b p)
  (bs:List Value) (s:ByteArray) (hown:w.ownsRow 0 (ρ.t 5) 1 v bs.length bs) (hne:v.ownBlock≠some b) (hlen:bs.length+s.size≤140737488355328):
  Calls P (ρ.f 166) #[.pointer (some ⟨b,0,none⟩),.string s] w fun e w'=>e= .returned (.tuple #[.int .i64 s.size,.nilIface])∧BldPost w b v us T (ρ.t 5) (bs++Lib.strCells s) w':=by
 obtain ⟨i0,hi,hz0,hz1,hz2⟩:=info_parts X.infoByte
 have mixed:=L.mixed
 have t72:=L.t72;have a72:=L.a72;have z72:=L.z72;have v72:=L.v72;have u72:=run_underlying L.t72
 have t70:=L.t70;have a70:=L.a70;have z70:=L.z70;have v70:=L.v70;have u70:=run_underlying L.t70
 have t37:=L.t37;have a37:=L.a37;have z37:=L.z37;have v37:=L.v37;have u37:=run_underlying L.t37
 have t3:=L.t3;have a3:=L.a3;have z3:=L.z3;have v3:=L.v3;have u3:=run_underlying L.t3
 have t9:=L.t9;have a9:=L.a9;have z9:=L.z9;have v9:=L.v9;have u9:=run_underlying L.t9
 have t4:=L.t4;have a4:=L.a4;have z4:=L.z4;have v4:=L.v4;have u4:=run_underlying L.t4
 have t164:=L.t164;have a164:=L.a164;have z164:=L.z164;have v164:=L.v164;have u164:=run_underlying L.t164
 have t5:=X.t5;have a5:=X.a5;have z5:=X.z5;have v5:=X.v5;have u5:=run_underlying X.t5
 have e240: ∀args w,(callFunc (ρ.f 240) args).run P w= .ok (.enter (ρ.f 240) args) w:=enters_of L.f240 (by kernel_rfl) rfl
 go_enter L.f166,Body.n166_ntmps ρ
 go_wp2_with (go_at_fn (ρ.f 240);refine (bld_check {L with} X.toX72 h hp).mono ?_)
 rintro e w1 ⟨rfl,h1,hb1,-⟩
 have hs1:w.heap.size≤w1.heap.size:=(hb1 none).size
 have hown1:w1.ownsRow 0 (ρ.t 5) 1 v bs.length bs:=ownsRow_same hown (fun g hg=>(hb1 none).block g (hown.lt g hg).2 (fun e=>hne (by rw [hg,e])) (by simp))
 obtain ⟨c0,c1,f0,f1,sh⟩:=h1.cell
 go_wp2_with (at_builtin;refine wpList_bld_app rfl _ _ (ρ.t 37) (ρ.t 9) rfl (ρ.t 5) i0 L.t37 L.t9 hi hz0 hz1 hz2 _ _ _ rfl hown1 s rfl ?c4 ?_)
 case c4=>omega
 intro v' w2 hown' hgrow hdi
 have hlt:b<w1.heap.size:=(Array.getElem?_eq_some_iff.1 h1.heap).1
 have hb2:BldAt w2 b (.pointer (some ⟨b,0,none⟩)) v (us.setIfInBounds 0 (.pointer (some ⟨b,0,none⟩))) T:=⟨by rw [hgrow.block b hlt (fun e=>hne e.symm)];exact h1.heap,h1.c0,h1.c1⟩
 obtain ⟨d0,d1,g0,g1,sh2⟩:=hb2.cell
 have hneb:v'.ownBlock≠some b:=by
  rcases hdi with e|e
  ·rw [e];exact hne
  ·rw [e.1];intro e2;cases e2;omega
 obtain ⟨ao,n',cap,hv'⟩: ∃ao n' cap,v'= .slice ao n' cap:=by
  rcases hown'.2 with ⟨hv,_⟩|⟨g,cap,cur,hv,_⟩
  ·exact ⟨_,_,_,hv⟩
  ·exact ⟨_,_,_,hv⟩
 subst hv'
 have hfin:BldPost w b v us T (ρ.t 5) (bs++Lib.strCells s) (w2.setCell ⟨b,1,none⟩ (.slice ao n' cap)):=by
  refine ⟨_,hb2.set1 _,?_,?_,hneb,?_⟩
  ·refine ownsRow_same (w:=w2) (by simpa [Lib.strCells_length] using hown') (fun g hg=>?_)
   have:g<w2.heap.size:=(hown'.lt g hg).2
   exact (setCell_two w2 b 1 _ none).block g this (fun e=>hneb (by rw [hg,e])) (by simp)
  ·rcases hdi with e|e
   ·exact .inl e
   ·exact .inr ⟨⟨_,e.1,by omega⟩,((hb1 _).trans (Two.grown e.2)).trans (setCell_two _ _ _ _ _)⟩
  ·exact ((hb1 _).trans (Two.grown hgrow)).trans (setCell_two _ _ _ _ _)
 have HF:=hidA hfin
 clear hfin hown' hgrow hdi hneb
 go_wp2
 go_ret2
 exact ⟨rfl,HF.out⟩
set_option maxHeartbeats 1000000 in
set_option maxRecDepth 100000 in
theorem bld_string (L:Lays.n169 P ρ) (X:Builder.Extra P ρ) {b g cap:Nat} {w:World} {p:Value} {us cur:Array Value} {T:TypeId} (l:List UInt8) (h0:l≠[]) (h:BldAt w b p (.slice (some ⟨g,0,none⟩) l.length cap) us T)
  (hown:w.ownsRow 0 (ρ.t 5) 1 (.slice (some ⟨g,0,none⟩) l.length cap) l.length (Lib.byteCells l)):
  Calls P (ρ.f 169) #[.pointer (some ⟨b,0,none⟩)] w fun e w'=>e= .returned (.string ⟨l.toArray⟩)∧w'=w.drew.freeze ⟨g,0,none⟩ l.length:=by
 have hl0:l.length≠0:=by simpa using h0
 obtain ⟨g',cap',cur,hv,hbg,hg,hnc,hcm,hcs,htake⟩: ∃g' cap' cur,Value.slice (some ⟨g,0,none⟩) l.length cap= .slice (some ⟨g',0,none⟩) l.length cap'∧0≤g'∧w.heap[g']?=some (.cells cur (ρ.t 5) (0,0))∧l.length≤cap'∧cap'≤maxLen∧cur.size=cap'*1∧cur.toList.take (l.length*1)=Lib.byteCells l:=by
  rcases hown.2 with ⟨_,hz⟩|⟨g,cap,cur,hv,r⟩
  ·exact absurd hz hl0
  ·exact ⟨g,cap,cur,hv,r⟩
 cases hv
 have c1:w.drew.cell? ⟨b,1,none⟩=some (.slice (some ⟨g,0,none⟩) l.length cap):=h.cell.2.1
 have hSD:(Builtin.unsafeSliceData_ #[(ρ.t 37)] (ρ.t 127) #[.slice (some ⟨g,0,none⟩) l.length cap]).run P w.drew= .ok (.pointer (some ⟨g,0,none⟩)) w.drew:=
  Lib.run_unsafeSliceData_row _ _ _ _ _ _ (by omega)
 have hUS:(Builtin.unsafeString_ #[(ρ.t 127),(ρ.t 3)] (ρ.t 9) #[.pointer (some ⟨g,0,none⟩),.int .i64 l.length]).run P w.drew= .ok (.string ⟨l.toArray⟩) (w.drew.freeze ⟨g,0,none⟩ l.length):=by
  refine Lib.run_unsafeString_row w.drew (ρ.t 127) (ρ.t 3) (ρ.t 9) (ρ.t 5) L.t127 X.cellsByte g cur.size (by have hg':w.drew.heap[g]?=some (.cells cur (ρ.t 5) (0,0)):=hg;simp [World.shape?,hg']) l h0 (by omega) (by unfold maxLen at hcm;omega) ?_
  intro j x hx
  have:=hown.cells (g:=g) rfl j (.int .u8 x.toNat) (by simp [Lib.byteCells,hx])
  exact this
 have mixed:=L.mixed
 have t72:=L.t72;have a72:=L.a72;have z72:=L.z72;have v72:=L.v72;have u72:=run_underlying L.t72
 have t70:=L.t70;have a70:=L.a70;have z70:=L.z70;have v70:=L.v70;have u70:=run_underlying L.t70
 have t37:=L.t37;have a37:=L.a37;have z37:=L.z37;have v37:=L.v37;have u37:=run_underlying L.t37
 have t127:=L.t127;have a127:=L.a127;have z127:=L.z127;have v127:=L.v127;have u127:=run_underlying L.t127
 have t3:=L.t3;have a3:=L.a3;have z3:=L.z3;have v3:=L.v3;have u3:=run_underlying L.t3
 have t9:=L.t9;have a9:=L.a9;have z9:=L.z9;have v9:=L.v9;have u9:=run_underlying L.t9
 have t5:=X.t5;have a5:=X.a5;have z5:=X.z5;have v5:=X.v5;have u5:=run_underlying X.t5
 go_enter L.f169,Body.n169_ntmps ρ
 go_wp2
 go_region_o
 all_goals (go_wp2;go_ret;exact ⟨rfl,rfl⟩)
def bk (E:Nat):Nat:=KB+E
theorem byteRows_get (l:List UInt8) (j:Nat):(byteRows l)[j]?=(l[j]?).map fun b=>[AV.int .u8 b.toNat]:=by simp [byteRows]
theorem libCells_get (l:List UInt8) (j:Nat):(Lib.byteCells l)[j]?=(l[j]?).map fun b=>Value.int .u8 b.toNat:=by simp [Lib.byteCells]
theorem bytes_cells {S:Mem} {l:List UInt8} {k g o:Nat} (h:PRrows S k (byteRows l) g o): ∀(j:Nat) (u:Value),(Lib.byteCells l)[j]?=some u→S g (o+j)=some u:=by
 intro j u hu
 rw [libCells_get,Option.map_eq_some_iff] at hu
 obtain ⟨x,hx,rfl⟩:=hu
 have h2:(byteRows l)[j]?=some [.int .u8 x.toNat]:=by rw [byteRows_get,hx];rfl
 obtain ⟨hk,h3⟩:=h.get h2
 simp only [List.length_cons,List.length_nil,Nat.zero_add] at hk
 subst hk
 simp only [PRcells,PR,Nat.mul_one] at h3
 obtain ⟨⟨u,hu,_,rfl⟩,_⟩:=h3
 exact hu
theorem bytes_PR {S:Mem} {gb:Gb}: ∀(m:List UInt8),PRlist S gb (m.map fun b=>AV.int .u8 b.toNat) (Lib.byteCells m)
 |[]=>by simp [Lib.byteCells,PRlist]
 |a::m=>by
  have ih:=bytes_PR (S:=S) (gb:=gb) m
  simp only [Lib.byteCells,List.map_cons,PRlist,PR] at ih ⊢
  exact ⟨_,_,rfl,rfl,ih⟩
theorem own_bytes {S:Mem} {gb:Gb} {w:World} {v:Value} {l:List UInt8} {E:Nat} (hag: ∀g o v,S g o=some v→w.cell? ⟨g,o,none⟩=some v) (ho:OwnR S w (bk E) v) (hp:PR S gb (.sl (byteRows l)) v):
  w.ownsRow 0 E 1 v l.length (Lib.byteCells l)∧(∀g o,v.ownBlock=some g→l.length≤o→S g o=none):=by
 have hll:(byteRows l).length=l.length:=by simp [byteRows]
 rcases ho with rfl|⟨hk,_⟩|⟨hk,g,n,cap,cur,rfl,h3,h4,h5,h6,h7⟩
 ·simp only [PR] at hp
  rcases hp with ⟨_,hp⟩|⟨_,_,_,hp,_⟩
  ·have hl:l=[]:=by simpa [byteRows] using hp
   subst hl
   exact ⟨World.ownsRow_nil _ _ _ _,fun g o hg=>by simp [Value.ownBlock] at hg⟩
  ·cases hp
 ·exact absurd hk (by unfold bk;omega)
 ·have hE:bk E - KB=E:=by unfold bk;omega
  rw [hE] at h3
  simp only [PR] at hp
  rcases hp with ⟨hp,_⟩|⟨a,cap',k,hp,hc,hr⟩
  ·cases hp
  ·rw [hll] at hp
   cases hp
   refine ⟨⟨by simp [Lib.byteCells],.inr ⟨g,cap,cur,rfl,Nat.zero_le _,h3,h4,h5,by omega,?_⟩⟩,fun g1 o hg ho=>?_⟩
   ·have hcell: ∀(j:Nat) (u:Value),(Lib.byteCells l)[j]?=some u→cur[j]?=some u:=by
     intro j u hu
     rcases hr with hr|⟨_,hr⟩
     ·have hl:l=[]:=by simpa [byteRows] using hr
      subst hl;simp [Lib.byteCells] at hu
     ·have:=hag _ _ _ (bytes_cells hr j u hu)
      rw [Nat.zero_add,cell_of_row w g j cur E _ h3] at this
      exact this
    apply List.ext_getElem?
    intro j
    rw [List.getElem?_take]
    split
    ·rename_i hj
     have hj2:j<(Lib.byteCells l).length:=by simp [Lib.byteCells];omega
     rw [List.getElem?_eq_getElem hj2]
     have:=hcell j _ (List.getElem?_eq_getElem hj2)
     simpa using this
    ·rename_i hj
     rw [List.getElem?_eq_none (by simp [Lib.byteCells];omega)]
   ·simp only [Value.ownBlock,Option.some.injEq] at hg
    subst hg
    exact h7 o ho
theorem PRlist.two {S:Mem} {gb:Gb} {c0 c1:AV} {rest:List AV} {us:List Value} (h:PRlist S gb (c0::c1::rest) us): ∃p v us',us=p::v::us'∧PR S gb c0 p∧PR S gb c1 v∧PRlist S gb rest us':=by
 simp only [PRlist] at h
 obtain ⟨p,_,rfl,hp,v,us',rfl,hv,hr⟩:=h
 exact ⟨p,v,us',rfl,hp,hv,hr⟩
theorem bld_wr_spec {GL:List (Nat×List Value)} {f:Nat} {fn:Func} (hf:P.funcs[f]?=some fn) (hname:(fn.name== "runtime.NumGoroutine")=false) (hbd:fn.body.isSome=true) {B E d:Nat} {b:Id} (hit:b.isIt=false) (hnwb:b.isNw d=false)
  {c0:AV} {T n:Nat} (hc0:(c0= .nilT b T n∧bldAt P B T n)∨c0= .ptr b 0) {rest:List AV} {x r:AV} {y rv:Value} (hx: ∀(S:Mem) (gb:Gb) (u:Value),PR S gb x u→u=y) (hr: ∀(S:Mem) (gb:Gb),PR S gb r rv) (l l2:List UInt8)
  (h: ∀(w:World) (g:Nat) (p v:Value) (us:Array Value) (T':TypeId),BldAt w g p v us T'→bldP P B T' us.size g p→w.ownsRow 0 E 1 v l.length (Lib.byteCells l)→v.ownBlock≠some g→
   Calls P f #[.pointer (some ⟨g,0,none⟩),y] w fun e w'=>e= .returned rv∧BldPost w g v us T' E (Lib.byteCells (l++l2)) w'):
  SpH P GL f d ⟨[.ptr b 0,x],[(b,c0:: .sl (byteRows l)::rest)],[(.b b 1,bk E)]⟩ ⟨r,[(b,.ptr b 0:: .sl (byteRows (l++l2))::rest)],[(.b b 1,bk E)]⟩:=by
 unfold SpH
 intro S gb w vs hvs hhr hglo hnw
 simp only [PRlist] at hvs
 obtain ⟨v0,_,rfl,hv0,v1,_,rfl,hv1,rfl⟩:=hvs
 have:=hx _ _ _ hv1
 subst this
 simp only [PR] at hv0
 obtain ⟨g,z,hg,_,rfl⟩:=hv0
 obtain ⟨g',us,T1,e1,e3,e0,e4,e5,e6⟩:=hhr.box b _ (by simp [lkB];rfl) hit
 rw [hg] at e1;cases e1
 obtain ⟨p,v,us2,hus,hp0,hv,hrest⟩:=e4.two
 have hu0:us[0]?=some p:=by
  have:(us.toList.take (c0:: .sl (byteRows l)::rest).length)[0]?=some p:=by rw [hus];rfl
  rw [List.getElem?_take,if_pos (by simp)] at this;simpa using this
 have hu1:us[1]?=some v:=by
  have:(us.toList.take (c0:: .sl (byteRows l)::rest).length)[1]?=some v:=by rw [hus];rfl
  rw [List.getElem?_take,if_pos (by simp)] at this;simpa using this
 have hB:BldAt w g p v us T1:=⟨e3,hu0,hu1⟩
 have hP:bldP P B T1 us.size g p:=by
  rcases hc0 with ⟨rfl,hT⟩|rfl
  ·simp only [PR] at hp0
   obtain ⟨rfl,g2,hg2⟩:=hp0
   rw [hg] at hg2;cases hg2
   exact .inl ⟨rfl,hT⟩
  ·simp only [PR] at hp0
   obtain ⟨g2,z2,hg2,_,rfl⟩:=hp0
   rw [hg] at hg2;cases hg2
   exact .inr rfl
 have hpl:plv gb (fun t=>[Value.pointer (some ⟨g,0,none⟩),v1].getD t undef) w (.b b 1)=v:=by simp [plv,hg,hB.cell.2.1]
 have hown:=hhr.own (.b b 1) (bk E) (by simp [lkP])
 rw [hpl] at hown
 obtain ⟨hrow,hun⟩:=own_bytes hhr.agree hown hv
 have hneb:v.ownBlock≠some g:=fun e=>hhr.ownb (.b b 1) (bk E) g b _ (by simp [lkP]) (by rw [hpl];exact e) (by simp [lkB]) hg
 have h1:=h w g p v us T1 hB hP hrow hneb
 have hglt:g<w.heap.size:=(Array.getElem?_eq_some_iff.1 e3).1
 unfold Does
 have hcall:(callFunc f #[Value.pointer (some ⟨g,0,none⟩),v1]).run P w= .ok (.enter f #[Value.pointer (some ⟨g,0,none⟩),v1]) w:=by
  obtain ⟨c,hc⟩:=Option.isSome_iff_exists.1 hbd
  have hn: ¬fn.name= "runtime.NumGoroutine":=by simpa using hname
  simp [callFunc,hf,hc,hn]
 have hcall':(callFunc f [Value.pointer (some ⟨g,0,none⟩),v1].toArray).run P w= .ok (.enter f #[Value.pointer (some ⟨g,0,none⟩),v1]) w:=hcall
 rw [hcall']
 refine h1.mono ?_
 rintro e w' ⟨he,v',k1,k2,k3,k4,k5⟩
 have hle:Mem.le S (fun g1 o=>if v'.ownBlock=some g1 then (Lib.byteCells (l++l2))[o]? else S g1 o):=by
  intro g1 o u hu
  show (if v'.ownBlock=some g1 then (Lib.byteCells (l++l2))[o]? else S g1 o)=some u
  split
  ·rename_i e
   rcases k3 with e2|⟨⟨g2,e2,e3⟩,_⟩
   ·rw [e2] at e
    have ho:o<l.length:=by
     rcases Nat.lt_or_ge o l.length with h|h
     ·exact h
     ·rw [hun g1 o e h] at hu;cases hu
    have hc:=hrow.cells e o _ (List.getElem?_eq_getElem (by rw [Lib.byteCells_length];exact ho))
    have hadd:(⟨g1,0,none⟩:Addr).add o=⟨g1,o,none⟩:=by rw [Addr.add_lit,Nat.zero_add]
    rw [hadd,hhr.agree _ _ _ hu] at hc
    rw [libCells_get,List.getElem?_append_left ho,←libCells_get,List.getElem?_eq_getElem (by rw [Lib.byteCells_length];exact ho)]
    exact hc.symm
   ·rw [e2] at e;cases e
    have:=World.block_lt_of_cell? w _ (hhr.agree _ _ _ hu)
    simp only at this;omega
  ·exact hu
 refine ⟨rv,he,(fun g1 o=>if v'.ownBlock=some g1 then (Lib.byteCells (l++l2))[o]? else S g1 o),gb,⟨k5.os,k5.tape,k5.output,k5.size,?_⟩,?_,hle,fun _ _=>rfl,fun i hi hne=>absurd (hnw i hi) hne,hr _ _,⟨?_,?_,?_,?_,?_,?_,?_,?_⟩,?_,?_⟩
 ·intro k hk hm
  exact k5.block k hk (fun e=>hm (.inl ⟨b,_,by simp [lkB],by rw [hg,e]⟩)) (fun e=>hm (.inr ⟨.b b 1,bk E,by simp [lkP],by rw [hpl];exact e⟩))
 ·intro g1 o hg1 hm
  show (if v'.ownBlock=some g1 then (Lib.byteCells (l++l2))[o]? else S g1 o)=S g1 o
  rw [if_neg]
  intro e
  rcases k3 with e2|⟨⟨g2,e2,e3⟩,_⟩
  ·exact hm (.inr ⟨.b b 1,bk E,by simp [lkP],by rw [hpl,←e2];exact e⟩)
  ·rw [e2] at e;cases e;omega
 ·
  intro g1 o u hu
  replace hu:(if v'.ownBlock=some g1 then (Lib.byteCells (l++l2))[o]? else S g1 o)=some u:=hu
  split at hu
  ·rename_i e
   have hc:=k2.cells e o u hu
   have hadd:(⟨g1,0,none⟩:Addr).add o=⟨g1,o,none⟩:=by rw [Addr.add_lit,Nat.zero_add]
   rw [hadd] at hc;exact hc
  ·rename_i e
   have hc:=hhr.agree _ _ _ hu
   have hlt:=World.block_lt_of_cell? w _ hc
   have hne:g1≠g:=fun e=>by subst e;rw [e6] at hu;cases hu
   rw [World.cell?_of_block (w:=w)]
   ·exact hc
   ·rcases k3 with e2|⟨_,e3⟩
    ·exact k5.block g1 hlt hne (by rw [←e2];exact e)
    ·exact e3.block g1 hlt hne (by simp)
 ·intro d' cs1 hcs1 hi
  simp only [lkB] at hcs1
  split at hcs1
  ·rename_i e;subst e;cases hcs1
   have hsz:((us.setIfInBounds 0 (.pointer (some ⟨g,0,none⟩))).setIfInBounds 1 v').size=us.size:=by simp
   refine ⟨g,_,T1,by rw [hsz];exact hg,k1.heap,by rw [hsz];simpa using e0,?_,?_,?_⟩
   ·have hl2:(AV.ptr b 0::AV.sl (byteRows (l++l2))::rest).length=(c0::AV.sl (byteRows l)::rest).length:=by simp
    rw [hl2]
    have htk:((us.setIfInBounds 0 (.pointer (some ⟨g,0,none⟩))).setIfInBounds 1 v').toList.take (c0::AV.sl (byteRows l)::rest).length= .pointer (some ⟨g,0,none⟩)::v'::us2:=by
     rw [Array.toList_setIfInBounds,Array.toList_setIfInBounds,List.take_set,List.take_set,hus];rfl
    rw [htk]
    simp only [PRlist]
    refine ⟨_,_,rfl,?_,_,_,rfl,?_,?_⟩
    ·simp only [PR];exact ⟨g,_,hg,hit,rfl⟩
    ·simp only [PR]
     have hll:(byteRows (l++l2)).length=(Lib.byteCells (l++l2)).length:=by simp [byteRows,Lib.byteCells]
     rcases k2.2 with ⟨hv',hn⟩|⟨g3,cap,cur,hv',_,q1,q2,q3,q4,q5⟩
     ·refine .inl ⟨hv',?_⟩
      exact List.eq_nil_of_length_eq_zero (by rw [hll];exact hn)
     ·refine .inr ⟨⟨g3,0,none⟩,cap,1,by rw [hll];exact hv',by rw [hll];exact q2,.inr ⟨rfl,?_⟩⟩
      rw [PRrows.flat]
      refine ⟨fun r hr=>by simp only [byteRows,List.mem_map] at hr;obtain ⟨_,_,rfl⟩:=hr;rfl,?_⟩
      have hfl:(byteRows (l++l2)).flatten=(l++l2).map fun b=>AV.int .u8 b.toNat:=by
       generalize l++l2=m
       induction m with
       |nil=>rfl
       |cons a m ih=>simp only [byteRows,List.map_cons,List.flatten_cons] at ih ⊢;rw [ih];rfl
      rw [hfl]
      refine PRcells.of_list (us:=Lib.byteCells (l++l2)) ?_ ?_ (fun j u hu=>?_)
      ·exact bytes_PR _
      ·intro u hu;simp only [Lib.byteCells,List.mem_map] at hu;obtain ⟨_,_,rfl⟩:=hu;rfl
      ·simp only [hv',Value.ownBlock,if_true,Nat.zero_add];exact hu
    ·exact PRlist.mono hle (Gb.le.refl _) _ _ hrest
   ·intro u hu
    rw [Array.toList_setIfInBounds,Array.toList_setIfInBounds] at hu
    rcases List.mem_or_eq_of_mem_set hu with hu|rfl
    ·rcases List.mem_or_eq_of_mem_set hu with hu|rfl
     ·exact e5 u hu
     ·rfl
    ·rcases k2.2 with ⟨hv',_⟩|⟨_,_,_,hv',_⟩<;>rw [hv']<;>rfl
   ·intro o
    show (if v'.ownBlock=some g then (Lib.byteCells (l++l2))[o]? else S g o)=none
    rw [if_neg k4];exact e6 o
  ·cases hcs1
 ·intro d' cs1 hcs1 hi
  simp only [lkB] at hcs1
  split at hcs1
  ·rename_i e;subst e;rw [hit] at hi;cases hi
  ·cases hcs1
 ·intro d1 d2 g1 z1 z2 i1 i2 _ _
  simp only [lkB] at i1 i2
  split at i1
  ·split at i2
   ·rename_i e1 e2;rw [←e1,←e2]
   ·cases i2
  ·cases i1
 ·intro p1 k hk
  simp only [lkP] at hk
  split at hk
  ·rename_i e;subst e;simp only [Option.some.injEq] at hk;subst hk
   have hpl':plv gb (fun _=>rv) w' (.b b 1)=v':=by simp [plv,hg,k1.cell.2.1]
   rw [hpl']
   rcases k2.2 with ⟨hv',hn⟩|⟨g3,cap,cur,hv',_,q1,q2,q3,q4,q5⟩
   ·exact .inl hv'
   ·refine .inr (.inr ⟨by unfold bk;omega,g3,_,cap,cur,hv',by rw [show bk E - KB=E by unfold bk;omega];exact q1,q2,q3,by omega,fun o ho=>?_⟩)
    simp only [hv',Value.ownBlock,if_true]
    exact List.getElem?_eq_none ho
  ·cases hk
 ·intro p1 p2 k1 k2 b1 h1 h2 _ _
  simp only [lkP] at h1 h2
  split at h1
  ·split at h2
   ·rename_i e1 e2;rw [←e1,←e2]
   ·cases h2
  ·cases h1
 ·intro p1 k b1 d' z1 hk hb1 hd' hgd
  simp only [lkP] at hk
  split at hk
  ·rename_i e;subst e
   have hpl':plv gb (fun _=>rv) w' (.b b 1)=v':=by simp [plv,hg,k1.cell.2.1]
   rw [hpl'] at hb1
   simp only [lkB] at hd'
   split at hd'
   ·rename_i e2;subst e2
    rw [hg] at hgd;cases hgd
    exact k4 hb1
   ·cases hd'
  ·cases hk
 ·intro d' off k hk
  simp only [lkP] at hk
  split at hk
  ·rename_i e;cases e;exact ⟨by simp [lkB],hit⟩
  ·cases hk
 ·intro i g1 z1 hi hgi
  simp only [lkB] at hi
  split at hi
  ·rename_i e;subst e
   rw [hg] at hgi;cases hgi
   exact .inr (.inl ⟨b,_,by simp [lkB],hg⟩)
  ·cases hi
 ·intro p1 k g1 hk hb1
  simp only [lkP] at hk
  split at hk
  ·rename_i e;subst e
   have hpl':plv gb (fun _=>rv) w' (.b b 1)=v':=by simp [plv,hg,k1.cell.2.1]
   rw [hpl'] at hb1
   rcases k3 with e2|⟨⟨g2,e2,e3⟩,_⟩
   ·exact .inr (.inr ⟨.b b 1,bk E,by simp [lkP],by rw [hpl,←e2];exact hb1⟩)
   ·rw [e2] at hb1;cases hb1;exact .inl e3
  ·cases hk
theorem freeze_facts (w:World) (g n:Nat):(∀k,k≠g→(w.freeze ⟨g,0,none⟩ n).heap[k]?=w.heap[k]?)∧(∀a,(w.freeze ⟨g,0,none⟩ n).cell? a=w.cell? a)∧(w.freeze ⟨g,0,none⟩ n).heap.size=w.heap.size∧(w.freeze ⟨g,0,none⟩ n).os=w.os∧(w.freeze ⟨g,0,none⟩ n).tape=w.tape∧(w.freeze ⟨g,0,none⟩ n).output=w.output:=by
 unfold World.freeze
 split
 ·exact ⟨fun _ _=>rfl,fun _=>rfl,rfl,rfl,rfl,rfl⟩
 ·refine ⟨fun k hk=>?_,fun a=>?_,by simp,rfl,rfl,rfl⟩
  ·simp only [Array.getElem?_modify]
   rw [if_neg (fun e=>hk e.symm)]
  ·simp only [World.cell?,Array.getElem?_modify]
   by_cases e:g=a.block
   ·simp only [if_pos e]
    cases h:w.heap[a.block]? with
    |none=>rfl
    |some o=>cases o<;>rfl
   ·simp only [if_neg e]
theorem bld_st_spec {GL:List (Nat×List Value)} {f:Nat} {fn:Func} (hf:P.funcs[f]?=some fn) (hname:(fn.name== "runtime.NumGoroutine")=false) (hbd:fn.body.isSome=true) {E d:Nat} {b:Id} (hit:b.isIt=false) (hnwb:b.isNw d=false)
  {c0:AV} {rest:List AV} (l:List UInt8) (h0:l≠[])
  (h: ∀(w:World) (b' g cap:Nat) (p:Value) (us:Array Value) (T':TypeId),BldAt w b' p (.slice (some ⟨g,0,none⟩) l.length cap) us T'→w.ownsRow 0 E 1 (.slice (some ⟨g,0,none⟩) l.length cap) l.length (Lib.byteCells l)→
   Calls P f #[.pointer (some ⟨b',0,none⟩)] w fun e w'=>e= .returned (.string ⟨l.toArray⟩)∧w'=w.drew.freeze ⟨g,0,none⟩ l.length):
  SpH P GL f d ⟨[.ptr b 0],[(b,c0:: .sl (byteRows l)::rest)],[(.b b 1,bk E)]⟩ ⟨.str l,[(b,c0:: .sl (byteRows l)::rest)],[]⟩:=by
 unfold SpH
 intro S gb w vs hvs hhr hglo hnw
 simp only [PRlist] at hvs
 obtain ⟨v0,_,rfl,hv0,rfl⟩:=hvs
 simp only [PR] at hv0
 obtain ⟨g,z,hg,_,rfl⟩:=hv0
 obtain ⟨g',us,T1,e1,e3,e0,e4,e5,e6⟩:=hhr.box b _ (by simp [lkB];rfl) hit
 rw [hg] at e1;cases e1
 obtain ⟨p,v,us2,hus,hp0,hv,hrest⟩:=e4.two
 have hu0:us[0]?=some p:=by
  have:(us.toList.take (c0:: .sl (byteRows l)::rest).length)[0]?=some p:=by rw [hus];rfl
  rw [List.getElem?_take,if_pos (by simp)] at this;simpa using this
 have hu1:us[1]?=some v:=by
  have:(us.toList.take (c0:: .sl (byteRows l)::rest).length)[1]?=some v:=by rw [hus];rfl
  rw [List.getElem?_take,if_pos (by simp)] at this;simpa using this
 have hB:BldAt w g p v us T1:=⟨e3,hu0,hu1⟩
 have hpl:plv gb (fun t=>[Value.pointer (some ⟨g,0,none⟩)].getD t undef) w (.b b 1)=v:=by simp [plv,hg,hB.cell.2.1]
 have hown:=hhr.own (.b b 1) (bk E) (by simp [lkP])
 rw [hpl] at hown
 obtain ⟨hrow,hun⟩:=own_bytes hhr.agree hown hv
 have hneb:v.ownBlock≠some g:=fun e=>hhr.ownb (.b b 1) (bk E) g b _ (by simp [lkP]) (by rw [hpl];exact e) (by simp [lkB]) hg
 obtain ⟨g2,cap,hv2⟩: ∃g2 cap,v= .slice (some ⟨g2,0,none⟩) l.length cap:=by
  rcases hrow.2 with ⟨_,hn⟩|⟨g2,cap,_,hv2,_⟩
  ·exact absurd (List.eq_nil_of_length_eq_zero hn) h0
  ·exact ⟨g2,cap,hv2⟩
 subst hv2
 have hne2:g2≠g:=fun e=>hneb (by simp [Value.ownBlock,e])
 have h1:=h w g g2 cap p us T1 hB hrow
 have hglt:g<w.heap.size:=(Array.getElem?_eq_some_iff.1 e3).1
 unfold Does
 have hcall:(callFunc f [Value.pointer (some ⟨g,0,none⟩)].toArray).run P w= .ok (.enter f #[Value.pointer (some ⟨g,0,none⟩)]) w:=by
  obtain ⟨c,hc⟩:=Option.isSome_iff_exists.1 hbd
  have hn: ¬fn.name= "runtime.NumGoroutine":=by simpa using hname
  simp [callFunc,hf,hc,hn]
 rw [hcall]
 refine h1.mono ?_
 rintro e w' ⟨he,rfl⟩
 obtain ⟨f1,f2,f3,f4,f5,f6⟩:=freeze_facts w.drew g2 l.length
 refine ⟨_,he,S,gb,⟨f4,f5,f6,by rw [f3];exact Nat.le_refl _,?_⟩,fun _ _ _ _=>rfl,Mem.le.refl _,fun _ _=>rfl,fun i hi hne=>absurd (hnw i hi) hne,by simp [PR],⟨?_,?_,?_,?_,?_,?_,?_,?_⟩,?_,?_⟩
 ·intro k hk hm
  exact f1 k (fun e=>hm (.inr ⟨.b b 1,bk E,by simp [lkP],by rw [hpl,e];rfl⟩))
 ·intro g1 o u hu
  rw [f2]
  exact hhr.agree _ _ _ hu
 ·intro d' cs1 hcs1 hi
  simp only [lkB] at hcs1
  split at hcs1
  ·rename_i e;subst e;cases hcs1
   exact ⟨g,us,T1,hg,by rw [f1 g (fun e=>hne2 e.symm)];exact e3,e0,e4,e5,e6⟩
  ·cases hcs1
 ·intro d' cs1 hcs1 hi
  simp only [lkB] at hcs1
  split at hcs1
  ·rename_i e;subst e;rw [hit] at hi;cases hi
  ·cases hcs1
 ·intro d1 d2 g1 z1 z2 i1 i2 _ _
  simp only [lkB] at i1 i2
  split at i1
  ·split at i2
   ·rename_i e1 e2;rw [←e1,←e2]
   ·cases i2
  ·cases i1
 ·intro p1 k hk;simp [lkP] at hk
 ·intro p1 p2 k1 k2 b1 h1;simp [lkP] at h1
 ·intro p1 k b1 d' z1 hk;simp [lkP] at hk
 ·intro d' off k hk;simp [lkP] at hk
 ·intro i g1 z1 hi hgi
  simp only [lkB] at hi
  split at hi
  ·rename_i e;subst e
   rw [hg] at hgi;cases hgi
   exact .inr (.inl ⟨b,_,by simp [lkB],hg⟩)
  ·cases hi
 ·intro p1 k g1 hk;simp [lkP] at hk
theorem strCells_bytes (s:List UInt8):Lib.strCells ⟨s.toArray⟩=Lib.byteCells s:=by simp [Lib.strCells,Lib.byteCells]
theorem libCells_app (a b:List UInt8):Lib.byteCells a++Lib.byteCells b=Lib.byteCells (a++b):=by simp [Lib.byteCells]
theorem ws_shelf {GL:List (Nat×List Value)} (L:Lays.n166 P ρ) (X:Builder.Extra P ρ) (hname:((Body.n166 ρ).name== "runtime.NumGoroutine")=false) (hbd:(Body.n166 ρ).body.isSome=true) {d:Nat} {b:Id} (hit:b.isIt=false) (hnwb:b.isNw d=false)
  {c0:AV} {T n:Nat} (hc0:(c0= .nilT b T n∧bldAt P (ρ.t 72) T n)∨c0= .ptr b 0) {rest:List AV} (l s:List UInt8) (hl:l.length+s.length≤140737488355328):
  SpH P GL (ρ.f 166) d ⟨[.ptr b 0,.str s],[(b,c0:: .sl (byteRows l)::rest)],[(.b b 1,bk (ρ.t 5))]⟩ ⟨.tup [.int .i64 s.length,.undef],[(b,.ptr b 0:: .sl (byteRows (l++s))::rest)],[(.b b 1,bk (ρ.t 5))]⟩:=by
 refine bld_wr_spec L.f166 hname hbd hit hnwb hc0 (y:= .string ⟨s.toArray⟩) (rv:= .tuple #[.int .i64 s.length,.nilIface]) (fun S gb u h=>by simpa [PR] using h) (fun S gb=>by simp only [PR,PRlist];exact ⟨_,rfl,_,_,rfl,rfl,_,_,rfl,trivial,rfl⟩) l s ?_
 intro w g p v us T' hB hP hrow hne
 have hlb:(Lib.byteCells l).length=l.length:=Lib.byteCells_length l
 have:=bld_write L X hB hP (Lib.byteCells l) ⟨s.toArray⟩ (by rw [hlb];exact hrow) hne (by rw [hlb];simpa [ByteArray.size] using hl)
 rw [strCells_bytes,libCells_app] at this
 exact this
theorem st_shelf {GL:List (Nat×List Value)} (L:Lays.n169 P ρ) (X:Builder.Extra P ρ) (hname:((Body.n169 ρ).name== "runtime.NumGoroutine")=false) (hbd:(Body.n169 ρ).body.isSome=true) {d:Nat} {b:Id} (hit:b.isIt=false) (hnwb:b.isNw d=false)
  {c0:AV} {rest:List AV} (l:List UInt8) (h0:l≠[]):
  SpH P GL (ρ.f 169) d ⟨[.ptr b 0],[(b,c0:: .sl (byteRows l)::rest)],[(.b b 1,bk (ρ.t 5))]⟩ ⟨.str l,[(b,c0:: .sl (byteRows l)::rest)],[]⟩:=
 bld_st_spec L.f169 hname hbd hit hnwb l h0 fun w b' g cap p us T' hB hrow=>bld_string L X l h0 (cur:= #[]) hB hrow
end Go.Ai
