/- AiShelf3: a part of the proof: the rules, or what functions compute. Conditions: as each theorem says. -/
import Derived.Test.YtidcomakahbepaaGreatDoorAiShelf2
import Derived.Sort.Row
import Derived.Sort.Grow
set_option linter.unusedSimpArgs false
set_option linter.unusedVariables false
namespace Go.Ai
open Go.RowKit
theorem mut_spec {P:Program} {GL:List (Nat×List Value)} {f:Nat} {fn:Func} (hf:P.funcs[f]?=some fn) (hname:(fn.name== "runtime.NumGoroutine")=false) (hbd:fn.body.isSome=true) {d:Nat} {b:Id} {n:Nat} {l cs cs':List AV} {r:AV}
  (hit:b.isIt=false) (hnwb:b.isNw d=false) (hlen:cs'.length=cs.length)
  (h: ∀(S:Mem) (gb:Gb) (w:World) (g cap:Nat) (us:Array Value) (T:TypeId) (vs:List Value),gb b=some (g,⟨us.size,T⟩)→PRlist S gb l vs→w.heap[g]?=some (.cells us T (0,0))→n≤cap→cap≤maxLen→cap≤us.size→cs.length≤us.size→
   PRlist S gb cs (us.toList.take cs.length)→(∀u∈us.toList,u.oneCell'=true)→
   Calls P f (Value.slice (some ⟨g,0,none⟩) n cap::vs).toArray w fun e w'=> ∃v us',e= .returned v∧PR S gb r v∧w'.heap[g]?=some (.cells us' T (0,0))∧us'.size=us.size∧(∀u∈us'.toList,u.oneCell'=true)∧PRlist S gb cs' (us'.toList.take cs.length)∧
    (∀k,k<w.heap.size→k≠g→w'.heap[k]?=w.heap[k]?)∧w.heap.size≤w'.heap.size∧w'.os=w.os∧w'.tape=w.tape∧w'.output=w.output):
  SpH P GL f d ⟨.ms b 0 n 1::l,[(b,cs)],[]⟩ ⟨r,[(b,cs')],[]⟩:=by
 unfold SpH
 intro S gb w vs hvs hhr hglo hnw
 simp only [PRlist] at hvs
 obtain ⟨v0,vs,rfl,hv0,hvs⟩:=hvs
 simp only [PR] at hv0
 obtain ⟨g,z,cap,hg,_,rfl,hn,hcap,hfit⟩:=hv0
 obtain ⟨g',us,T,e1,e3,e0,e4,e5,e6⟩:=hhr.box b cs (by simp [lkB]) hit
 rw [hg] at e1;cases e1
 simp only at hfit
 have h1:=h S gb w g cap us T vs hg hvs e3 hn hcap (by omega) e0 e4 e5
 unfold Does
 have hcall:(callFunc f (Value.slice (some ⟨g,0,none⟩) n cap::vs).toArray).run P w= .ok (.enter f (Value.slice (some ⟨g,0,none⟩) n cap::vs).toArray) w:=by
  obtain ⟨c,hc⟩:=Option.isSome_iff_exists.1 hbd
  have hn: ¬fn.name= "runtime.NumGoroutine":=by simpa using hname
  simp [callFunc,hf,hc,hn]
 rw [hcall]
 have hglt:g<w.heap.size:=(Array.getElem?_eq_some_iff.1 e3).1
 refine h1.mono fun e w' ⟨v,us',he,hr,q1,q2,q3,q4,q5,q6,q7,q8,q9⟩=>⟨v,he,S,gb,⟨q7,q8,q9,q6,?_⟩,fun _ _ _ _=>rfl,Mem.le.refl _,fun _ _=>rfl,fun i hi hne=>absurd (hnw i hi) hne,hr,⟨?_,?_,?_,?_,?_,?_,?_,?_⟩,?_,?_⟩
 ·intro k hk hm
  exact q5 k hk (fun e=>hm (.inl ⟨b,_,by simp [lkB],by rw [hg,e]⟩))
 ·intro g1 o u hu
  have hne:g1≠g:=fun e=>by subst e;rw [e6] at hu;cases hu
  have h2:=hhr.agree g1 o u hu
  have hlt:=World.block_lt_of_cell? w _ h2
  rw [World.cell?_of_block (w:=w) (q5 g1 (by simpa using hlt) hne)]
  exact h2
 ·intro d' cs1 hcs1 hi
  simp only [lkB] at hcs1
  split at hcs1
  ·rename_i e;subst e;cases hcs1
   exact ⟨g,us',T,by rw [q2];exact hg,q1,by rw [hlen,q2];exact e0,by rw [hlen];exact q4,q3,e6⟩
  ·cases hcs1
 ·intro d' cs1 hcs1 hi
  simp only [lkB] at hcs1
  split at hcs1
  ·rename_i e;subst e;rw [hit] at hi;cases hi
  ·cases hcs1
 ·intro d1 d2 g1 z1 z2 i1 i2 _ _
  simp only [lkB] at i1 i2
  split at i1
  ·split at i2
   ·rename_i e1 e2;rw [←e1,←e2]
   ·cases i2
  ·cases i1
 ·intro p k hk;simp [lkP] at hk
 ·intro p q k l b hk;simp [lkP] at hk
 ·intro p k b d z hk;simp [lkP] at hk
 ·intro d off k hk;simp [lkP] at hk
 ·intro i g1 z1 hi hgi
  simp only [lkB] at hi
  split at hi
  ·rename_i e;subst e
   rw [hg] at hgi;cases hgi
   exact .inr (.inl ⟨b,_,by simp [lkB],hg⟩)
  ·cases hi
 ·intro p k g hk;simp [lkP] at hk
def intCells (k:IntKind) (zs:List Int):List AV:=zs.map fun z=> .int k z
theorem intCells_len (k:IntKind) (zs:List Int):(intCells k zs).length=zs.length:=by simp [intCells]
theorem intCells_PR {S:Mem} {gb:Gb} {k:IntKind}: ∀ {zs:List Int} {us:List Value},PRlist S gb (intCells k zs) us↔us=zs.map (Value.int k)
 |[],us=>by simp [intCells,PRlist]
 |z::zs,us=>by
  have e:intCells k (z::zs)= .int k z::intCells k zs:=rfl
  rw [e]
  simp only [PRlist,PR,List.map_cons]
  constructor
  ·rintro ⟨u,us',rfl,rfl,h⟩;rw [intCells_PR.1 h]
  ·rintro rfl;exact ⟨_,_,rfl,rfl,intCells_PR.2 rfl⟩
open Go.Sort in
theorem holds_ints {w:World} {g:Nat} {us:Array Value} {T:TypeId} {k:IntKind} {zs:List Int} (h:w.heap[g]?=some (.cells us T (0,0))) (hp:us.toList.take zs.length=zs.map (Value.int k)):Holds (Value.int k) w g 0 zs.toArray:=by
 intro j hj
 have hj':j<zs.length:=by simpa using hj
 have h1:us[j]?=some (Value.int k zs[j]):=by
  have h2:(us.toList.take zs.length)[j]?=us[j]?:=by rw [List.getElem?_take,if_pos hj'];simp
  rw [←h2,hp];simp [hj']
 refine ⟨?_,?_⟩
 ·rw [Nat.zero_add,cell_of_row w g j us T _ h,h1]
  simp [hj']
 ·simp [World.frozen?,h]
open Go.Sort in
theorem put_ints {w:World} {g:Nat} {us:Array Value} {T:TypeId} {k:IntKind} {zs:List Int} (q:Nat) (os:Array Obj) (h:w.heap[g]?=some (.cells us T (0,0))) (hl:zs.length≤us.size) (ho: ∀u∈us.toList,u.oneCell'=true):
  ∃us',(grow (putRow (Value.int k) (Go.Sort.ahead w q) g 0 zs.toArray) os).heap[g]?=some (.cells us' T (0,0))∧us'.size=us.size∧(∀u∈us'.toList,u.oneCell'=true)∧us'.toList.take zs.length=zs.map (Value.int k)∧
   (∀j,j<w.heap.size→j≠g→(grow (putRow (Value.int k) (Go.Sort.ahead w q) g 0 zs.toArray) os).heap[j]?=w.heap[j]?)∧w.heap.size≤(grow (putRow (Value.int k) (Go.Sort.ahead w q) g 0 zs.toArray) os).heap.size:=by
 have hglt:g<w.heap.size:=(Array.getElem?_eq_some_iff.1 h).1
 have hheap:(putRow (Value.int k) (Go.Sort.ahead w q) g 0 zs.toArray).heap=w.heap.modify g (onCells (putCells (Value.int k) 0 zs.toArray)):=rfl
 have hsz:(putRow (Value.int k) (Go.Sort.ahead w q) g 0 zs.toArray).heap.size=w.heap.size:=by rw [hheap];simp
 have hg: ∀j,j<w.heap.size→(grow (putRow (Value.int k) (Go.Sort.ahead w q) g 0 zs.toArray) os).heap[j]?=(w.heap.modify g (onCells (putCells (Value.int k) 0 zs.toArray)))[j]?:=by
  intro j hj
  show ((putRow (Value.int k) (Go.Sort.ahead w q) g 0 zs.toArray).heap++os)[j]?=_
  rw [Array.getElem?_append_left (by rw [hsz];exact hj),hheap]
 refine ⟨putCells (Value.int k) 0 zs.toArray us,?_,by simp [putCells],?_,?_,?_,?_⟩
 ·rw [hg g hglt,Array.getElem?_modify,if_pos rfl,h];rfl
 ·intro u hu
  obtain ⟨j,hj⟩:=List.getElem?_of_mem hu
  simp only [putCells,Array.getElem?_toList,Array.getElem?_mapIdx,Option.map_eq_some_iff] at hj
  obtain ⟨x,hx,rfl⟩:=hj
  split
  ·rfl
  ·exact ho x (by simpa using Array.mem_of_getElem? hx)
 ·apply List.ext_getElem?
  intro j
  rw [List.getElem?_take]
  split
  ·rename_i hj
   simp only [putCells,Array.getElem?_toList,Array.getElem?_mapIdx]
   have:us[j]?=some us[j]:=Array.getElem?_eq_getElem (by omega)
   rw [this]
   simp [hj]
  ·rename_i hj
   rw [List.getElem?_eq_none (by simpa using Nat.le_of_not_lt hj)]
 ·intro j hj hne
  rw [hg j hj,Array.getElem?_modify,if_neg (Ne.symm hne)]
 ·show _≤((putRow (Value.int k) (Go.Sort.ahead w q) g 0 zs.toArray).heap++os).size
  rw [Array.size_append,hsz];omega
end Go.Ai
