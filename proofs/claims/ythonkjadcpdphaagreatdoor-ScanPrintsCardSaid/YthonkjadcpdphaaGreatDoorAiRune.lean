/- AiRune: a part of the proof: the rules, or what functions compute. Conditions: as each theorem says. -/
import Derived.Test.YthonkjadcpdphaaGreatDoorAiBuild
import Derived.Shelf.Strings.BuilderK
import Derived.Lib.RuneBytes
set_option linter.unusedSimpArgs false
set_option linter.unusedVariables false
namespace Go.Ai
open Go.RowKit Go.Shelf Go.Proofs
variable {P:Program} {ρ:Ren}
theorem run_bld_appN (w:World) (t ty e:TypeId) (i:TypeInfo) (ht:P.underlying t=some (.slice e)) (hi:P.info? e=some i) (hz:i.zero=some (.int .u8 0)) (hsize:i.size=1) (hby:i.bytes=1)
  (v:Value) (n:Nat) (xs:List Value) (hown:w.ownsRow 0 e 1 v n xs) (ad:Addr) (m c:Nat) (us:List Value) (hm:us.length=m) (hm0:0<m) (hm4:m≤4) (hn: ∀j x,us[j]?=some x→w.cell? (ad.add j)=some x) (h1: ∀x∈us,x.oneCell'=true) (hb:n+m≤140737488355328):
  ∃v' w',(Builtin.append_ #[t,t] ty #[v,.slice (some ad) m c]).run P w= .ok v' w'∧w'.ownsRow 0 e 1 v' (n+m) (xs++us)∧w.grownBy w' v.ownBlock∧(v'.ownBlock=v.ownBlock∨(v'.ownBlock=some w.heap.size∧w.grownBy w' none)):=by
 have hl:us.length=m*i.size:=by rw [hsize,hm,Nat.mul_one]
 obtain ⟨v',w',hr,h2,h3,h4⟩:=run_append_own (P:=P) w 0 t ty e i (.int .u8 0) 1 1 ht hi hz hsize hby rfl (by decide) v n xs hown ad m c us (by rw [hm,Nat.mul_one]) hn h1 (by first|omega|(unfold maxLen;omega)) (by omega) (Nat.zero_le _)
 refine ⟨v',w',hr,h2,h3,?_⟩
 rcases hown.2 with ⟨rfl,rfl⟩|⟨g,cap,cur,rfl,hbg,hg,hnc,hcm,hcs,htake⟩
 ·have hr2:=run_append_nil (P:=P) w t ty e i (.int .u8 0) ht hi hz ad m c us hl hn hm0 (by first|omega|(unfold maxLen;omega)) (by rw [hby];omega)
  rw [hr2] at hr;cases hr
  exact .inr ⟨rfl,⟨rfl,rfl,rfl,by simp,fun k hk _=>Lib.alloc_old w.drew _ k hk⟩⟩
 ·by_cases hroom:n+m≤cap
  ·have hcs':cur.size=cap:=by simpa using hcs
   have hr2:=run_append_room (P:=P) w t ty e i ht hi g n cap cur hg ad m c us hl hn h1 hroom (by rw [hsize];simp;omega)
   rw [hr2] at hr;cases hr
   exact .inl rfl
  ·have hxl:xs.length=n:=by simpa using hown.1
   have holds: ∀j u,xs[j]?=some u→w.cell? ((⟨g,0,none⟩:Addr).add j)=some u:=hown.cells (g:=g) rfl
   have hr2:=run_append_grow (P:=P) w t ty e i (.int .u8 0) ht hi hz ⟨g,0,none⟩ n cap xs (by rw [hsize];simpa using hxl) holds ad m c us hl hn (by omega) (by first|omega|(unfold maxLen;omega)) (by rw [hby];exact growslice_fits (by omega) (by omega))
   rw [hr2] at hr;cases hr
   exact .inr ⟨rfl,⟨rfl,rfl,rfl,by simp,fun k hk _=>Lib.alloc_old w.drew _ k hk⟩⟩
theorem wpList_bld_appN {w:World} {rest:List Oper} {o:Oper} {a:Act} {ops:Array Oper} {Q:Exit→Act→World→Prop} (hgd:o.guard=none) (sl x:Operand) (t:TypeId)
  (ho:o.op= .call {callee:= .builtin .append,args:= #[sl,x],argTypes:= #[t,t]})
  (e:TypeId) (i:TypeInfo) (ht:P.underlying t=some (.slice e)) (hi:P.info? e=some i) (hz:i.zero=some (.int .u8 0)) (hsize:i.size=1) (hby:i.bytes=1)
  (v:Value) (n:Nat) (xs:List Value) (hs:a.eval sl=v) (hown:w.ownsRow 0 e 1 v n xs) (ad:Addr) (m c:Nat) (us:List Value) (hx:a.eval x= .slice (some ad) m c) (hm:us.length=m) (hm0:0<m) (hm4:m≤4) (hn: ∀j x,us[j]?=some x→w.cell? (ad.add j)=some x) (h1: ∀x∈us,x.oneCell'=true) (hb:n+m≤140737488355328)
  (h: ∀v' w',w'.ownsRow 0 e 1 v' (n+m) (xs++us)→w.grownBy w' v.ownBlock→(v'.ownBlock=v.ownBlock∨(v'.ownBlock=some w.heap.size∧w.grownBy w' none))→wpList P ops Q rest (a.put o.dst v') w'):wpList P ops Q (o::rest) a w:=by
 refine wpList_plain hgd fun K hK=>?_
 obtain ⟨v',w',hr,h2,h3,h4⟩:=run_bld_appN (P:=P) w t o.type e i ht hi hz hsize hby v n xs hown ad m c us hm hm0 hm4 hn h1 hb
 unfold Oper.wp execOp
 simp only [ho,resolve,invoke,builtin,Sem.run_bind,Sem.run_pure,Result.andThen_ok,List.map_toArray,List.map_cons,List.map_nil,hs,hx,hr]
 exact hK _ _ (h v' w' h2 h3 h4)
def RunePost (w:World) (v:Value) (E:TypeId) (n:Nat) (bs:List Value) (o:Obj) (v':Value) (w':World):Prop:=
 w'.ownsRow 0 E 1 v' n bs∧(w.alloc o).grownBy w' v.ownBlock∧(v'.ownBlock=v.ownBlock∨((∃g,v'.ownBlock=some g∧w.heap.size≤g)∧(w.alloc o).grownBy w' none))
def runeU (r:Int):Prop:=(128≤r∧r<55296)∨(57343<r∧r≤1114111)
set_option maxHeartbeats 4000000 in
set_option maxRecDepth 100000 in
theorem app_rune2 (L:Lays.n278 P ρ) (hbyte:(P.info? (ρ.t 5)).map (fun i=>(i.zero,i.size,i.bytes))=some (some (.int .u8 0),1,1)) (v:Value) (n:Nat) (xs:List Value) (r:Int) (h0:128≤r) (h1:r≤2047) (w:World) (hown:w.ownsRow 0 (ρ.t 5) 1 v n xs) (hlen:n+4≤140737488355328):
  Calls P (ρ.f 278) #[v,.int .i32 r] w fun e w'=> ∃v' o,e= .returned v'∧RunePost w v (ρ.t 5) (n+2) (xs++[.int .u8 (192+r / 64),.int .u8 (128+r%64)]) o v' w':=by
 obtain ⟨i0,hi,hz0,hz1,hz2⟩:=info_parts hbyte
 have mixed:=L.mixed
 have t4:=L.t4;have a4:=L.a4;have z4:=L.z4;have v4:=L.v4;have u4:=run_underlying L.t4
 have t5:=L.t5;have a5:=L.a5;have z5:=L.z5;have v5:=L.v5;have u5:=run_underlying L.t5
 have t21:=L.t21;have a21:=L.a21;have z21:=L.z21;have v21:=L.v21;have u21:=run_underlying L.t21
 have t37:=L.t37;have a37:=L.a37;have z37:=L.z37;have v37:=L.v37;have u37:=run_underlying L.t37
 have t46:=L.t46;have a46:=L.a46;have z46:=L.z46;have v46:=L.v46;have u46:=run_underlying L.t46
 have t51:=L.t51;have a51:=L.a51;have z51:=L.z51;have v51:=L.v51;have u51:=run_underlying L.t51
 go_enter L.f278,Body.n278_ntmps ρ
 go_wp2_with (at_builtin;refine wpList_bld_appN rfl _ _ (ρ.t 37) rfl (ρ.t 5) i0 L.t37 hi hz0 hz1 hz2 _ _ _ rfl (hown.alloc _) ⟨w.heap.size,0,none⟩ 2 2 [.int .u8 (192+r / 64),.int .u8 (128+r%64)] rfl rfl (by decide) (by decide) ?q1 ?q2 ?q3 ?_)
 case q1=>
  intro j u hj
  match j,hj with
  |0,hj=>simp at hj;subst hj;simp [Addr.add]
  |1,hj=>simp at hj;subst hj;simp [Addr.add]
  |(j+2),hj=>simp at hj
 case q2=>intro u hu;simp at hu;rcases hu with rfl|rfl<;>rfl
 case q3=>omega
 intro v' w2 hown' hgrow hdi
 go_wp2
 go_ret
 exact ⟨_,_,rfl,hown',hgrow,hdi.imp id (fun e=>⟨⟨_,e.1,by simp⟩,e.2⟩)⟩
set_option maxHeartbeats 4000000 in
set_option maxRecDepth 100000 in
theorem app_rune3 (L:Lays.n278 P ρ) (hbyte:(P.info? (ρ.t 5)).map (fun i=>(i.zero,i.size,i.bytes))=some (some (.int .u8 0),1,1)) (v:Value) (n:Nat) (xs:List Value) (r:Int) (h0:2048≤r) (h1:r<55296) (w:World) (hown:w.ownsRow 0 (ρ.t 5) 1 v n xs) (hlen:n+4≤140737488355328):
  Calls P (ρ.f 278) #[v,.int .i32 r] w fun e w'=> ∃v' o,e= .returned v'∧RunePost w v (ρ.t 5) (n+3) (xs++[.int .u8 (224+r / 4096),.int .u8 (128+r / 64%64),.int .u8 (128+r%64)]) o v' w':=by
 obtain ⟨i0,hi,hz0,hz1,hz2⟩:=info_parts hbyte
 have mixed:=L.mixed
 have t4:=L.t4;have a4:=L.a4;have z4:=L.z4;have v4:=L.v4;have u4:=run_underlying L.t4
 have t5:=L.t5;have a5:=L.a5;have z5:=L.z5;have v5:=L.v5;have u5:=run_underlying L.t5
 have t21:=L.t21;have a21:=L.a21;have z21:=L.z21;have v21:=L.v21;have u21:=run_underlying L.t21
 have t37:=L.t37;have a37:=L.a37;have z37:=L.z37;have v37:=L.v37;have u37:=run_underlying L.t37
 have t46:=L.t46;have a46:=L.a46;have z46:=L.z46;have v46:=L.v46;have u46:=run_underlying L.t46
 have t51:=L.t51;have a51:=L.a51;have z51:=L.z51;have v51:=L.v51;have u51:=run_underlying L.t51
 go_enter L.f278,Body.n278_ntmps ρ
 go_wp2_with (at_builtin;refine wpList_bld_appN rfl _ _ (ρ.t 37) rfl (ρ.t 5) i0 L.t37 hi hz0 hz1 hz2 _ _ _ rfl (hown.alloc _) ⟨w.heap.size,0,none⟩ 3 3 [.int .u8 (224+r / 4096),.int .u8 (128+r / 64%64),.int .u8 (128+r%64)] rfl rfl (by decide) (by decide) ?q1 ?q2 ?q3 ?_)
 case q1=>
  intro j u hj
  match j,hj with
  |0,hj=>simp at hj;subst hj;simp [Addr.add]
  |1,hj=>simp at hj;subst hj;simp [Addr.add]
  |2,hj=>simp at hj;subst hj;simp [Addr.add]
  |(j+3),hj=>simp at hj
 case q2=>intro u hu;simp at hu;rcases hu with rfl|rfl|rfl<;>rfl
 case q3=>omega
 intro v' w2 hown' hgrow hdi
 go_wp2
 go_ret
 exact ⟨_,_,rfl,hown',hgrow,hdi.imp id (fun e=>⟨⟨_,e.1,by simp⟩,e.2⟩)⟩
set_option maxHeartbeats 4000000 in
set_option maxRecDepth 100000 in
theorem app_rune3h (L:Lays.n278 P ρ) (hbyte:(P.info? (ρ.t 5)).map (fun i=>(i.zero,i.size,i.bytes))=some (some (.int .u8 0),1,1)) (v:Value) (n:Nat) (xs:List Value) (r:Int) (h0:57343<r) (h1:r≤65535) (w:World) (hown:w.ownsRow 0 (ρ.t 5) 1 v n xs) (hlen:n+4≤140737488355328):
  Calls P (ρ.f 278) #[v,.int .i32 r] w fun e w'=> ∃v' o,e= .returned v'∧RunePost w v (ρ.t 5) (n+3) (xs++[.int .u8 (224+r / 4096),.int .u8 (128+r / 64%64),.int .u8 (128+r%64)]) o v' w':=by
 obtain ⟨i0,hi,hz0,hz1,hz2⟩:=info_parts hbyte
 have mixed:=L.mixed
 have t4:=L.t4;have a4:=L.a4;have z4:=L.z4;have v4:=L.v4;have u4:=run_underlying L.t4
 have t5:=L.t5;have a5:=L.a5;have z5:=L.z5;have v5:=L.v5;have u5:=run_underlying L.t5
 have t21:=L.t21;have a21:=L.a21;have z21:=L.z21;have v21:=L.v21;have u21:=run_underlying L.t21
 have t37:=L.t37;have a37:=L.a37;have z37:=L.z37;have v37:=L.v37;have u37:=run_underlying L.t37
 have t46:=L.t46;have a46:=L.a46;have z46:=L.z46;have v46:=L.v46;have u46:=run_underlying L.t46
 have t51:=L.t51;have a51:=L.a51;have z51:=L.z51;have v51:=L.v51;have u51:=run_underlying L.t51
 go_enter L.f278,Body.n278_ntmps ρ
 go_wp2_with (at_builtin;refine wpList_bld_appN rfl _ _ (ρ.t 37) rfl (ρ.t 5) i0 L.t37 hi hz0 hz1 hz2 _ _ _ rfl (hown.alloc _) ⟨w.heap.size,0,none⟩ 3 3 [.int .u8 (224+r / 4096),.int .u8 (128+r / 64%64),.int .u8 (128+r%64)] rfl rfl (by decide) (by decide) ?q1 ?q2 ?q3 ?_)
 case q1=>
  intro j u hj
  match j,hj with
  |0,hj=>simp at hj;subst hj;simp [Addr.add]
  |1,hj=>simp at hj;subst hj;simp [Addr.add]
  |2,hj=>simp at hj;subst hj;simp [Addr.add]
  |(j+3),hj=>simp at hj
 case q2=>intro u hu;simp at hu;rcases hu with rfl|rfl|rfl<;>rfl
 case q3=>omega
 intro v' w2 hown' hgrow hdi
 go_wp2
 go_ret
 exact ⟨_,_,rfl,hown',hgrow,hdi.imp id (fun e=>⟨⟨_,e.1,by simp⟩,e.2⟩)⟩
set_option maxHeartbeats 4000000 in
set_option maxRecDepth 100000 in
theorem app_rune4 (L:Lays.n278 P ρ) (hbyte:(P.info? (ρ.t 5)).map (fun i=>(i.zero,i.size,i.bytes))=some (some (.int .u8 0),1,1)) (v:Value) (n:Nat) (xs:List Value) (r:Int) (h0:65536≤r) (h1:r≤1114111) (w:World) (hown:w.ownsRow 0 (ρ.t 5) 1 v n xs) (hlen:n+4≤140737488355328):
  Calls P (ρ.f 278) #[v,.int .i32 r] w fun e w'=> ∃v' o,e= .returned v'∧RunePost w v (ρ.t 5) (n+4) (xs++[.int .u8 (240+r / 262144),.int .u8 (128+r / 4096%64),.int .u8 (128+r / 64%64),.int .u8 (128+r%64)]) o v' w':=by
 obtain ⟨i0,hi,hz0,hz1,hz2⟩:=info_parts hbyte
 have mixed:=L.mixed
 have t4:=L.t4;have a4:=L.a4;have z4:=L.z4;have v4:=L.v4;have u4:=run_underlying L.t4
 have t5:=L.t5;have a5:=L.a5;have z5:=L.z5;have v5:=L.v5;have u5:=run_underlying L.t5
 have t21:=L.t21;have a21:=L.a21;have z21:=L.z21;have v21:=L.v21;have u21:=run_underlying L.t21
 have t37:=L.t37;have a37:=L.a37;have z37:=L.z37;have v37:=L.v37;have u37:=run_underlying L.t37
 have t46:=L.t46;have a46:=L.a46;have z46:=L.z46;have v46:=L.v46;have u46:=run_underlying L.t46
 have t51:=L.t51;have a51:=L.a51;have z51:=L.z51;have v51:=L.v51;have u51:=run_underlying L.t51
 go_enter L.f278,Body.n278_ntmps ρ
 go_wp2_with (at_builtin;refine wpList_bld_appN rfl _ _ (ρ.t 37) rfl (ρ.t 5) i0 L.t37 hi hz0 hz1 hz2 _ _ _ rfl (hown.alloc _) ⟨w.heap.size,0,none⟩ 4 4 [.int .u8 (240+r / 262144),.int .u8 (128+r / 4096%64),.int .u8 (128+r / 64%64),.int .u8 (128+r%64)] rfl rfl (by decide) (by decide) ?q1 ?q2 ?q3 ?_)
 case q1=>
  intro j u hj
  match j,hj with
  |0,hj=>simp at hj;subst hj;simp [Addr.add]
  |1,hj=>simp at hj;subst hj;simp [Addr.add]
  |2,hj=>simp at hj;subst hj;simp [Addr.add]
  |3,hj=>simp at hj;subst hj;simp [Addr.add]
  |(j+4),hj=>simp at hj
 case q2=>intro u hu;simp at hu;rcases hu with rfl|rfl|rfl|rfl<;>rfl
 case q3=>omega
 intro v' w2 hown' hgrow hdi
 go_wp2
 go_ret
 exact ⟨_,_,rfl,hown',hgrow,hdi.imp id (fun e=>⟨⟨_,e.1,by simp⟩,e.2⟩)⟩
theorem app_rune (L:Lays.n278 P ρ) (hbyte:(P.info? (ρ.t 5)).map (fun i=>(i.zero,i.size,i.bytes))=some (some (.int .u8 0),1,1)) (v:Value) (n:Nat) (xs:List Value) (r:Int) (hr:runeU r) (w:World) (hown:w.ownsRow 0 (ρ.t 5) 1 v n xs) (hlen:n+4≤140737488355328):
  Calls P (ρ.f 278) #[v,.int .i32 r] w fun e w'=> ∃v' o,e= .returned v'∧RunePost w v (ρ.t 5) (n+(Lib.runeCells r).length) (xs++Lib.runeCells r) o v' w':=by
 by_cases c2:r≤2047
 ·have h0:128≤r:=by rcases hr with h|h<;>omega
  have ec:Lib.runeCells r=[.int .u8 (192+r / 64),.int .u8 (128+r%64)]:=by unfold Lib.runeCells;rw [Lib.encodeRuneZ_two h0 c2];rfl
  rw [ec]
  exact app_rune2 L hbyte v n xs r h0 c2 w hown hlen
 ·by_cases c3:r≤65535
  ·have ec:Lib.runeCells r=[.int .u8 (224+r / 4096),.int .u8 (128+r / 64%64),.int .u8 (128+r%64)]:=by unfold Lib.runeCells;rw [Lib.encodeRuneZ_three (by rcases hr with h|h<;>omega)];rfl
   rw [ec]
   by_cases c4:r<55296
   ·exact app_rune3 L hbyte v n xs r (by omega) c4 w hown hlen
   ·exact app_rune3h L hbyte v n xs r (by rcases hr with h|h<;>omega) c3 w hown hlen
  ·have h1:r≤1114111:=by rcases hr with h|h<;>omega
   have ec:Lib.runeCells r=[.int .u8 (240+r / 262144),.int .u8 (128+r / 4096%64),.int .u8 (128+r / 64%64),.int .u8 (128+r%64)]:=by unfold Lib.runeCells;rw [Lib.encodeRuneZ_four (by omega) h1];rfl
   rw [ec]
   exact app_rune4 L hbyte v n xs r (by omega) h1 w hown hlen
def runeV (r:Int):Prop:=(0≤r∧r<55296)∨(57343<r∧r≤1114111)
set_option maxHeartbeats 4000000 in
set_option maxRecDepth 100000 in
theorem app_one (L:Lays.n242 P ρ) (hbyte:(P.info? (ρ.t 5)).map (fun i=>(i.zero,i.size,i.bytes))=some (some (.int .u8 0),1,1)) (v:Value) (n:Nat) (xs:List Value) (r:Int) (h0:0≤r) (h1:r≤127) (w:World) (hown:w.ownsRow 0 (ρ.t 5) 1 v n xs) (hlen:n+4≤140737488355328):
  Calls P (ρ.f 242) #[v,.int .i32 r] w fun e w'=> ∃v' o,e= .returned v'∧RunePost w v (ρ.t 5) (n+1) (xs++[.int .u8 r]) o v' w':=by
 obtain ⟨i0,hi,hz0,hz1,hz2⟩:=info_parts hbyte
 have mixed:=L.mixed
 have t4:=L.t4;have a4:=L.a4;have z4:=L.z4;have v4:=L.v4;have u4:=run_underlying L.t4
 have t5:=L.t5;have a5:=L.a5;have z5:=L.z5;have v5:=L.v5;have u5:=run_underlying L.t5
 have t21:=L.t21;have a21:=L.a21;have z21:=L.z21;have v21:=L.v21;have u21:=run_underlying L.t21
 have t37:=L.t37;have a37:=L.a37;have z37:=L.z37;have v37:=L.v37;have u37:=run_underlying L.t37
 have t46:=L.t46;have a46:=L.a46;have z46:=L.z46;have v46:=L.v46;have u46:=run_underlying L.t46
 have t51:=L.t51;have a51:=L.a51;have z51:=L.z51;have v51:=L.v51;have u51:=run_underlying L.t51
 go_enter L.f242,Body.n242_ntmps ρ
 go_wp2_with (at_builtin;refine wpList_bld_appN rfl _ _ (ρ.t 37) rfl (ρ.t 5) i0 L.t37 hi hz0 hz1 hz2 _ _ _ rfl (hown.alloc _) ⟨w.heap.size,0,none⟩ 1 1 [.int .u8 r] rfl rfl (by decide) (by decide) ?q1 ?q2 ?q3 ?_)
 all_goals first
  |(intro v' w2 hown' hgrow hdi;go_wp2;go_ret;exact ⟨_,_,rfl,hown',hgrow,hdi.imp id (fun e=>⟨⟨_,e.1,by simp⟩,e.2⟩)⟩)
  |omega
  |(intro u hu;simp at hu;subst hu;rfl)
  |(intro j u hj;cases j with |zero=>(simp at hj;subst hj;simp [Addr.add])|succ j=>simp at hj)
set_option maxHeartbeats 4000000 in
set_option maxRecDepth 100000 in
theorem app_any (L:Lays.n242 P ρ) (hbyte:(P.info? (ρ.t 5)).map (fun i=>(i.zero,i.size,i.bytes))=some (some (.int .u8 0),1,1)) (v:Value) (n:Nat) (xs:List Value) (r:Int) (hr:runeV r) (w:World) (hown:w.ownsRow 0 (ρ.t 5) 1 v n xs) (hlen:n+4≤140737488355328):
  Calls P (ρ.f 242) #[v,.int .i32 r] w fun e w'=> ∃v' o,e= .returned v'∧RunePost w v (ρ.t 5) (n+(Lib.runeCells r).length) (xs++Lib.runeCells r) o v' w':=by
 by_cases c:r≤127
 ·have h0:0≤r:=by rcases hr with h|h<;>omega
  rw [show Lib.runeCells r=[.int .u8 r] by simp [Lib.runeCells,Lib.encodeRuneZ_one h0 c]]
  exact app_one L hbyte v n xs r h0 c w hown hlen
 ·have hu:runeU r:=by unfold runeU;rcases hr with h|h<;>omega
  have hna:128≤r:=by omega
  have hr1:r≤2147483647:=by rcases hr with h|h<;>omega
  have hr0: -2147483648≤r:=by omega
  clear c hr
  have mixed:=L.mixed
  have t4:=L.t4;have a4:=L.a4;have z4:=L.z4;have v4:=L.v4;have u4:=run_underlying L.t4
  have t5:=L.t5;have a5:=L.a5;have z5:=L.z5;have v5:=L.v5;have u5:=run_underlying L.t5
  have t21:=L.t21;have a21:=L.a21;have z21:=L.z21;have v21:=L.v21;have u21:=run_underlying L.t21
  have t37:=L.t37;have a37:=L.a37;have z37:=L.z37;have v37:=L.v37;have u37:=run_underlying L.t37
  have t46:=L.t46;have a46:=L.a46;have z46:=L.z46;have v46:=L.v46;have u46:=run_underlying L.t46
  have t51:=L.t51;have a51:=L.a51;have z51:=L.z51;have v51:=L.v51;have u51:=run_underlying L.t51
  have e278: ∀args w,(callFunc (ρ.f 278) args).run P w= .ok (.enter (ρ.f 278) args) w:=enters_of L.f278 (by kernel_rfl) rfl
  go_enter L.f242,Body.n242_ntmps ρ
  go_wp2_with (go_at_fn (ρ.f 278);refine (app_rune {L with} hbyte v n xs r hu _ hown hlen).mono ?_)
  rintro e w1 ⟨v',o,rfl,h1⟩
  go_wp2
  go_ret
  exact ⟨_,_,rfl,h1⟩
set_option maxHeartbeats 4000000 in
set_option maxRecDepth 100000 in
theorem bld_rune (L:Lays.n168 P ρ) (X:Builder.Extra P ρ) {b:Nat} {w:World} {p v:Value} {us:Array Value} {T:TypeId} (h:BldAt w b p v us T) (hp:bldP P (ρ.t 72) T us.size b p)
  (bs:List Value) (r:Int) (hr:runeV r) (hown:w.ownsRow 0 (ρ.t 5) 1 v bs.length bs) (hne:v.ownBlock≠some b) (hlen:bs.length+4≤140737488355328):
  Calls P (ρ.f 168) #[.pointer (some ⟨b,0,none⟩),.int .i32 r] w fun e w'=>e= .returned (.tuple #[.int .i64 (Lib.runeCells r).length,.nilIface])∧BldPost w b v us T (ρ.t 5) (bs++Lib.runeCells r) w':=by
 have mixed:=L.mixed
 have t0:=L.t0;have a0:=L.a0;have z0:=L.z0;have v0:=L.v0;have u0:=run_underlying L.t0
 have t3:=L.t3;have a3:=L.a3;have z3:=L.z3;have v3:=L.v3;have u3:=run_underlying L.t3
 have t4:=L.t4;have a4:=L.a4;have z4:=L.z4;have v4:=L.v4;have u4:=run_underlying L.t4
 have t5:=L.t5;have a5:=L.a5;have z5:=L.z5;have v5:=L.v5;have u5:=run_underlying L.t5
 have t9:=L.t9;have a9:=L.a9;have z9:=L.z9;have v9:=L.v9;have u9:=run_underlying L.t9
 have t20:=L.t20;have a20:=L.a20;have z20:=L.z20;have v20:=L.v20;have u20:=run_underlying L.t20
 have t21:=L.t21;have a21:=L.a21;have z21:=L.z21;have v21:=L.v21;have u21:=run_underlying L.t21
 have t37:=L.t37;have a37:=L.a37;have z37:=L.z37;have v37:=L.v37;have u37:=run_underlying L.t37
 have t46:=L.t46;have a46:=L.a46;have z46:=L.z46;have v46:=L.v46;have u46:=run_underlying L.t46
 have t51:=L.t51;have a51:=L.a51;have z51:=L.z51;have v51:=L.v51;have u51:=run_underlying L.t51
 have t70:=L.t70;have a70:=L.a70;have z70:=L.z70;have v70:=L.v70;have u70:=run_underlying L.t70
 have t72:=L.t72;have a72:=L.a72;have z72:=L.z72;have v72:=L.v72;have u72:=run_underlying L.t72
 have t75:=L.t75;have a75:=L.a75;have z75:=L.z75;have v75:=L.v75;have u75:=run_underlying L.t75
 have t164:=L.t164;have a164:=L.a164;have z164:=L.z164;have v164:=L.v164;have u164:=run_underlying L.t164
 have e240: ∀args w,(callFunc (ρ.f 240) args).run P w= .ok (.enter (ρ.f 240) args) w:=enters_of L.f240 (by kernel_rfl) rfl
 have e242: ∀args w,(callFunc (ρ.f 242) args).run P w= .ok (.enter (ρ.f 242) args) w:=enters_of L.f242 (by kernel_rfl) rfl
 obtain ⟨ao,cap,rfl⟩: ∃ao cap,v= .slice ao bs.length cap:=by
  rcases hown.2 with ⟨hv,h0⟩|⟨g,cap,cur,hv,_⟩
  ·exact ⟨none,0,by rw [hv,h0]⟩
  ·exact ⟨_,_,hv⟩
 have hk4:=Lib.runeCells_le r
 go_enter L.f168,Body.n168_ntmps ρ
 go_wp2_with (go_at_fn (ρ.f 240);refine (bld_check {L with} X.toX72 h hp).mono ?_)
 rintro e w1 ⟨rfl,h1,hb1,hsz⟩
 have hs1:w.heap.size≤w1.heap.size:=(hb1 none).size
 have hown1:w1.ownsRow 0 (ρ.t 5) 1 (.slice ao bs.length cap) bs.length bs:=ownsRow_same hown (fun g hg=>(hb1 none).block g (hown.lt g hg).2 (fun e=>hne (by rw [hg,e])) (by simp))
 obtain ⟨c0,c1,f0,f1,sh⟩:=h1.cell
 go_wp2_with (go_at_fn (ρ.f 242);refine (app_any {L with} X.infoByte _ bs.length bs r hr _ hown1 hlen).mono ?_)
 rintro e w2 ⟨v',o,rfl,hown',hgrow,hdi⟩
 have hlt:b<w1.heap.size:=(Array.getElem?_eq_some_iff.1 h1.heap).1
 have hb2:BldAt w2 b (.pointer (some ⟨b,0,none⟩)) (.slice ao bs.length cap) (us.setIfInBounds 0 (.pointer (some ⟨b,0,none⟩))) T:=⟨by rw [hgrow.block b (by simp;omega) (fun e=>hne e.symm),Lib.alloc_old w1 _ b hlt];exact h1.heap,h1.c0,h1.c1⟩
 obtain ⟨d0,d1,g0,g1,sh2⟩:=hb2.cell
 have hneb:v'.ownBlock≠some b:=by
  rcases hdi with e|⟨⟨g,e,e3⟩,_⟩
  ·rw [e];exact hne
  ·rw [e];intro e2;simp at e2;omega
 obtain ⟨ao',n',cap',hv',hn'⟩: ∃ao n' cap,v'= .slice ao n' cap∧n'=bs.length+(Lib.runeCells r).length:=by
  rcases hown'.2 with ⟨hv,h0⟩|⟨g,cap,cur,hv,_⟩
  ·exact ⟨_,_,_,hv,h0.symm⟩
  ·exact ⟨_,_,_,hv,rfl⟩
 subst hv'
 subst hn'
 have hfin:BldPost w b (.slice ao bs.length cap) us T (ρ.t 5) (bs++Lib.runeCells r) (w2.setCell ⟨b,1,none⟩ (.slice ao' (bs.length+(Lib.runeCells r).length) cap')):=by
  refine ⟨_,hb2.set1 _,?_,?_,hneb,?_⟩
  ·refine ownsRow_same (w:=w2) (by simpa using hown') (fun g hg=>?_)
   have:g<w2.heap.size:=(hown'.lt g hg).2
   exact (setCell_two w2 b 1 _ none).block g this (fun e=>hneb (by rw [hg,e])) (by simp)
  ·rcases hdi with e|⟨⟨g,e,e3⟩,e2⟩
   ·exact .inl e
   ·exact .inr ⟨⟨g,e,by omega⟩,((hb1 _).trans (Two.trans (b:=w1.alloc _) ⟨by simp,rfl,rfl,rfl,fun k hk _ _=>Lib.alloc_old w1 _ k hk⟩ (Two.grown e2))).trans (setCell_two _ _ _ _ _)⟩
  ·refine ((hb1 _).trans (Two.trans (b:=w1.alloc _) ⟨by simp,rfl,rfl,rfl,fun k hk _ _=>Lib.alloc_old w1 _ k hk⟩ (Two.grown hgrow))).trans (setCell_two _ _ _ _ _)
 have HF:=hidA hfin
 clear hfin hown' hgrow hdi hneb
 go_wp2
 go_ret2
 refine ⟨?_,HF.out⟩
 have e:((bs.length:Int)+((Lib.runeCells r).length:Int) - (bs.length:Int))=((Lib.runeCells r).length:Int):=by omega
 simp [e]
theorem wr_shelf {GL:List (Nat×List Value)} (L:Lays.n168 P ρ) (X:Builder.Extra P ρ) (hname:((Body.n168 ρ).name== "runtime.NumGoroutine")=false) (hbd:(Body.n168 ρ).body.isSome=true) {d:Nat} {b:Id} (hit:b.isIt=false) (hnwb:b.isNw d=false)
  {c0:AV} {T n:Nat} (hc0:(c0= .nilT b T n∧bldAt P (ρ.t 72) T n)∨c0= .ptr b 0) {rest:List AV} (l bs:List UInt8) (r:Int) (hr:runeV r) (hb:Lib.byteCells bs=Lib.runeCells r) (hl:l.length+4≤140737488355328):
  SpH P GL (ρ.f 168) d ⟨[.ptr b 0,.int .i32 r],[(b,c0:: .sl (byteRows l)::rest)],[(.b b 1,bk (ρ.t 5))]⟩ ⟨.tup [.int .i64 bs.length,.undef],[(b,.ptr b 0:: .sl (byteRows (l++bs))::rest)],[(.b b 1,bk (ρ.t 5))]⟩:=by
 have hbl:bs.length=(Lib.runeCells r).length:=by rw [←hb,Lib.byteCells_length]
 refine bld_wr_spec L.f168 hname hbd hit hnwb hc0 (y:= .int .i32 r) (rv:= .tuple #[.int .i64 bs.length,.nilIface]) (fun S gb u h=>by simpa [PR] using h) (fun S gb=>by simp only [PR,PRlist];exact ⟨_,rfl,_,_,rfl,rfl,_,_,rfl,trivial,rfl⟩) l bs ?_
 intro w g p v us T' hB hP hrow hne
 have hlb:(Lib.byteCells l).length=l.length:=Lib.byteCells_length l
 have:=bld_rune L X hB hP (Lib.byteCells l) r hr (by rw [hlb];exact hrow) hne (by rw [hlb];exact hl)
 rw [←hb,libCells_app,Lib.byteCells_length] at this
 exact this
end Go.Ai
