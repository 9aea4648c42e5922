/- AiMap: a part of the proof: the rules, or what functions compute. Conditions: as each theorem says. -/
import Derived.Test.YtpaipepdakekbaaGreatDoorAiOps
import Derived.MapKept
set_option linter.unusedSimpArgs false
set_option linter.unusedVariables false
namespace Go.Ai
open Go.RowKit
variable {P:Program} {F:Fr} {S:Mem} {gb:Gb} {σ:St} {a:Act} {w:World}
def ents (es:List (MK×MK)) (i:Nat):List MapEntry:=(es.zipIdx i).map fun p=>(⟨p.1.1.val,p.1.2.val,p.2⟩:MapEntry)
theorem mapEnts_eq (es:List (MK×MK)):mapEnts es=(ents es 0).toArray:=rfl
theorem ents_get (es:List (MK×MK)) (i j:Nat):(ents es i)[j]?=(es[j]?).map fun p=>(⟨p.1.val,p.2.val,i+j⟩:MapEntry):=by
 simp only [ents,List.getElem?_map,List.getElem?_zipIdx,Option.map_map]
 rfl
def fkD:FK→TypeDesc→Bool
 | .s,.string=>true
 | .i,.int _=>true
 |_,_=>false
theorem fkT_sound {q:FK} {t:TypeId} (h:fkT P q t=true): ∃d,P.underlying t=some d∧fkD q d=true:=by
 unfold fkT at h
 split at h
 ·rename_i e;exact ⟨_,e,rfl⟩
 ·rename_i e;exact ⟨_,e,rfl⟩
 ·cases h
theorem mkk_PR {q:FK} {v:AV} {k:MK} {u:Value} (h:v.mkk q=some k) (hp:PR S gb v u):u=k.val:=by
 unfold AV.mkk at h
 split at h
 ·cases h;simpa only [PR,MK.val] using hp
 ·cases h;simpa only [PR,MK.val] using hp
 ·cases h
theorem mk_PR {v:AV} {k:MK} {u:Value} (h:v.mk=some k) (hp:PR S gb v u):u=k.val:=by
 unfold AV.mk at h
 split at h
 ·cases h;simpa only [PR,MK.val] using hp
 ·cases h;simpa only [PR,MK.val] using hp
 ·cases h
theorem av_PR (k:MK):PR S gb k.av k.val:=by cases k<;>simp only [MK.av,MK.val,PR]
theorem av_PR' {k:MK} {u:Value} (h:PR S gb k.av u):u=k.val:=by cases k<;>simpa only [MK.av,MK.val,PR] using h
theorem bytes_mk_beq (a b:List UInt8):((⟨a.toArray⟩:ByteArray)==⟨b.toArray⟩)=(a==b):=by
 rw [Bool.eq_iff_iff,MapKept.bytes_beq]
 constructor
 ·intro h
  have:=congrArg (fun x:ByteArray=>x.data.toList) h
  simpa using this
 ·intro h
  have:a=b:=by simpa using h
  rw [this]
theorem same_sound {q:FK} {d:TypeDesc} {v:AV} {k k':MK} {r:Bool} (hd:fkD q d=true) (hk:v.mkk q=some k) (h:k.same k'=some r):Instr.sameNow d k.val k'.val=some r:=by
 unfold AV.mkk at hk
 split at hk
 ·cases hk
  cases d<;>simp [fkD] at hd
  cases k' with
  |s b=>simp only [MK.same,Option.some.injEq] at h;simp only [MK.val,Instr.sameNow,bytes_mk_beq,h]
  |i l n=>simp [MK.same] at h
 ·cases hk
  cases d<;>simp [fkD] at hd
  cases k' with
  |s b=>simp [MK.same] at h
  |i l n=>simpa only [MK.same,MK.val,Instr.sameNow] using h
 ·cases hk
theorem find_sound {q:FK} {d:TypeDesc} {v:AV} {k:MK} (hd:fkD q d=true) (hk:v.mkk q=some k): ∀(es:List (MK×MK)) (i:Nat) {r:Option (Nat×MK)},mfind k es i=some r→
  Instr.findNow d k.val (ents es i) i=some (r.map fun p=>(p.1,p.2.val))∧ ∀p,r=some p→ ∃e,es[p.1 - i]?=some e∧k.same e.1=some true∧e.2=p.2∧i≤p.1
 |[],i,r,h=>by
  simp only [mfind,Option.some.injEq] at h;subst h
  exact ⟨rfl,by simp⟩
 |e::es,i,r,h=>by
  obtain ⟨k',v'⟩:=e
  have he:ents ((k',v')::es) i=⟨k'.val,v'.val,i⟩::ents es (i+1):=rfl
  simp only [mfind] at h
  rw [he]
  simp only [Instr.findNow]
  split at h
  ·rename_i hs
   cases h
   rw [same_sound hd hk hs]
   exact ⟨rfl,fun p hp=>by cases hp;exact ⟨(k',v'),by simp,hs,rfl,Nat.le_refl _⟩⟩
  ·rename_i hs
   rw [same_sound hd hk hs]
   obtain ⟨h1,h2⟩:=find_sound hd hk es (i+1) h
   refine ⟨h1,fun p hp=>?_⟩
   obtain ⟨e,e1,e2,e3,e4⟩:=h2 p hp
   refine ⟨e,?_,e2,e3,by omega⟩
   rw [show p.1 - i=(p.1 - (i+1))+1 by omega]
   simpa using e1
  ·cases h
theorem same_val {k k':MK} (h:k.same k'=some true):k'=k:=by
 cases k<;>cases k'<;>simp [MK.same] at h
 ·rw [h]
 ·rw [h.1,h.2]
theorem run_checkKey' {q:FK} {kt:TypeId} {d:TypeDesc} (hd:P.underlying kt=some d) (hq:fkD q d=true) (v:Value) (e:Bool) (n:Nat):(Instr.checkKey e (n+1) kt v).run P w= .ok () w:=by
 unfold Instr.checkKey
 simp only [Sem.run_bind,run_underlying hd,Result.andThen]
 cases d<;>simp_all [fkD]
theorem sameBits_val (k:MK) (n:Nat):Instr.sameBits n k.val k.val=true:=by
 cases k<;>simp [MK.val,Instr.sameBits,MapKept.bytes_beq]
theorem run_keyThatStays' (k:MK):(Instr.keyThatStays k.val k.val).run P w= .ok k.val w:=by
 simp [Instr.keyThatStays,sameBits_val]
theorem mkZ_sound {z:MK} {t:TypeId} (h:mkZ P z t=true):(zeroValue t).run P w= .ok z.val w:=by
 unfold mkZ at h
 split at h
 ·rename_i i hi
  split at h
  ·rename_i v hv
   have:=cst_sound (S:=fun _ _=>none) (gb:=gb0) _ _ h
   have e:=av_PR' this
   simp [zeroValue,typeInfo,hi,hv,e]
  ·cases h
 ·cases h
theorem ents_push (es:List (MK×MK)) (k v:MK):(mapEnts es).push ⟨k.val,v.val,es.length⟩=mapEnts (es++[(k,v)]):=by
 rw [mapEnts_eq,mapEnts_eq]
 apply Array.ext'
 simp [ents,List.zipIdx_append]
theorem ents_modify (es:List (MK×MK)) (i:Nat) (v:MK):(mapEnts es).modify i (fun e=>{e with val:=v.val})=mapEnts (mset es i v):=by
 rw [mapEnts_eq,mapEnts_eq]
 apply Array.ext'
 apply List.ext_getElem?
 intro j
 simp only [Array.toList_modify,List.getElem?_modify,ents_get,mset]
 by_cases h:i=j
 ·subst h
  simp only [if_true]
  cases es[i]?<;>rfl
 ·simp only [if_neg h]
  cases es[j]?<;>rfl
theorem ents_modifyKey (es:List (MK×MK)) (i:Nat) (k v:MK) (h: ∀e,es[i]?=some e→e.1=k):(mapEnts es).modify i (fun e=>{e with key:=k.val,val:=v.val})=mapEnts (mset es i v):=by
 rw [mapEnts_eq,mapEnts_eq]
 apply Array.ext'
 apply List.ext_getElem?
 intro j
 simp only [Array.toList_modify,List.getElem?_modify,ents_get,mset]
 by_cases hj:i=j
 ·subst hj
  simp only [if_true]
  cases he:es[i]? with
  |none=>rfl
  |some e=>simp only [Option.map_some,Option.map_eq_map,h e he]
 ·simp only [if_neg hj]
  cases es[j]?<;>rfl
theorem ents_same (es:List (MK×MK)) (i:Nat) (k:MK) (h: ∀e,es[i]?=some e→e.1=k):(mapEnts es).modify i (fun e=>{e with key:=k.val})=mapEnts es:=by
 rw [mapEnts_eq]
 apply Array.ext'
 apply List.ext_getElem?
 intro j
 simp only [Array.toList_modify,List.getElem?_modify,ents_get]
 by_cases hj:i=j
 ·subst hj
  simp only [if_true]
  cases he:es[i]? with
  |none=>rfl
  |some e=>simp only [Option.map_some,Option.map_eq_map,h e he]
 ·simp only [if_neg hj]
  cases es[j]?<;>rfl
theorem ents_findIdx (es:List (MK×MK)) (i:Nat) (h:i<es.length):(mapEnts es).findIdx? (fun e=>(e.born:Int)==(i:Int))=some i:=by
 rw [Array.findIdx?_eq_some_iff_getElem]
 refine ⟨by simpa [mapEnts] using h,?_,fun j hj=>?_⟩
 ·simp [mapEnts]
 ·simp [mapEnts];omega
theorem mapOf_sound (h:Rel F S gb σ a w) {v:AV} {u:Value} {b:Id} {es:List (MK×MK)} (hm:mapOf σ.bx v=some (b,es)) (hp:PR S gb v u):
  ∃g z,gb b=some (g,z)∧u= .map (some g)∧lkB σ.bx b=some [.mpv es]∧b.isIt=true∧w.heap[g]?=some (.map (mapEnts es) es.length)∧ ∀o,S g o=none:=by
 unfold mapOf at hm
 split at hm
 ·rename_i d
  split at hm
  ·rename_i es' he
   cases hm
   simp only [PR] at hp
   obtain ⟨g,z,h1,h2,h3⟩:=hp
   obtain ⟨g',z',ob,e1,e2,e3,e4⟩:=h.hr.its _ _ he h2
   rw [h1] at e1;cases e1
   simp only [itO,Option.some.injEq] at e2;subst e2
   exact ⟨g,z,h1,h3,he,h2,e3,e4⟩
  ·cases hm
 ·cases hm
end Go.Ai
