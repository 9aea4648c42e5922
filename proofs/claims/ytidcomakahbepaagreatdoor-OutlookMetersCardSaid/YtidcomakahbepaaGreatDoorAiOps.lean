/- AiOps: a part of the proof: the rules, or what functions compute. Conditions: as each theorem says. -/
import Derived.Test.YtidcomakahbepaaGreatDoorAiState
namespace Go.Ai
open Go.RowKit

mutual
def cst:AV→Value→Bool
 | .int k n,.int k' n'=>k==k'&&n==n'
 | .bool b,.bool b'=>b==b'
 | .str s,.string b=>b.data.toList==s
 | .nils,.slice none 0 0=>true
 | .nilp,.pointer none=>true
 | .agg cs,.agg us=>us.toList.all (·.oneCell')&&cstL cs us.toList
 |_,_=>false
def cstL:List AV→List Value→Bool
 |[],[]=>true
 |c::r,u::s=>cst c u&&cstL r s
 |_,_=>false
end
mutual
theorem cst_sound {S:Mem} {gb:Gb}: ∀(c:AV) (u:Value),cst c u=true→PR S gb c u
 | .undef,u,_=>by simp [PR]
 | .int k n,u,h=>by
  cases u<;>simp [cst] at h
  obtain ⟨rfl,rfl⟩:=h;simp [PR]
 | .bool b,u,h=>by
  cases u<;>simp [cst] at h
  subst h;simp [PR]
 | .str s,u,h=>by
  cases u<;>simp [cst] at h
  subst h;simp [PR]
 | .nils,u,h=>by
  unfold cst at h
  split at h<;>simp_all [PR]
 | .nilp,u,h=>by
  unfold cst at h
  split at h<;>simp_all [PR]
 | .agg cs,u,h=>by
  cases u<;>simp only [cst,Bool.and_eq_true,Bool.false_eq_true] at h
  rename_i us
  simp only [PR]
  exact ⟨us,rfl,fun u hu=>List.all_eq_true.1 h.1 u hu,cstL_sound cs us.toList h.2⟩
 | .sl _,u,h=>by cases u<;>simp [cst] at h
 | .pin _,u,h=>by cases u<;>simp [cst] at h
 | .ptr _ _,u,h=>by cases u<;>simp [cst] at h
 | .ms _ _ _ _,u,h=>by cases u<;>simp [cst] at h
 | .fn _ _,u,h=>by cases u<;>simp [cst] at h
 | .itr _ _,u,h=>by cases u<;>simp [cst] at h
 | .itp _,u,h=>by cases u<;>simp [cst] at h
 | .mref _,u,h=>by cases u<;>simp [cst] at h
 | .nilT _ _ _,u,h=>by cases u<;>simp [cst] at h
 | .mpv _,u,h=>by cases u<;>simp [cst] at h
 | .tup _,u,h=>by cases u<;>simp [cst] at h
theorem cstL_sound {S:Mem} {gb:Gb}: ∀(c:List AV) (u:List Value),cstL c u=true→PRlist S gb c u
 |[],u,h=>by cases u<;>simp [cstL] at h ⊢ <;>simp [PRlist]
 |c::r,u,h=>by
  cases u with
  |nil=>simp [cstL] at h
  |cons u s=>
   simp [cstL] at h
   exact ⟨u,s,rfl,cst_sound c u h.1,cstL_sound r s h.2⟩
end

def mX (GL:List (Nat×List Value)):X→Operand→Bool
 | .s t,.tmp t'=>t==t'
 | .c v,.const u=>cst v u
 | .c (.fn f []),.func f'=>f==f'
 | .c (.pin cs),.global i=>match GL.lookup i with
  |some us=>cstL cs us
  |none=>false
 |_,_=>false
def mXs (GL:List (Nat×List Value)):List X→List Operand→Bool
 |[],[]=>true
 |x::r,y::s=>mX GL x y&&mXs GL r s
 |_,_=>false

variable {P:Program} {F:Fr} {S:Mem} {gb:Gb} {σ:St} {a:Act} {w:World}
theorem mX_sound (h:Rel F S gb σ a w) {x:X} {y:Operand} (hm:mX F.GL x y=true):PR S gb (σ.v x) (a.eval y):=by
 unfold mX at hm
 split at hm
 ·simp at hm;subst hm;exact h.env _
 ·exact cst_sound _ _ hm
 ·simp at hm;subst hm;simp only [St.v,PR,Act.eval];exact ⟨#[],rfl,by simp [PRlist]⟩
 ·split at hm
  ·rename_i i us hl
   simp only [St.v,PR,Act.eval]
   refine ⟨_,0,rfl,PRcells.of_list (us:=us) (cstL_sound _ _ hm) (fun u hu=>?_) (fun j u hu=>?_)⟩
   ·obtain ⟨j,hj⟩:=List.getElem?_of_mem hu
    exact (h.glo _ _ hl j u hj).2
   ·rw [Nat.zero_add];exact h.le _ _ _ (h.glo _ _ hl j u hu).1
  ·cases hm
 ·cases hm
theorem mXs_sound (h:Rel F S gb σ a w): ∀ {xs:List X} {ys:List Operand},mXs F.GL xs ys=true→PRlist S gb (xs.map σ.v) (ys.map a.eval)
 |[],ys,hm=>by cases ys<;>simp [mXs] at hm ⊢ <;>simp [PRlist]
 |x::r,ys,hm=>by
  cases ys with
  |nil=>simp [mXs] at hm
  |cons y s=>
   simp [mXs] at hm
   exact ⟨_,_,rfl,mX_sound h hm.1,mXs_sound h hm.2⟩

def sz? (P:Program) (t:TypeId):Option Nat:=(P.info? t).map (·.size)
def scal (P:Program) (t:TypeId):Bool:=match P.underlying t with
 |some (.struct _)|some (.array _ _)|none=>false
 |_=>true
def aggT (P:Program) (t:TypeId):Bool:=match P.underlying t with
 |some (.struct _)|some (.array _ _)=>true
 |_=>false
theorem run_sizeOf {t n:Nat} (h:sz? P t=some n):(sizeOf t).run P w= .ok n w:=by
 unfold sz? at h
 cases hq:P.info? t with
 |none=>simp [hq] at h
 |some i=>simp [hq] at h;simp [sizeOf,typeInfo,hq,h]
theorem run_isAgg_s {t:Nat} (h:scal P t=true):(isAgg t).run P w= .ok false w:=by
 unfold scal at h
 cases hq:P.underlying t with
 |none=>simp [hq] at h
 |some d=>unfold isAgg;rw [Sem.run_bind,run_underlying hq w];cases d<;>simp_all
theorem run_isAgg_a {t:Nat} (h:aggT P t=true):(isAgg t).run P w= .ok true w:=by
 unfold aggT at h
 cases hq:P.underlying t with
 |none=>simp [hq] at h
 |some d=>unfold isAgg;rw [Sem.run_bind,run_underlying hq w];cases d<;>simp_all

def fieldsAt (P:Program) (t:TypeId):List (Nat×Nat):=
 match P.underlying t with
 |some (.struct fs)=>fs.toList.map fun f=>(f.offset,(sz? P f.type).getD 0)
 |_=>[]

def eqFs (P:Program) (f:TypeId→Option (List FK)):List Field→Nat→Option (List FK)
 |[],_=>some []
 |fd::r,o=>if fd.name≠ "_"∧fd.offset=o then match f fd.type,eqFs P f r (o+(sz? P fd.type).getD 0) with
   |some ks,some ls=>if sz? P fd.type=some ks.length then some (ks++ls) else none
   |_,_=>none
  else none
def eqK (P:Program):Nat→TypeId→Option (List FK)
 |0,_=>none
 |d+1,t=>match P.underlying t with
  |some .bool=>some [.b]
  |some (.int _)=>some [.i]
  |some .string=>some [.s]
  |some (.struct fs)=>if P.stoodInHeld t=true then none else eqFs P (eqK P d) fs.toList 0
  |some (.array n e)=>match eqK P d e with
   |some [k]=>if scal P e=true∧sz? P e=some 1 then some (List.replicate n k) else none
   |_=>none
  |_=>none

def parts (ps:List (Nat×Operand)) (i:Nat):Option (List Operand):=
 match ps with
 |[]=>some []
 |(j,x)::r=>if j==i then (parts r (i+1)).map (x:: ·) else none

def slotOk (N d:Nat) (dst:Option Tmp):Bool:=dst==some d&&Nat.blt d N

def mBuild (GL:List (Nat×List Value)) (fs:List (Nat×Nat)):List (Nat×Nat×X)→List (Nat×Operand)→Bool
 |[],[]=>true
 |(off,n,x)::r,(i,y)::s=>fs[i]?==some (off,n)&&mX GL x y&&mBuild GL fs r s
 |_,_=>false

def mOpt (GL:List (Nat×List Value)):Option X→Option Operand→Bool
 |none,none=>true
 |some x,some y=>mX GL x y
 |_,_=>false

def fkT (P:Program) (q:FK) (t:TypeId):Bool:=match q,P.underlying t with
 | .s,some .string=>true
 | .i,some (.int _)=>true
 |_,_=>false
def mkZ (P:Program) (z:MK) (t:TypeId):Bool:=match P.info? t with
 |some i=>(match i.zero with |some v=>cst z.av v|none=>false)
 |none=>false
def kOk (sz:Nat):Bool:=!(sz==0)&&Nat.blt sz KB
theorem kOk_iff {sz:Nat}:kOk sz=true↔ ¬sz=0∧sz<KB:=by simp [kOk,Nat.blt_eq]
def mt1 (P:Program) (GL:List (Nat×List Value)) (N:Nat) (o:Oper):AOp→Bool
 | .mv d x=>slotOk N d o.dst&&(match o.op with | .move y| .assign y=>mX GL x y|_=>false)
 | .mo d s=>slotOk N d o.dst&&(match o.op with | .move (.tmp t)| .assign (.tmp t)=>t==s|_=>false)
 | .pk d c x y=>slotOk N d o.dst&&(match o.op with | .pick c' x' y'=>mX GL c c'&&mX GL x x'&&mX GL y y'|_=>false)
 | .bi d op x y=>slotOk N d o.dst&&(match o.op with | .binOp op' _ x' y' _=>op==op'&&mX GL x x'&&mX GL y y'|_=>false)
 | .bb d neg x y=>slotOk N d o.dst&&(match o.op with | .binOp op' t x' y' _=>op'==(if neg then .neq else .eql)&&(match P.underlying t with |some .bool=>true|_=>false)&&mX GL x x'&&mX GL y y'|_=>false)
 | .ea d neg ks x y=>slotOk N d o.dst&&(match o.op with | .binOp op' t x' y' _=>op'==(if neg then .neq else .eql)&&(eqK P 4 t==some ks)&&aggT P t&&!(P.eqGuardType P.depth t)&&mX GL x x'&&mX GL y y'|_=>false)
 | .bq d x=>slotOk N d o.dst&&(match o.op with | .convert s t x'=>(match P.underlying s with |some (.slice e)=>(match P.underlying e with |some (.int .u8)=>sz? P e==some 1|_=>false)|_=>false)&&(match P.underlying t with |some .string=>true|_=>false)&&mX GL x x'|_=>false)
 | .pn d neg x=>slotOk N d o.dst&&(match o.op with | .binOp op' t x' (.const (.pointer none)) _=>op'==(if neg=true then .neq else .eql)&&(match P.underlying t with |some (.pointer _)=>true|_=>false)&&mX GL x x'|_=>false)
 | .un d op x=>slotOk N d o.dst&&(match o.op with | .unOp op' _ x'=>op==op'&&mX GL x x'|_=>false)
 | .cv d k x=>slotOk N d o.dst&&(match o.op with | .convert s t x'=>(P.underlying s).isSome&&(match P.underlying t with |some (.int k')=>k==k'|_=>false)&&mX GL x x'|_=>false)
 | .ln d x=>slotOk N d o.dst&&(match o.op with | .call {callee:= .builtin .len,args:=as,argTypes:=ts}=>(match as.toList,ts.toList with |[x'],[t]=>(match P.underlying t with |some (.slice _)=>true|_=>false)&&mX GL x x'|_,_=>false)|_=>false)
 | .lns d x=>slotOk N d o.dst&&(match o.op with | .call {callee:= .builtin .len,args:=as,argTypes:=ts}=>(match as.toList,ts.toList with |[x'],[t]=>(match P.underlying t with |some .string=>true|_=>false)&&mX GL x x'|_,_=>false)|_=>false)
 | .fa d x off=>slotOk N d o.dst&&(match o.op with | .fieldAddr t x' f=>(match (fieldsAt P t)[f]? with |some (o',n)=>o'==off&&!(n==0)|none=>false)&&mX GL x x'|_=>false)
 | .ia d sz x i=>slotOk N d o.dst&&(match o.op with | .indexAddr t x' i'=>(match P.underlying t with |some (.slice e)=>sz? P e==some sz|_=>false)&&mX GL x x'&&mX GL i i'|_=>false)
 | .iaa d sz n x i=>slotOk N d o.dst&&(match o.op with | .indexAddr t x' i'=>(match P.underlying t with |some (.array m e)=>m==n&&sz? P e==some sz|_=>false)&&mX GL x x'&&mX GL i i'|_=>false)
 | .lds d x=>slotOk N d o.dst&&(match o.op with | .load t x'=>scal P t&&mX GL x x'|_=>false)
 | .lda d n x=>slotOk N d o.dst&&(match o.op with | .load t x'=>aggT P t&&sz? P t==some n&&mX GL x x'|_=>false)
 | .st n x v=>o.dst==none&&(match o.op with | .store t x' v'=>sz? P t==some n&&mX GL x x'&&mX GL v v'|_=>false)
 | .lo d x=>slotOk N d o.dst&&(match o.op with | .load t x'=>scal P t&&mX GL x x'|_=>false)
 | .so x s=>o.dst==none&&(match o.op with | .store t x' (.tmp s')=>sz? P t==some 1&&s==s'&&mX GL x x'|_=>false)
 | .al d z=>slotOk N d o.dst&&(match o.op with | .alloc t=>(match P.info? t with |some i=>(match i.zero with |some z'=>z'.cells.toList.all (·.oneCell')&&cstL z z'.cells.toList|none=>false)|none=>false)|_=>false)
 | .alT d T off z=>slotOk N d o.dst&&(match o.op with | .alloc t=>t==T&&decide (off<z.length)&&(match z[off]? with |some .nilp=>true|_=>false)&&(match P.info? t with |some i=>(match i.zero with |some z'=>z'.cells.toList.all (·.oneCell')&&cstL z z'.cells.toList&&z.length==z'.cells.size|none=>false)|none=>false)|_=>false)
 | .bx d x=>slotOk N d o.dst&&(match o.op with | .box _ x'=>mX GL x x'|_=>false)
 | .bxT d T _ x=>slotOk N d o.dst&&(match o.op with | .box t x'=>t==T&&mX GL x x'|_=>false)
 | .bd d z ps=>slotOk N d o.dst&&(match o.op with | .build t ps'=>(match P.info? t with |some i=>(match i.zero with |some (.agg z')=>z'.toList.all (·.oneCell')&&cstL z z'.toList|_=>false)|none=>false)&&(match P.underlying t with |some (.struct fs)=>fs.toList.all (fun f=>(sz? P f.type).isSome)&&mBuild GL (fieldsAt P t) ps ps'.toList|some (.array n e)=>(match sz? P e with |some sz=>mBuild GL ((List.range n).map fun i=>(i*sz,sz)) ps ps'.toList|none=>false)|_=>false)|_=>false)
 | .bs d sz ps=>slotOk N d o.dst&&(match o.op with | .buildSlice t n ps'=>(match P.underlying t with |some (.slice e)=>(match P.info? e with |some i=>i.size==sz&&(match i.zero with |some z=>z.cells.size==sz|none=>false)|none=>false)|_=>false)&&kOk sz&&n==ps.length&&Nat.ble (n*sz) 16777216&&(match parts ps'.toList 0 with |some ys=>mXs GL ps ys|none=>false)|_=>false)
 | .fls d off x=>slotOk N d o.dst&&(match o.op with | .field t x' f=>(match P.underlying t with |some (.struct fs)=>(match fs[f]? with |some f=>scal P f.type&&f.offset==off|none=>false)|_=>false)&&mX GL x x'|_=>false)
 | .fla d off n x=>slotOk N d o.dst&&(match o.op with | .field t x' f=>(match P.underlying t with |some (.struct fs)=>(match fs[f]? with |some f=>aggT P f.type&&sz? P f.type==some n&&f.offset==off|none=>false)|_=>false)&&mX GL x x'|_=>false)
 | .ixs d x i=>slotOk N d o.dst&&(match o.op with | .index t x' i'=>(match P.underlying t with |some .string=>true|_=>false)&&mX GL x x'&&mX GL i i'|_=>false)
 | .ex d x i=>slotOk N d o.dst&&(match o.op with | .extract x' i'=>i==i'&&mX GL x x'|_=>false)
 | .exq d x i=>slotOk N d o.dst&&(match o.op with | .extract x' i'=>i==i'&&mX GL x x'|_=>false)
 | .cl d f xs=>slotOk N d o.dst&&(match o.op with | .call {callee:= .value (.func f'),args:=as,argTypes:=_}=>f==f'&&mXs GL xs as.toList|_=>false)
 | .ap d sz by_ s y=>slotOk N d o.dst&&(match o.op with | .call {callee:= .builtin .append,args:=as,argTypes:=ts}=>(match as.toList,ts.toList with |[s',y'],[t,t']=>t==t'&&(match P.underlying t with |some (.slice e)=>(match P.info? e with |some i=>i.size==sz&&i.bytes==by_&&(match i.zero with |some z=>z.cells.size==sz|none=>false)|none=>false)|_=>false)&&kOk sz&&!(by_==0)&&mX GL s s'&&mX GL y y'|_,_=>false)|_=>false)
 | .clr sz z x=>o.dst==none&&(match o.op with | .call {callee:= .builtin .clear,args:=as,argTypes:=ts}=>(match as.toList,ts.toList with |[x'],[t]=>(match P.underlying t with |some (.slice e)=>(match P.info? e with |some i=>i.size==sz&&(match i.zero with |some z'=>z'.cells.size==sz&&z'.cells.toList.all (·.oneCell')&&cstL z z'.cells.toList|none=>false)|none=>false)|_=>false)&&!(sz==0)&&mX GL x x'|_,_=>false)|_=>false)
 | .mk d sz by_ z l c=>slotOk N d o.dst&&(match o.op with | .makeSlice t l' c'=>(match P.underlying t with |some (.slice e)=>(match P.info? e with |some i=>i.size==sz&&i.bytes==by_&&(match i.zero with |some z'=>z'.cells.size==sz&&z'.cells.toList.all (·.oneCell')&&cstL z z'.cells.toList|none=>false)|none=>false)|_=>false)&&kOk sz&&!(by_==0)&&mX GL l l'&&mX GL c c'|_=>false)
 | .sls d x lo hi=>slotOk N d o.dst&&(match o.op with | .slice t x' lo' hi' none=>(match P.underlying t with |some .string=>true|_=>false)&&mX GL x x'&&mOpt GL lo lo'&&mOpt GL hi hi'|_=>false)
 | .slc d sz x lo hi=>slotOk N d o.dst&&(match o.op with | .slice t x' lo' hi' none=>(match P.underlying t with |some (.slice e)=>sz? P e==some sz|_=>false)&&mX GL x x'&&mOpt GL lo lo'&&mOpt GL hi hi'|_=>false)
 | .mn d x y=>slotOk N d o.dst&&(match o.op with | .call {callee:= .builtin .min,args:=as,argTypes:=_}=>(match as.toList with |[x',y']=>mX GL x x'&&mX GL y y'|_=>false)|_=>false)
 | .mx d x y=>slotOk N d o.dst&&(match o.op with | .call {callee:= .builtin .max,args:=as,argTypes:=_}=>(match as.toList with |[x',y']=>mX GL x x'&&mX GL y y'|_=>false)|_=>false)
 | .nc d x=>slotOk N d o.dst&&(match o.op with | .nilCheck x'=>mX GL x x'|_=>false)
 | .ce d f xs=>slotOk N d o.dst&&(match o.op with | .call {callee:= .value (.func f'),args:=as,argTypes:=_}=>f==f'&&mXs GL xs as.toList|_=>false)
 | .cr d f xs=>slotOk N d o.dst&&(match o.op with | .call {callee:= .value (.func f'),args:=as,argTypes:=_}=>f==f'&&mXs GL xs as.toList|_=>false)
 | .cq d f xs _=>slotOk N d o.dst&&(match o.op with | .call {callee:= .value (.func f'),args:=as,argTypes:=_}=>f==f'&&mXs GL xs as.toList|_=>false)
 | .mkm d sz by_ z l c=>slotOk N d o.dst&&(match o.op with | .makeSlice t l' c'=>(match P.underlying t with |some (.slice e)=>(match P.info? e with |some i=>i.size==sz&&i.bytes==by_&&(match i.zero with |some z'=>z'.cells.size==sz&&z'.cells.toList.all (·.oneCell')&&cstL z z'.cells.toList|none=>false)|none=>false)|_=>false)&&!(sz==0)&&!(by_==0)&&mX GL l l'&&mX GL c c'|_=>false)
 | .apm d sz by_ s y=>slotOk N d o.dst&&(match o.op with | .call {callee:= .builtin .append,args:=as,argTypes:=ts}=>(match as.toList,ts.toList with |[s',y'],[t,t']=>t==t'&&(match P.underlying t with |some (.slice e)=>(match P.info? e with |some i=>i.size==sz&&i.bytes==by_&&(match i.zero with |some z=>z.cells.size==sz&&z.cells.toList.all (·.oneCell')|none=>false)|none=>false)|_=>false)&&!(sz==0)&&!(by_==0)&&mX GL s s'&&mX GL y y'|_,_=>false)|_=>false)
 | .bsm d sz ps=>slotOk N d o.dst&&(match o.op with | .buildSlice t n ps'=>(match P.underlying t with |some (.slice e)=>(match P.info? e with |some i=>i.size==sz&&(match i.zero with |some z=>z.cells.size==sz|none=>false)|none=>false)|_=>false)&&!(sz==0)&&n==ps.length&&Nat.ble (n*sz) 16777216&&(match parts ps'.toList 0 with |some ys=>mXs GL ps ys|none=>false)|_=>false)
 | .bsn d sz ps=>slotOk N d o.dst&&(match o.op with | .buildSlice t n ps'=>(match P.underlying t with |some (.slice e)=>(match P.info? e with |some i=>i.size==sz&&(match i.zero with |some z=>z.cells.size==sz|none=>false)|none=>false)|_=>false)&&kOk sz&&n==ps.length&&Nat.ble (n*sz) 16777216&&(match parts ps'.toList 0 with |some ys=>mXs GL ps ys|none=>false)|_=>false)
 | .ca d f s ps=>slotOk N d o.dst&&(match o.op with | .call {callee:= .value (.func f'),args:=as,argTypes:=_}=>f==f'&&mXs GL (s.toList++ps) as.toList|_=>false)
 | .cd d x xs=>slotOk N d o.dst&&(match o.op with | .call {callee:= .value f',args:=as,argTypes:=_}=>mX GL x f'&&mXs GL xs as.toList|_=>false)
 | .mf d f xs=>slotOk N d o.dst&&(match o.op with | .makeFunc (.func f') first cap=>f==f'&&first.size==0&&mXs GL xs cap.toList|_=>false)
 | .b2s d x=>slotOk N d o.dst&&(match o.op with | .convert s t x'=>(match P.underlying s with |some (.slice e)=>(match P.underlying e with |some (.int .u8)=>sz? P e==some 1|_=>false)|_=>false)&&(match P.underlying t with |some .string=>true|_=>false)&&mX GL x x'|_=>false)
 | .s2b d x=>slotOk N d o.dst&&(match o.op with | .convert s t x'=>(match P.underlying t with |some (.slice e)=>(match P.underlying e with |some (.int .u8)=>(match P.info? e with |some i=>i.size==1&&i.bytes==1|none=>false)|_=>false)|_=>false)&&(match P.underlying s with |some .string=>true|_=>false)&&mX GL x x'|_=>false)
 | .aps d s y=>slotOk N d o.dst&&(match o.op with | .call {callee:= .builtin .append,args:=as,argTypes:=ts}=>(match as.toList,ts.toList with |[s',y'],[t,t']=>(match P.underlying t' with |some .string=>true|_=>false)&&(match P.underlying t with |some (.slice e)=>(match P.info? e with |some i=>i.size==1&&i.bytes==1&&(match i.zero with |some z=>z.cells.size==1|none=>false)|none=>false)|_=>false)&&mX GL s s'&&mX GL y y'|_,_=>false)|_=>false)
 | .rs d x=>slotOk N d o.dst&&(match o.op with | .range t x'=>(match P.underlying t with |some .string=>true|_=>false)&&mX GL x x'|_=>false)
 | .nx d x=>slotOk N d o.dst&&(match o.op with | .next x' true=>mX GL x x'|_=>false)
 | .ixa d sz n agg x i=>slotOk N d o.dst&&(match o.op with | .index t x' i'=>(match P.underlying t with |some (.array m e)=>m==n&&sz? P e==some sz&&(if agg=true then aggT P e else scal P e)|_=>false)&&mX GL x x'&&mX GL i i'|_=>false)
 | .mkp d=>slotOk N d o.dst&&(match o.op with | .makeMap _ none=>true|_=>false)
 | .mpl d x=>slotOk N d o.dst&&(match o.op with | .call {callee:= .builtin .len,args:=as,argTypes:=ts}=>(match as.toList,ts.toList with |[x'],[t]=>(match P.underlying t with |some (.map _ _)=>true|_=>false)&&mX GL x x'|_,_=>false)|_=>false)
 | .mpe d q z m k=>slotOk N d o.dst&&(match o.op with | .mapEntry t m' k'=>(match P.underlying t with |some (.map kt et)=>fkT P q kt&&mkZ P z et|_=>false)&&mX GL m m'&&mX GL k k'|_=>false)
 | .mes m s v=>o.dst==none&&(match o.op with | .entryStore _ m' s' v'=>mX GL m m'&&mX GL s s'&&mX GL v v'|_=>false)
 | .mup q m k v=>o.dst==none&&(match o.op with | .mapUpdate t m' k' v'=>(match P.underlying t with |some (.map kt _)=>fkT P q kt|_=>false)&&mX GL m m'&&mX GL k k'&&mX GL v v'|_=>false)
 | .mlk d q z m k ok=>slotOk N d o.dst&&(match o.op with | .lookup t m' k' ok'=>(match P.underlying t with |some (.map kt et)=>fkT P q kt&&mkZ P z et|_=>false)&&ok==ok'&&mX GL m m'&&mX GL k k'|_=>false)
 | .sla d n x lo hi=>slotOk N d o.dst&&(match o.op with | .slice t x' lo' hi' none=>(match P.underlying t with |some (.array m e)=>m==n&&sz? P e==some 1|_=>false)&&mX GL x x'&&mOpt GL lo lo'&&mOpt GL hi hi'|_=>false)
 | .no=>true
 | .gd _ _ _ _=>false

def mt (P:Program) (GL:List (Nat×List Value)) (N:Nat) (ops:Array Oper) (o:Oper):AOp→Bool
 | .gd s b d ao=>(match o.guard with |some (j,b')=>b==b'&&((ops[j]?).bind (·.dst))==some s|none=>false)&&slotOk N d o.dst&&mt1 P GL N o ao
 |ao=>o.guard.isNone&&mt1 P GL N o ao
end Go.Ai
