/- Lib2: a part of the proof. Conditions: as each theorem says. -/
import Derived.Test.YtojgeamhdkphaaaGreatDoorLib1
import Derived.MapKept
import Derived.WideLaws
set_option linter.unusedSimpArgs false
set_option linter.unusedVariables false
namespace Go.Ai
open Go.RowKit

mutual
def qw:AV->Value->Bool
 | .int k n,.int k' n'=>k==k'&&n==n'
 | .bool b,.bool b'=>b==b'
 | .str s,.string b=>b.data.toList==s
 | .nils,.slice none 0 0=>true
 | .nilp,.pointer none=>true
 | .nili,.nilIface=>true
 | .undef,.nilFunc=>true
 | .undef,.map none=>true
 | .agg cs,.agg us=>us.toList.all (·.oneCell')&&tU cs us.toList
 |_,_=>false
def tU:List AV->List Value->Bool
 |[],[]=>true
 |c::r,u::s=>qw c u&&tU r s
 |_,_=>false
end
mutual
theorem l8 {S:aR} {gb:Gb}: ∀(c:AV) (u:Value),qw c u=true->PR S gb c u
 | .undef,u,_=>by simp[PR]
 | .int k n,u,h=>by
  cases u<;>simp[qw] at h;obtain ⟨rfl,rfl⟩:=h;simp[PR]
 | .bool b,u,h=>by
  cases u<;>simp[qw] at h;subst h;simp[PR]
 | .str s,u,h=>by
  cases u<;>simp[qw] at h;subst h;simp[PR]
 | .nils,u,h=>by
  unfold qw at h;split at h<;>simp_all[PR]
 | .nilp,u,h=>by
  unfold qw at h;split at h<;>simp_all[PR]
 | .agg cs,u,h=>by
  cases u<;>simp only[qw,aJ,tK] at h;rename_i us;simp only[PR];exact ⟨us,rfl,fun u hu=>ik.1 h.1 u hu,fw cs us.toList h.2⟩
 | .sl _,u,h=>by cases u<;>simp[qw] at h
 | .pin _,u,h=>by cases u<;>simp[qw] at h
 | .ptr _ _,u,h=>by cases u<;>simp[qw] at h
 | .ms _ _ _ _,u,h=>by cases u<;>simp[qw] at h
 | .fn _ _,u,h=>by cases u<;>simp[qw] at h
 | .itr _ _,u,h=>by cases u<;>simp[qw] at h
 | .itp _,u,h=>by cases u<;>simp[qw] at h
 | .mref _,u,h=>by cases u<;>simp[qw] at h
 | .nilT _ _ _,u,h=>by cases u<;>simp[qw] at h
 | .mpv _,u,h=>by cases u<;>simp[qw] at h
 | .tup _,u,h=>by cases u<;>simp[qw] at h
 | .ifc _ _,u,h=>by cases u<;>simp[qw] at h
 | .yv _,u,h=>by cases u<;>simp[qw] at h
 | .nili,u,h=>by
  unfold qw at h;split at h<;>simp_all[PR]
theorem fw {S:aR} {gb:Gb}: ∀(c:List AV) (u:List Value),tU c u=true->aa S gb c u
 |[],u,h=>by cases u<;>simp[tU] at h ⊢ <;>simp[aa]
 |c::r,u,h=>by
  cases u with
  |nil=>simp[tU] at h
  |cons u s=>
   simp[tU] at h;exact ⟨u,s,rfl,l8 c u h.1,fw r s h.2⟩
end

def mX (GL:List (Nat×List Value)):X->Operand->Bool
 | .s t,.tmp t'=>t==t'
 | .c v,.const u=>qw v u
 | .c (.fn f []),.func f'=>f==f'&&Nat.blt f BM
 | .c (.pin cs),.global i=>match GL.lookup i with
  |some us=>tU cs us
  |none=>false
 |_,_=>false
def kB (GL:List (Nat×List Value)):List X->List Operand->Bool
 |[],[]=>true
 |x::r,y::s=>mX GL x y&&kB GL r s
 |_,_=>false

variable {P:Program} {F:Fr} {S:aR} {gb:Gb} {σ:St} {a:Act} {w:World}
theorem az (h:aN F S gb σ a w) {x:X} {y:Operand} (hm:mX F.GL x y=true):PR S gb (σ.v x) (a.eval y):=by
 unfold mX at hm;split at hm
 ·simp at hm;subst hm;exact h.env _
 ·exact l8 _ _ hm
 ·simp only[aJ,cI,Nat.blt_eq] at hm;obtain ⟨rfl,hb⟩:=hm;simp only[St.v,PR,Act.eval];exact ⟨#[],by rw[Jp,if_neg (by omega)],by simp[aa]⟩
 ·split at hm
  ·rename_i i us hl;simp only[St.v,PR,Act.eval];refine ⟨_,0,rfl,aK.of_list (us:=us) (fw _ _ hm) (fun u hu=>?_) (fun j u hu=>?_)⟩
   ·obtain ⟨j,hj⟩:=List.getElem?_of_mem hu;exact (h.glo _ _ hl j u hj).2
   ·rw[l5];exact h.le _ _ _ (h.glo _ _ hl j u hu).1
  ·cases hm
 ·cases hm
theorem dt (h:aN F S gb σ a w): ∀ {xs:List X} {ys:List Operand},kB F.GL xs ys=true->aa S gb (xs.map σ.v) (ys.map a.eval)
 |[],ys,hm=>by cases ys<;>simp[kB] at hm ⊢ <;>simp[aa]
 |x::r,ys,hm=>by
  cases ys with
  |nil=>simp[kB] at hm
  |cons y s=>
   simp[kB] at hm;exact ⟨_,_,rfl,az h hm.1,dt h hm.2⟩

def pW (P:Program) (t:TypeId):Option Nat:=(P.info? t).map (·.size)
def mW (P:Program) (t:TypeId):Bool:=match P.underlying t with
 |some (.struct _)|some (.array _ _)|none=>false
 |_=>true
def jV (P:Program) (t:TypeId):Bool:=match P.underlying t with
 |some (.struct _)|some (.array _ _)=>true
 |_=>false
theorem bP {t n:Nat} (h:pW P t=some n):(sizeOf t).run P w= .ok n w:=by
 unfold pW at h;cases hq:P.info? t with
 |none=>simp[hq] at h
 |some i=>simp[hq] at h;simp[sizeOf,typeInfo,hq,h]
theorem js {t:Nat} (h:mW P t=true):(isAgg t).run P w= .ok false w:=by
 unfold mW at h;cases hq:P.underlying t with
 |none=>simp[hq] at h
 |some d=>unfold isAgg;rw[Sem.run_bind,run_underlying hq w];cases d<;>simp_all
theorem lE {t:Nat} (h:jV P t=true):(isAgg t).run P w= .ok true w:=by
 unfold jV at h;cases hq:P.underlying t with
 |none=>simp[hq] at h
 |some d=>unfold isAgg;rw[Sem.run_bind,run_underlying hq w];cases d<;>simp_all

def gY (P:Program) (t:TypeId):List (Nat×Nat):=
 match P.underlying t with
 |some (.struct fs)=>fs.toList.map fun f=>(f.offset,(pW P f.type).getD 0)
 |_=>[]

def Gw (P:Program) (f:TypeId->Option (List FK)):List Field->Nat->Option (List FK)
 |[],_=>some []
 |fd::r,o=>if fd.name≠ "_"/\fd.offset=o then match f fd.type,Gw P f r (o+(pW P fd.type).getD 0) with
   |some ks,some ls=>if pW P fd.type=some ks.length then some (ks++ls) else none
   |_,_=>none
  else none
def Mh (P:Program):Nat->TypeId->Option (List FK)
 |0,_=>none
 |d+1,t=>match P.underlying t with
  |some .bool=>some [.b]
  |some (.int _)=>some [.i]
  |some .string=>some [.s]
  |some (.struct fs)=>if P.stoodInHeld t=true then none else Gw P (Mh P d) fs.toList 0
  |some (.array n e)=>match Mh P d e with
   |some [k]=>if mW P e=true/\pW P e=some 1 then some (List.replicate n k) else none
   |_=>none
  |_=>none

def cJ (ps:List (Nat×Operand)) (i:Nat):Option (List Operand):=
 match ps with
 |[]=>some []
 |(j,x)::r=>if j==i then (cJ r (i+1)).map (x:: ·) else none

def aT (N d:Nat) (dst:Option Tmp):Bool:=dst==some d&&Nat.blt d N

def mZ (GL:List (Nat×List Value)) (fs:List (Nat×Nat)):List (Nat×Nat×X)->List (Nat×Operand)->Bool
 |[],[]=>true
 |(off,n,x)::r,(i,y)::s=>fs[i]?==some (off,n)&&mX GL x y&&mZ GL fs r s
 |_,_=>false

def xW (GL:List (Nat×List Value)):Option X->Option Operand->Bool
 |none,none=>true
 |some x,some y=>mX GL x y
 |_,_=>false

def Pd (P:Program) (q:FK) (t:TypeId):Bool:=match q,P.underlying t with
 | .s,some .string=>true
 | .i,some (.int _)=>true
 |_,_=>false
def Q9 (P:Program) (z:MK) (t:TypeId):Bool:=match P.info? t with
 |some i=>(match i.zero with |some v=>qw z.av v|none=>false)
 |none=>false
def Ra (P:Program) (z:AV) (t:TypeId):Bool:=match P.info? t with
 |some i=>(match i.zero with |some v=>qw z v|none=>false)
 |none=>false
theorem D4 {z:AV} {t:TypeId} (h:Ra P z t=true): ∃u,(zeroValue t).run P w= .ok u w/\PR S gb z u:=by
 unfold Ra at h;split at h
 ·rename_i i hi;split at h
  ·rename_i v hv;exact ⟨v,by simp[zeroValue,typeInfo,hi,hv],l8 _ _ h⟩
  ·cases h
 ·cases h
def JJ (P:Program) (t:TypeId):Bool:=match P.underlying t with
 |some (.interface _)|none=>false
 |some _=>true
def Pe (sz:Nat):Bool:=!(sz==0)&&Nat.blt sz KB
theorem Cx {sz:Nat}:Pe sz=true↔ ¬sz=0/\sz<KB:=by simp[Pe,Nat.blt_eq]
def dC (P:Program) (GL:List (Nat×List Value)) (N:Nat) (o:Oper):bv->Bool
 | .mv d x=>aT N d o.dst&&(match o.op with | .move y| .assign y=>mX GL x y|_=>false)
 | .mo d s=>aT N d o.dst&&(match o.op with | .move (.tmp t)| .assign (.tmp t)=>t==s|_=>false)
 | .pk d c x y=>aT N d o.dst&&(match o.op with | .pick c' x' y'=>mX GL c c'&&mX GL x x'&&mX GL y y'|_=>false)
 | .bi d op x y=>aT N d o.dst&&(match o.op with | .binOp op' _ x' y' _=>op==op'&&mX GL x x'&&mX GL y y'|_=>false)
 | .bb _ _ _ _=>false
 | .ea d neg ks x y=>aT N d o.dst&&(match o.op with | .binOp op' t x' y' _=>op'==(if neg then .neq else .eql)&&(Mh P 4 t==some ks)&&jV P t&&!(P.eqGuardType P.depth t)&&mX GL x x'&&mX GL y y'|_=>false)
 | .bq _ _=>false
 | .pn d neg x=>aT N d o.dst&&(match o.op with | .binOp op' t x' (.const (.pointer none)) _=>op'==(if neg=true then .neq else .eql)&&(match P.underlying t with |some (.pointer _)=>true|_=>false)&&mX GL x x'|_=>false)
 | .un d op x=>aT N d o.dst&&(match o.op with | .unOp op' _ x'=>op==op'&&mX GL x x'|_=>false)
 | .cv d k x=>aT N d o.dst&&(match o.op with | .convert s t x'=>(P.underlying s).isSome&&(match P.underlying t with |some (.int k')=>k==k'|_=>false)&&mX GL x x'|_=>false)
 | .ln d x=>aT N d o.dst&&(match o.op with | .call {callee:= .builtin .len,args:=as,argTypes:=ts}=>(match as.toList,ts.toList with |[x'],[t]=>(match P.underlying t with |some (.slice _)=>true|_=>false)&&mX GL x x'|_,_=>false)|_=>false)
 | .lns d x=>aT N d o.dst&&(match o.op with | .call {callee:= .builtin .len,args:=as,argTypes:=ts}=>(match as.toList,ts.toList with |[x'],[t]=>(match P.underlying t with |some .string=>true|_=>false)&&mX GL x x'|_,_=>false)|_=>false)
 | .fa d x off=>aT N d o.dst&&(match o.op with | .fieldAddr t x' f=>(match (gY P t)[f]? with |some (o',n)=>o'==off&&!(n==0)|none=>false)&&mX GL x x'|_=>false)
 | .ia d sz x i=>aT N d o.dst&&(match o.op with | .indexAddr t x' i'=>(match P.underlying t with |some (.slice e)=>pW P e==some sz|_=>false)&&mX GL x x'&&mX GL i i'|_=>false)
 | .iaa _ _ _ _ _=>false
 | .lds d x=>aT N d o.dst&&(match o.op with | .load t x'=>mW P t&&mX GL x x'|_=>false)
 | .ldf d x=>aT N d o.dst&&(match o.op with | .load t x'=>mW P t&&mX GL x x'|_=>false)
 | .lda d n x=>aT N d o.dst&&(match o.op with | .load t x'=>jV P t&&pW P t==some n&&mX GL x x'|_=>false)
 | .st n x v=>o.dst==none&&(match o.op with | .store t x' v'=>pW P t==some n&&mX GL x x'&&mX GL v v'|_=>false)
 | .lo d x=>aT N d o.dst&&(match o.op with | .load t x'=>mW P t&&mX GL x x'|_=>false)
 | .so x s=>o.dst==none&&(match o.op with | .store t x' (.tmp s')=>pW P t==some 1&&s==s'&&mX GL x x'|_=>false)
 | .al d z=>aT N d o.dst&&(match o.op with | .alloc t=>(match P.info? t with |some i=>(match i.zero with |some z'=>z'.cells.toList.all (·.oneCell')&&tU z z'.cells.toList|none=>false)|none=>false)|_=>false)
 | .alT d T off z=>aT N d o.dst&&(match o.op with | .alloc t=>t==T&&decide (off<z.length)&&(match z[off]? with |some .nilp=>true|_=>false)&&(match P.info? t with |some i=>(match i.zero with |some z'=>z'.cells.toList.all (·.oneCell')&&tU z z'.cells.toList&&z.length==z'.cells.size|none=>false)|none=>false)|_=>false)
 | .bx d x=>aT N d o.dst&&(match o.op with | .box _ x'=>mX GL x x'|_=>false)
 | .bxT d T _ x=>aT N d o.dst&&(match o.op with | .box t x'=>t==T&&mX GL x x'|_=>false)
 | .bd d z ps=>aT N d o.dst&&(match o.op with | .build t ps'=>(match P.info? t with |some i=>(match i.zero with |some (.agg z')=>z'.toList.all (·.oneCell')&&tU z z'.toList|_=>false)|none=>false)&&(match P.underlying t with |some (.struct fs)=>fs.toList.all (fun f=>(pW P f.type).isSome)&&mZ GL (gY P t) ps ps'.toList|some (.array n e)=>(match pW P e with |some sz=>mZ GL ((List.range n).map fun i=>(i*sz,sz)) ps ps'.toList|none=>false)|_=>false)|_=>false)
 | .bs d sz ps=>aT N d o.dst&&(match o.op with | .buildSlice t n ps'=>(match P.underlying t with |some (.slice e)=>(match P.info? e with |some i=>i.size==sz&&(match i.zero with |some z=>z.cells.size==sz|none=>false)|none=>false)|_=>false)&&Pe sz&&n==ps.length&&Nat.ble (n*sz) 16777216&&(match cJ ps'.toList 0 with |some ys=>kB GL ps ys|none=>false)|_=>false)
 | .fls _ _ _=>false
 | .fla _ _ _ _=>false
 | .ixs d x i=>aT N d o.dst&&(match o.op with | .index t x' i'=>(match P.underlying t with |some .string=>true|_=>false)&&mX GL x x'&&mX GL i i'|_=>false)
 | .ex d x i=>aT N d o.dst&&(match o.op with | .extract x' i'=>i==i'&&mX GL x x'|_=>false)
 | .exq d x i=>aT N d o.dst&&(match o.op with | .extract x' i'=>i==i'&&mX GL x x'|_=>false)
 | .cl d f xs=>aT N d o.dst&&(match o.op with | .call {callee:= .value (.func f'),args:=as,argTypes:=_}=>f==f'&&kB GL xs as.toList|_=>false)
 | .ap d sz by_ s y=>aT N d o.dst&&(match o.op with | .call {callee:= .builtin .append,args:=as,argTypes:=ts}=>(match as.toList,ts.toList with |[s',y'],[t,t']=>t==t'&&(match P.underlying t with |some (.slice e)=>(match P.info? e with |some i=>i.size==sz&&i.bytes==by_&&(match i.zero with |some z=>z.cells.size==sz|none=>false)|none=>false)|_=>false)&&Pe sz&&!(by_==0)&&mX GL s s'&&mX GL y y'|_,_=>false)|_=>false)
 | .trm _ _ _ _=>false
 | .clr _ _ _=>false
 | .mk _ _ _ _ _ _=>false
 | .sls d x lo hi=>aT N d o.dst&&(match o.op with | .slice t x' lo' hi' none=>(match P.underlying t with |some .string=>true|_=>false)&&mX GL x x'&&xW GL lo lo'&&xW GL hi hi'|_=>false)
 | .slc d sz x lo hi=>aT N d o.dst&&(match o.op with | .slice t x' lo' hi' none=>(match P.underlying t with |some (.slice e)=>pW P e==some sz|_=>false)&&mX GL x x'&&xW GL lo lo'&&xW GL hi hi'|_=>false)
 | .mn d x y=>aT N d o.dst&&(match o.op with | .call {callee:= .builtin .min,args:=as,argTypes:=_}=>(match as.toList with |[x',y']=>mX GL x x'&&mX GL y y'|_=>false)|_=>false)
 | .mx _ _ _=>false
 | .nc d x=>aT N d o.dst&&(match o.op with | .nilCheck x'=>mX GL x x'|_=>false)
 | .mi d T x=>aT N d o.dst&&(match o.op with | .makeInterface t x'=>t==T&&JJ P t&&mX GL x x'|_=>false)
 | .ta d T z x ok=>aT N d o.dst&&(match o.op with | .typeAssert x' _ t ok'=>t==T&&JJ P t&&Ra P z t&&ok==ok'&&mX GL x x'|_=>false)
 | .ce d f xs=>aT N d o.dst&&(match o.op with | .call {callee:= .value (.func f'),args:=as,argTypes:=_}=>f==f'&&kB GL xs as.toList|_=>false)
 | .cr _ _ _=>false
 | .cq d f xs _=>aT N d o.dst&&(match o.op with | .call {callee:= .value (.func f'),args:=as,argTypes:=_}=>f==f'&&kB GL xs as.toList|_=>false)
 | .mkm _ _ _ _ _ _=>false
 | .apm d sz by_ s y=>aT N d o.dst&&(match o.op with | .call {callee:= .builtin .append,args:=as,argTypes:=ts}=>(match as.toList,ts.toList with |[s',y'],[t,t']=>t==t'&&(match P.underlying t with |some (.slice e)=>(match P.info? e with |some i=>i.size==sz&&i.bytes==by_&&(match i.zero with |some z=>z.cells.size==sz&&z.cells.toList.all (·.oneCell')|none=>false)|none=>false)|_=>false)&&!(sz==0)&&!(by_==0)&&mX GL s s'&&mX GL y y'|_,_=>false)|_=>false)
 | .bsm d sz ps=>aT N d o.dst&&(match o.op with | .buildSlice t n ps'=>(match P.underlying t with |some (.slice e)=>(match P.info? e with |some i=>i.size==sz&&(match i.zero with |some z=>z.cells.size==sz|none=>false)|none=>false)|_=>false)&&!(sz==0)&&n==ps.length&&Nat.ble (n*sz) 16777216&&(match cJ ps'.toList 0 with |some ys=>kB GL ps ys|none=>false)|_=>false)
 | .bsn _ _ _=>false
 | .ca d f s ps=>aT N d o.dst&&(match o.op with | .call {callee:= .value (.func f'),args:=as,argTypes:=_}=>f==f'&&kB GL (s.toList++ps) as.toList|_=>false)
 | .cd d x xs=>aT N d o.dst&&(match o.op with | .call {callee:= .value f',args:=as,argTypes:=_}=>mX GL x f'&&kB GL xs as.toList|_=>false)
 | .mf d f xs=>aT N d o.dst&&(match o.op with | .makeFunc (.func f') first cap=>if BM<=f then f - BM==f'&&cap.size==0&&kB GL xs first.toList else f==f'&&first.size==0&&kB GL xs cap.toList|_=>false)
 | .b2s _ _=>false
 | .i2s d x=>aT N d o.dst&&(match o.op with | .convert s t x'=>(P.underlying s).isSome&&(match P.underlying t with |some .string=>true|_=>false)&&mX GL x x'|_=>false)
 | .inl d neg x=>aT N d o.dst&&(match o.op with | .binOp op' t x' (.const .nilIface) _=>op'==(if neg=true then .neq else .eql)&&(match P.underlying t with |some (.interface _)=>true|_=>false)&&mX GL x x'|_=>false)
 | .s2b d x=>aT N d o.dst&&(match o.op with | .convert s t x'=>(match P.underlying t with |some (.slice e)=>(match P.underlying e with |some (.int .u8)=>(match P.info? e with |some i=>i.size==1&&i.bytes==1|none=>false)|_=>false)|_=>false)&&(match P.underlying s with |some .string=>true|_=>false)&&mX GL x x'|_=>false)
 | .aps _ _ _=>false
 | .rs d x=>aT N d o.dst&&(match o.op with | .range t x'=>(match P.underlying t with |some .string=>true|_=>false)&&mX GL x x'|_=>false)
 | .nx d x=>aT N d o.dst&&(match o.op with | .next x' true=>mX GL x x'|_=>false)
 | .ixa _ _ _ _ _ _=>false
 | .mkp d=>aT N d o.dst&&(match o.op with | .makeMap _ none=>true|_=>false)
 | .mpl _ _=>false
 | .mpe _ _ _ _ _=>false
 | .mes _ _ _=>false
 | .mup q m k v=>o.dst==none&&(match o.op with | .mapUpdate t m' k' v'=>(match P.underlying t with |some (.map kt _)=>Pd P q kt|_=>false)&&mX GL m m'&&mX GL k k'&&mX GL v v'|_=>false)
 | .mlk d q z m k ok=>aT N d o.dst&&(match o.op with | .lookup t m' k' ok'=>(match P.underlying t with |some (.map kt et)=>Pd P q kt&&Q9 P z et|_=>false)&&ok==ok'&&mX GL m m'&&mX GL k k'|_=>false)
 | .sla _ _ _ _ _=>false
 | .no=>true
 | .gd _ _ _ _=>false

def mt (P:Program) (GL:List (Nat×List Value)) (N:Nat) (ops:Array Oper) (o:Oper):bv->Bool
 | .gd s b d ao=>(match o.guard with |some (j,b')=>b==b'&&((ops[j]?).bind (·.dst))==some s|none=>false)&&aT N d o.dst&&dC P GL N o ao
 |ao=>o.guard.isNone&&dC P GL N o ao
def xs:X->List Nat
 | .s t=>[t]
 | .c _=>[]
def ox:Option X->List Nat
 |some x=>xs x
 |none=>[]
def cz:bv->List Nat
 | .mv _ x=>xs x
 | .mo _ s=>[s]
 | .pk _ c x y=>xs c++(xs x++xs y)
 | .bi _ _ x y=>xs x++xs y
 | .bb _ _ x y=>xs x++xs y
 | .ea _ _ _ x y=>xs x++xs y
 | .un _ _ x=>xs x
 | .pn _ _ x=>xs x
 | .bq _ x=>xs x
 | .cv _ _ x=>xs x
 | .ln _ x=>xs x
 | .lns _ x=>xs x
 | .slc _ _ x l h=>xs x++(ox l++ox h)
 | .sls _ x l h=>xs x++(ox l++ox h)
 | .fa _ x _=>xs x
 | .ia _ _ x i=>xs x++xs i
 | .iaa _ _ _ x i=>xs x++xs i
 | .lds _ x=>xs x
 | .ldf _ x=>xs x
 | .lda _ _ x=>xs x
 | .st _ x v=>xs x++xs v
 | .lo _ x=>xs x
 | .so x s=>xs x++[s]
 | .al _ _=>[]
 | .alT _ _ _ _=>[]
 | .bxT _ _ _ x=>xs x
 | .bx _ x=>xs x
 | .bd _ _ ps=>ps.flatMap fun p=>xs p.2.2
 | .bs _ _ ps=>ps.flatMap xs
 | .fls _ _ x=>xs x
 | .fla _ _ _ x=>xs x
 | .ixs _ x i=>xs x++xs i
 | .ex _ x _=>xs x
 | .exq _ x _=>xs x
 | .ixa _ _ _ _ x i=>xs x++xs i
 | .mf _ _ ps=>ps.flatMap xs
 | .mlk _ _ _ m k _=>xs m++xs k
 | .ce _ _ _| .cd _ _ _| .apm _ _ _ _ _| .mkm _ _ _ _ _ _| .bsn _ _ _| .bsm _ _ _| .rs _ _| .nx _ _| .s2b _ _| .aps _ _ _| .sla _ _ _ _ _| .b2s _ _| .i2s _ _| .inl _ _ _| .mkp _| .mpl _ _| .mpe _ _ _ _ _| .mes _ _ _| .mup _ _ _ _| .clr _ _ _| .trm _ _ _ _=>[]
 | .cl _ _ ps=>ps.flatMap xs
 | .cr _ _ ps=>ps.flatMap xs
 | .cq _ _ ps fr=>ps.flatMap xs++fr.filterMap fun s=>if Nat.ble KF s=true then some (s - KF) else none
 | .ap _ _ _ s y=>xs s++xs y
 | .ca _ _ s ps=>(match s with |some x=>xs x|none=>[])++ps.flatMap xs
 | .mk _ _ _ _ l c=>xs l++xs c
 | .mn _ x y=>xs x++xs y
 | .mx _ x y=>xs x++xs y
 | .nc _ x=>xs x
 | .mi _ _ x=>xs x
 | .ta _ _ _ x _=>xs x
 | .no=>[]
 | .gd s _ _ o=>s::cz o
def cG:bv->Option Nat
 | .mv d _| .mo d _| .pk d _ _ _| .bi d _ _ _| .bb d _ _ _| .ea d _ _ _ _| .un d _ _| .pn d _ _| .bq d _| .cv d _ _| .ln d _| .lns d _| .slc d _ _ _ _| .sls d _ _ _| .fa d _ _| .ia d _ _ _| .iaa d _ _ _ _
 | .lds d _| .ldf d _| .lda d _ _| .lo d _| .al d _| .alT d _ _ _| .bx d _| .bd d _ _| .bs d _ _| .fls d _ _| .fla d _ _ _| .ixs d _ _| .ex d _ _| .exq d _ _| .ixa d _ _ _ _ _| .mf d _ _| .b2s d _| .i2s d _| .inl d _ _| .mpl d _| .mlk d _ _ _ _ _| .cl d _ _| .cr d _ _| .cq d _ _ _| .ap d _ _ _ _| .ca d _ _ _| .mk d _ _ _ _ _| .mn d _ _| .mx d _ _| .nc d _| .mi d _ _| .ta d _ _ _ _=>some d
 | .st _ _ _| .so _ _| .no=>none
 | .ce _ _ _| .cd _ _ _| .apm _ _ _ _ _| .mkm _ _ _ _ _ _| .bsn _ _ _| .bsm _ _ _| .rs _ _| .nx _ _| .s2b _ _| .aps _ _ _| .sla _ _ _ _ _| .bxT _ _ _ _| .mkp _| .mpe _ _ _ _ _| .mes _ _ _| .mup _ _ _ _| .clr _ _ _| .trm _ _ _ _=>none
 | .gd _ _ d o=>if cG o=some d then some d else none
def Vp (P:Program) (GL:List (Nat×List Value)) (N:Nat) (A E St':Oper) (p:PA):Bool:=
 A.guard.isNone&&E.guard.isNone&&St'.guard.isNone&&dC P GL N A (.ap p.d p.sz p.by_ (.s p.s) p.y)&&dC P GL N E (.ia p.te p.sz (.s p.d) p.tl)&&dC P GL N St' (.st p.sz (.s p.te) p.v)&&
 p.d !=p.te&&!(xs p.tl).contains p.d&&!(xs p.v).contains p.d&&!(xs p.v).contains p.te&&p.ad.all (fun o=>Vo o&&!(cz o).contains p.d&&!(cz o).contains p.te&&cG o !=some p.d&&cG o !=some p.te&&(cG o).all fun t=>!(xs p.v).contains t&&!(xs p.tl).contains t)
end Go.Ai
namespace Go.Ai
open Go.RowKit
variable {P:Program} {F:Fr} {S:aR} {gb:Gb} {σ:St} {a:Act} {w:World}
def xX (es:List (MK×MK)) (i:Nat):List MapEntry:=(es.zipIdx i).map fun p=>(⟨p.1.1.val,p.1.2.val,p.2⟩:MapEntry)
theorem fx (es:List (MK×MK)):eH es=(xX es 0).toArray:=rfl
theorem xY (es:List (MK×MK)) (i j:Nat):(xX es i)[j]?=(es[j]?).map fun p=>(⟨p.1.val,p.2.val,i+j⟩:MapEntry):=by
 simp only[xX,xK,List.getElem?_zipIdx,Option.map_map];rfl
def Mi:FK->TypeDesc->Bool
 | .s,.string=>true
 | .i,.int _=>true
 |_,_=>false
theorem uC {q:FK} {t:TypeId} (h:Pd P q t=true): ∃d,P.underlying t=some d/\Mi q d=true:=by
 unfold Pd at h;split at h
 ·rename_i e;exact ⟨_,e,rfl⟩
 ·rename_i e;exact ⟨_,e,rfl⟩
 ·cases h
theorem Gy {q:FK} {v:AV} {k:MK} {u:Value} (h:v.mkk q=some k) (hp:PR S gb v u):u=k.val:=by
 unfold AV.mkk at h;split at h
 ·cases h;simpa only[PR,MK.val] using hp
 ·cases h;simpa only[PR,MK.val] using hp
 ·cases h
theorem Ob {v:AV} {k:MK} {u:Value} (h:v.mk=some k) (hp:PR S gb v u):u=k.val:=by
 unfold AV.mk at h;split at h
 ·cases h;simpa only[PR,MK.val] using hp
 ·cases h;simpa only[PR,MK.val] using hp
 ·cases h
theorem Cy (k:MK):PR S gb k.av k.val:=by cases k<;>simp only[MK.av,MK.val,PR]
theorem Mj {k:MK} {u:Value} (h:PR S gb k.av u):u=k.val:=by cases k<;>simpa only[MK.av,MK.val,PR] using h
theorem vM (a b:List UInt8):((⟨a.toArray⟩:ByteArray)==⟨b.toArray⟩)=(a==b):=by
 rw[Bool.eq_iff_iff,MapKept.bytes_beq];constructor
 ·intro h
  have:=congrArg (fun x:ByteArray=>x.data.toList) h
  simpa using this
 ·intro h
  have:a=b:=by simpa using h
  rw[this]
theorem rB {q:FK} {d:TypeDesc} {v:AV} {k k':MK} {r:Bool} (hd:Mi q d=true) (hk:v.mkk q=some k) (h:k.same k'=some r):Instr.sameNow d k.val k'.val=some r:=by
 unfold AV.mkk at hk;split at hk
 ·cases hk;cases d<;>simp[Mi] at hd;cases k' with
  |s b=>simp only[MK.same,cW] at h;simp only[MK.val,Instr.sameNow,vM,h]
  |i l n=>simp[MK.same] at h
 ·cases hk;cases d<;>simp[Mi] at hd;cases k' with
  |s b=>simp[MK.same] at h
  |i l n=>simpa only[MK.same,MK.val,Instr.sameNow] using h
 ·cases hk
theorem i9 {q:FK} {d:TypeDesc} {v:AV} {k:MK} (hd:Mi q d=true) (hk:v.mkk q=some k): ∀(es:List (MK×MK)) (i:Nat) {r:Option (Nat×MK)},gW k es i=some r->
  Instr.findNow d k.val (xX es i) i=some (r.map fun p=>(p.1,p.2.val))/\ ∀p,r=some p-> ∃e,es[p.1 - i]?=some e/\k.same e.1=some true/\e.2=p.2/\i<=p.1
 |[],i,r,h=>by
  simp only[gW,cW] at h;subst h;exact ⟨rfl,by simp⟩
 |e::es,i,r,h=>by
  obtain ⟨k',v'⟩:=e;have he:xX ((k',v')::es) i=⟨k'.val,v'.val,i⟩::xX es (i+1):=rfl;simp only[gW] at h;rw[he];simp only[Instr.findNow];split at h
  ·rename_i hs;cases h;rw[rB hd hk hs];exact ⟨rfl,fun p hp=>by cases hp;exact ⟨(k',v'),by simp,hs,rfl,eR _⟩⟩
  ·rename_i hs;rw[rB hd hk hs];obtain ⟨h1,h2⟩:=i9 hd hk es (i+1) h;refine ⟨h1,fun p hp=>?_⟩;obtain ⟨e,e1,e2,e3,e4⟩:=h2 p hp;refine ⟨e,?_,e2,e3,by omega⟩;rw[show p.1 - i=(p.1 - (i+1))+1 by omega];simpa using e1
  ·cases h
theorem xZ {k k':MK} (h:k.same k'=some true):k'=k:=by
 cases k<;>cases k'<;>simp[MK.same] at h
 ·rw[h]
 ·rw[h.1,h.2]
theorem gL {q:FK} {kt:TypeId} {d:TypeDesc} (hd:P.underlying kt=some d) (hq:Mi q d=true) (v:Value) (e:Bool) (n:Nat):(Instr.checkKey e (n+1) kt v).run P w= .ok () w:=by
 unfold Instr.checkKey;simp only[Sem.run_bind,run_underlying hd,Result.andThen];cases d<;>simp_all[Mi]
theorem vN (k:MK) (n:Nat):Instr.sameBits n k.val k.val=true:=by
 cases k<;>simp[MK.val,Instr.sameBits,MapKept.bytes_beq]
theorem nM (k:MK):(Instr.keyThatStays k.val k.val).run P w= .ok k.val w:=by
 simp[Instr.keyThatStays,vN]
theorem D5 {z:MK} {t:TypeId} (h:Q9 P z t=true):(zeroValue t).run P w= .ok z.val w:=by
 unfold Q9 at h;split at h
 ·rename_i i hi;split at h
  ·rename_i v hv
   have:=l8 (S:=fun _ _=>none) (gb:=fP) _ _ h
   have e:=Mj this;simp[zeroValue,typeInfo,hi,hv,e]
  ·cases h
 ·cases h
theorem D6 (es:List (MK×MK)) (k v:MK):(eH es).push ⟨k.val,v.val,es.length⟩=eH (es++[(k,v)]):=by
 rw[fx,fx];apply Array.ext';simp[xX,List.zipIdx_append]
theorem rC (es:List (MK×MK)) (i:Nat) (k v:MK) (h: ∀e,es[i]?=some e->e.1=k):(eH es).modify i (fun e=>{e with key:=k.val,val:=v.val})=eH (tQ es i v):=by
 rw[fx,fx];apply Array.ext';apply List.ext_getElem?;intro j;simp only[Array.toList_modify,List.getElem?_modify,xY,tQ];by_cases hj:i=j
 ·subst hj;simp only[if_true];cases he:es[i]? with
  |none=>rfl
  |some e=>simp only[Option.map_some,Option.map_eq_map,h e he]
 ·simp only[if_neg hj];cases es[j]?<;>rfl
theorem pX (h:aN F S gb σ a w) {v:AV} {u:Value} {b:Id} {es:List (MK×MK)} (hm:rb σ.bx v=some (b,es)) (hp:PR S gb v u):
  ∃g z,gb b=some (g,z)/\u= .map (some g)/\aD σ.bx b=some [.mpv es]/\b.isIt=true/\w.heap[g]?=some (.map (eH es) es.length)/\ ∀o,S g o=none:=by
 unfold rb at hm;split at hm
 ·rename_i d;split at hm
  ·rename_i es' he;cases hm;simp only[PR] at hp;obtain ⟨g,z,h1,h2,h3⟩:=hp;obtain ⟨g',z',ob,e1,e2,e3,e4⟩:=h.hr.its _ _ he h2;rw[h1] at e1;cases e1;simp only[tG,cW] at e2;subst e2;exact ⟨g,z,h1,h3,he,h2,e3,e4⟩
  ·cases hm
 ·cases hm
end Go.Ai
namespace Go.Ai
open Go.RowKit
variable {P:Program} {F:Fr} {S:aR} {gb:Gb} {σ:St} {a:Act} {w:World}

theorem ax {N d:Nat} {dst:Option Tmp}:aT N d dst=true↔dst=some d/\d<N:=by
 simp[aT]

theorem fI (l:List UInt8):(ByteArray.mk l.toArray).toList=l:=by rw[ByteArray.toList_eq]

theorem D7 {op:BinOp} {x y r:AV} {t:TypeId} {p q:Operand} {u v:Value} (h:Pc op x y=some r) (hx:PR S gb x u) (hy:PR S gb y v):
  ∃z,(do eqGuard op t p q u v;binOp op t u v:Sem Value).run P w= .ok z w/\PR S gb r z:=by
 unfold Pc at h;split at h
 ·rename_i k a k' b;simp only[PR] at hx hy;subst hx;subst hy;split at h<;>(try split at h)<;>simp only[cW,reduceCtorEq] at h<;>(try contradiction)<;>subst h
  ·rename_i e;subst e;exact ⟨_,by simp[binOp_add,Op.intArith];rfl,by simp[PR]⟩
  ·rename_i e;subst e;exact ⟨_,by simp[binOp_sub,Op.intArith];rfl,by simp[PR]⟩
  ·rename_i e;subst e;exact ⟨_,by simp[binOp_mul,Op.intArith];rfl,by simp[PR]⟩
  ·rename_i e;obtain ⟨rfl,e⟩:=e;exact ⟨_,by simp[eqGuard_quo,binOp_quo,Op.intDiv,e];rfl,by simp[PR]⟩
  ·rename_i e;obtain ⟨rfl,e⟩:=e;exact ⟨_,by simp[eqGuard_rem,binOp_rem,Op.intDiv,e];rfl,by simp[PR]⟩
  ·rename_i e;exact ⟨_,by simp[eqGuard_shl,binOp_shl,Op.shift,show ¬b<0 by omega];rfl,by simp[PR]⟩
  ·rename_i e;exact ⟨_,by simp[eqGuard_shr,binOp_shr,Op.shift,show ¬b<0 by omega];rfl,by simp[PR]⟩
  ·rename_i e;subst e;exact ⟨_,by simp[eqGuard_at_int,binOp_eql];rfl,by simp[PR]⟩
  ·rename_i e;subst e;exact ⟨_,by simp[eqGuard_at_int,binOp_neq];rfl,by simp[PR]⟩
  ·rename_i e;subst e;exact ⟨_,by simp[eqGuard_lss,binOp_lss];rfl,by simp[PR]⟩
  ·rename_i e;subst e;exact ⟨_,by simp[eqGuard_leq,binOp_leq];rfl,by simp[PR]⟩
  ·rename_i e;subst e;exact ⟨_,by simp[eqGuard_gtr,binOp_gtr];rfl,by simp[PR]⟩
  ·rename_i e;subst e;exact ⟨_,by simp[eqGuard_geq,binOp_geq];rfl,by simp[PR]⟩
  ·rename_i e;subst e;cases op<;>first|contradiction|exact ⟨_,by simp[eqGuard_and,eqGuard_or,eqGuard_xor,eqGuard_andNot,binOp_and,binOp_or,binOp_xor,binOp_andNot,intBits_and,intBits_or,intBits_xor,intBits_andNot];rfl,by simp[PR]⟩
 ·rename_i a b;simp only[PR] at hx hy;subst hx;subst hy;split at h<;>(try split at h)<;>simp only[cW,reduceCtorEq] at h<;>(try contradiction)<;>subst h
  ·rename_i e;refine ⟨.string ⟨(a++b).toArray⟩,?_,by simp[PR]⟩;have e1:(ByteArray.mk a.toArray++ByteArray.mk b.toArray)=ByteArray.mk (a++b).toArray:=by
    apply ByteArray.ext;simp
   have e2:(ByteArray.mk a.toArray).size=a.length:=rfl;have e3:(ByteArray.mk b.toArray).size=b.length:=rfl;simp[eqGuard_at_string,binOp,Op.stringOp,e1,e2,e3,show ¬(9223372036854775807<(a.length:Int)+(b.length:Int)) by omega]
  ·exact ⟨_,by simp[eqGuard_at_string,binOp,Op.stringOp,fI];rfl,by simp[PR]⟩
  ·exact ⟨_,by simp[eqGuard_at_string,binOp,Op.stringOp,fI];rfl,by simp[PR]⟩
  ·exact ⟨_,by simp[eqGuard_at_string,binOp,Op.stringOp,fI];rfl,by simp[PR]⟩
  ·exact ⟨_,by simp[eqGuard_at_string,binOp,Op.stringOp,fI];rfl,by simp[PR]⟩
  ·exact ⟨_,by simp[eqGuard_at_string,binOp,Op.stringOp,fI];rfl,by simp[PR]⟩
  ·exact ⟨_,by simp[eqGuard_at_string,binOp,Op.stringOp,fI];rfl,by simp[PR]⟩
 ·cases h

theorem vO {d:Nat} {k:FK} {x y:AV} {b:Bool} {t:TypeId} {u v:Value} (h:vF k x y=some b) (hx:PR S gb x u) (hy:PR S gb y v)
  (hd:k= .b/\P.underlying t=some .bool\/k= .i/\(∃k,P.underlying t=some (.int k))\/k= .s/\P.underlying t=some .string):
  (Op.equalIn (d+1) t u v).run P w= .ok b w:=by
 unfold vF at h;split at h
 ·split at h
  ·rename_i e;subst e;simp only[cW] at h;subst h;simp only[PR] at hx hy;subst hx;subst hy;rcases hd with ⟨h,_⟩|⟨_,_,hd⟩|⟨h,_⟩
   ·cases h
   ·exact run_equalIn_int (h:=hd) ..
   ·cases h
  ·cases h
 ·simp only[cW] at h;subst h;simp only[PR] at hx hy;subst hx;subst hy;rcases hd with ⟨_,hd⟩|⟨h,_,hd⟩|⟨h,_⟩
  ·exact run_equalIn_bool' (h:=hd) ..
  ·cases h
  ·cases h
 ·simp only[cW] at h;subst h;simp only[PR] at hx hy;subst hx;subst hy;rcases hd with ⟨h,hd⟩|⟨h,_,hd⟩|⟨_,hd⟩
  ·cases h
  ·cases h
  ·rw[run_equalIn_string (h:=hd),fI,fI]
 ·cases h

theorem lF {ks ls:List FK} {xs ys:List AV} {b:Bool} (h:cw (ks++ls) xs ys=some b):
  ∃b1 b2,cw ks (xs.take ks.length) (ys.take ks.length)=some b1/\cw ls (xs.drop ks.length) (ys.drop ks.length)=some b2/\b=(b1&&b2):=by
 induction ks generalizing xs ys b with
 |nil=>exact ⟨true,b,by simp[cw],by simpa using h,by simp⟩
 |cons k ks ih=>
  cases xs with
  |nil=>simp[cw] at h
  |cons x xs=>
   cases ys with
   |nil=>simp[cw] at h
   |cons y ys=>
    simp only[cB,cw] at h;split at h
    ·rename_i b0 b' e1 e2;simp only[cW] at h;obtain ⟨b1,b2,h1,h2,h3⟩:=ih e2;refine ⟨b0&&b1,b2,?_,by simpa using h2,?_⟩
     ·simp[cw,e1,h1]
     ·rw[<-h,h3,Bool.and_assoc]
    ·cases h
theorem ew {ks:List FK} {xs ys:List AV} {b:Bool} (h:cw ks xs ys=some b):xs.length=ks.length/\ys.length=ks.length:=by
 induction ks generalizing xs ys b with
 |nil=>cases xs<;>cases ys<;>simp[cw] at h ⊢
 |cons k ks ih=>
  cases xs with
  |nil=>simp[cw] at h
  |cons x xs=>
   cases ys with
   |nil=>simp[cw] at h
   |cons y ys=>
    simp only[cw] at h;split at h
    ·rename_i e1 e2;have:=ih e2;simp[this.1,this.2]
    ·cases h

theorem A7 {t o:Nat} {us:Array Value} {u:Value} (ht:mW P t=true) (hu:us[o]?=some u):(part t us o).run P w= .ok u w:=by
 simp[part,js ht,hu]
theorem m4 {t o n:Nat} {us:Array Value} (ht:jV P t=true) (hn:pW P t=some n):(part t us o).run P w= .ok (.agg (us.extract o (o+n))) w:=by
 simp[part,lE ht,bP hn]

def dO (P:Program) (t:TypeId) (us:List Value):Value:=if jV P t=true then .agg us.toArray else us.headD undef

theorem nN {t o n:Nat} {us:List Value} (hn:pW P t=some n) (hl:o+n<=us.length) (h1:jV P t=true\/mW P t=true/\n=1):
  (part t us.toArray o).run P w= .ok (dO P t ((us.drop o).take n)) w:=by
 by_cases h:jV P t=true
 ·rw[m4 h hn];simp[dO,h,List.extract_eq_take_drop,Nat.add_sub_cancel_left]
 ·rcases h1 with h1|⟨h1,rfl⟩
  ·exact absurd h1 h
  ·have:o<us.length:=by omega
   rw[A7 h1 (u:=us[o]) (by simp[this])];have e2:(us.drop o).take 1=[us[o]]:=by rw[xI this];rfl
   rw[e2];simp[dO,h]

theorem o7: ∀(d:Nat) (t:TypeId) (ks:List FK) (e:Nat),Mh P d t=some ks-> ∀ {xs ys:List AV} {us vs:List Value} {b:Bool} (w:World),cw ks xs ys=some b->aa S gb xs us->aa S gb ys vs->
  (Op.equalIn (d+e) t (dO P t us) (dO P t vs)).run P w= .ok b w/\(jV P t=true\/mW P t=true/\ks.length=1)
 |0,t,ks,e,h,xs,ys,us,vs,b,w,_,_,_=>by simp[Mh] at h
 |d+1,t,ks,e,h,xs,ys,us,vs,b,w,hc,hx,hy=>by
  have one: ∀k,ks=[k]->jV P t=false->(k= .b/\P.underlying t=some .bool\/k= .i/\(∃k,P.underlying t=some (.int k))\/k= .s/\P.underlying t=some .string)->(Op.equalIn (d+1+e) t (dO P t us) (dO P t vs)).run P w= .ok b w:=by
   rintro k rfl ha hk;obtain ⟨l1,l2⟩:=ew hc
   match xs,ys,l1,l2 with
   |[x],[y],_,_=>
    simp only[aa] at hx hy;obtain ⟨u,_,rfl,hx,rfl⟩:=hx;obtain ⟨v,_,rfl,hy,rfl⟩:=hy;simp only[cw] at hc;split at hc
    ·rename_i b1 b2 e1 e2;simp only[cW] at e2 hc;subst e2;simp at hc;subst hc;simp only[dO,ha];rw[show d+1+e=(d+e)+1 by omega];exact vO e1 hx hy hk
    ·cases hc
  unfold Mh at h;split at h
  ·rename_i hu;simp only[cW] at h;subst h;exact ⟨one _ rfl (by simp[jV,hu]) (.inl ⟨rfl,hu⟩),.inr ⟨by simp[mW,hu],rfl⟩⟩
  ·rename_i k hu;simp only[cW] at h;subst h;exact ⟨one _ rfl (by simp[jV,hu]) (.inr (.inl ⟨rfl,k,hu⟩)),.inr ⟨by simp[mW,hu],rfl⟩⟩
  ·rename_i hu;simp only[cW] at h;subst h;exact ⟨one _ rfl (by simp[jV,hu]) (.inr (.inr ⟨rfl,hu⟩)),.inr ⟨by simp[mW,hu],rfl⟩⟩
  ·rename_i fs hu;split at h
   ·cases h
   ·rename_i hst;have ha:jV P t=true:=by simp[jV,hu]
    refine ⟨?_,.inl ha⟩;have hf:P.underlying t=some (.struct (P.fieldsOf t)):=by simp[Program.fieldsOf,hu]
    simp only[dO,ha,if_true];rw[show d+1+e=(d+e)+1 by omega,run_equalIn_struct w (d+e) t _ _ hf (by simpa using hst)];have hfs:P.fieldsOf t=fs:=by simp[Program.fieldsOf,hu]
    rw[hfs];have key: ∀(l:List Field) (o:Nat) (ks:List FK),Gw P (Mh P d) l o=some ks-> ∀(b:Bool),cw ks (xs.drop o) (ys.drop o)=some b->
      (Op.eqFields (d+e) us.toArray vs.toArray l).run P w= .ok b w:=by
     intro l;induction l with
     |nil=>
      intro o ks hk b hb;simp only[Gw,cW] at hk;subst hk
      have:=ew hb
      rw[List.length_eq_zero_iff.1 this.1,List.length_eq_zero_iff.1 this.2] at hb;simp[cw] at hb;subst hb;simp[Op.eqFields]
     |cons f r ih=>
      intro o ks hk b hb;simp only[Gw] at hk;split at hk
      ·rename_i hn;split at hk
       ·rename_i k1 k2 e1 e2;split at hk
        ·rename_i hsz;simp only[cW] at hk;subst hk;obtain ⟨b1,b2,c1,c2,rfl⟩:=lF hb;have hx':=(hx.drop o).take k1.length;have hy':=(hy.drop o).take k1.length;obtain ⟨g1,g2⟩:=o7 d f.type k1 e e1 w c1 hx' hy';have lx:=ew hb;simp only[fT,xy,aa.length hx,aa.length hy] at lx;have g2':jV P f.type=true\/mW P f.type=true/\k1.length=1:=g2;by_cases hk0:k1.length=0
         ·
          have p1:(part f.type us.toArray o).run P w= .ok (dO P f.type ((us.drop o).take k1.length)) w:=by
           rcases g2' with g|⟨_,g⟩
           ·rw[m4 g hsz];simp[dO,g,List.extract_eq_take_drop,hk0]
           ·omega
          have p2:(part f.type vs.toArray o).run P w= .ok (dO P f.type ((vs.drop o).take k1.length)) w:=by
           rcases g2' with g|⟨_,g⟩
           ·rw[m4 g hsz];simp[dO,g,List.extract_eq_take_drop,hk0]
           ·omega
          have ih':=ih (o+k1.length) k2 (by rw[hsz] at e2;simpa using e2) b2 (by simpa[List.drop_drop] using c2);simp only[Op.eqFields,hn.1,ne_eq,not_false_eq_true,if_true,hn.2,Sem.run_bind,p1,p2,Result.andThen_ok,g1];cases b1<;>simp[ih']
         ·have p1:=nN (P:=P) (w:=w) (t:=f.type) (o:=o) (n:=k1.length) (us:=us) hsz (by omega) g2';have p2:=nN (P:=P) (w:=w) (t:=f.type) (o:=o) (n:=k1.length) (us:=vs) hsz (by omega) g2';have ih':=ih (o+k1.length) k2 (by rw[hsz] at e2;simpa using e2) b2 (by simpa[List.drop_drop] using c2);simp only[Op.eqFields,hn.1,ne_eq,not_false_eq_true,if_true,hn.2,Sem.run_bind,p1,p2,Result.andThen_ok,g1];cases b1<;>simp[ih']
        ·cases hk
       ·cases hk
      ·cases hk
    exact key fs.toList 0 ks h b (by simpa using hc)
  ·rename_i n el hu;split at h
   ·rename_i k hk;split at h
    ·rename_i hse;obtain ⟨hsc,hsz⟩:=hse;simp only[cW] at h;have ha:jV P t=true:=by simp[jV,hu]
     refine ⟨?_,.inl ha⟩;simp only[dO,ha,if_true];cases hi:P.info? el with
     |none=>simp[pW,hi] at hsz
     |some i=>
      have hce:P.cellsOf el=1:=by
       have:i.size=1:=by simpa[pW,hi] using hsz
       simp[Program.cellsOf,hi,this]
      rw[show d+1+e=(d+e)+1 by omega,run_equalIn_array w (d+e) us.toArray vs.toArray hu hi,hce];have key: ∀(m o:Nat) (b:Bool),cw (List.replicate m k) (xs.drop o) (ys.drop o)=some b->
        (Op.eqItems (d+e) el 1 us.toArray vs.toArray (List.range' o m)).run P w= .ok b w:=by
       intro m;induction m with
       |zero=>
        intro o b hb
        have:=ew hb
        rw[List.length_eq_zero_iff.1 this.1,List.length_eq_zero_iff.1 this.2] at hb;simp[cw] at hb;subst hb;simp[Op.eqItems]
       |succ m ih=>
        intro o b hb;have lx:=ew hb;simp only[List.length_replicate,xy,aa.length hx,aa.length hy] at lx;rw[List.replicate_succ,<-List.singleton_append] at hb;obtain ⟨b1,b2,c1,c2,rfl⟩:=lF hb;have hx':=(hx.drop o).take 1;have hy':=(hy.drop o).take 1;obtain ⟨g1,_⟩:=o7 d el [k] e hk w c1 hx' hy';have p1:=nN (P:=P) (w:=w) (t:=el) (o:=o) (n:=1) (us:=us) hsz (by omega) (.inr ⟨hsc,rfl⟩);have p2:=nN (P:=P) (w:=w) (t:=el) (o:=o) (n:=1) (us:=vs) hsz (by omega) (.inr ⟨hsc,rfl⟩);have ih':=ih (o+1) b2 (by simpa[List.drop_drop] using c2);simp only[List.range'_succ,Op.eqItems,Nat.mul_one,Sem.run_bind,p1,p2,Result.andThen_ok,g1];cases b1<;>simp[ih']
      have:=key n 0 b (by simpa[h] using hc)
      rw[List.range_eq_range'];exact this
    ·cases h
   ·cases h
  ·cases h
end Go.Ai
namespace Go.Ai
open Go.RowKit
variable {P:Program} {F:Fr} {S:aR} {gb:Gb} {σ:St} {a:Act} {w:World}

theorem eJ {b o:Nat} {us:List Value} (h: ∀j u,us[j]?=some u->w.cell? ⟨b,o+j,none⟩=some u):(loadCells ⟨b,o,none⟩ us.length).run P w= .ok us.toArray w:=
 run_loadCells_list (P:=P) w ⟨b,o,none⟩ us (fun j u hu=>by rw[Addr.add_lit];exact h j u hu)

theorem aN.boxcell (h:aN F S gb σ a w) {d:Id} {g:Nat} {z:BZ} {cs:List AV} (hd:aD σ.bx d=some cs) (hi:d.isIt=false) (hg:gb d=some (g,z)):
  ∃us:List Value,(∀j u,us[j]?=some u->w.cell? ⟨g,j,none⟩=some u)/\aa S gb cs us/\(∀u∈us,u.oneCell'=true):=by
 obtain ⟨g',us,T,e1,e3,e0,e4,e5,_⟩:=h.hr.box d cs hd hi;rw[hg] at e1;cases e1;refine ⟨us.toList.take cs.length,fun j u hu=>?_,e4,fun u hu=>e5 u (DT hu)⟩;rw[cell_of_row w g j us T _ e3];rw[qr] at hu;split at hu
 ·simpa using hu
 ·cases hu

theorem uD {S:aR} {gb:Gb} {c:AV} {u:Value} (h:PR S fP c u):PR S gb c u:=PR.mono (aR.le.refl _) (AY _) _ _ h
theorem rD {S:aR} {gb:Gb} {c:List AV} {u:List Value} (h:aa S fP c u):aa S gb c u:=aa.mono (aR.le.refl _) (AY _) _ _ h

theorem lG (h:aN F S gb σ a w) {x v:AV} {p:Value} {t:Nat} (ht:mW P t=true) (hl:e8 σ.bx x=some v) (hx:PR S gb x p):
  ∃u,(Instr.loadAt t p).run P w= .ok u w/\PR S gb v u:=by
 unfold e8 at hl;split at hl
 ·rename_i d off;split at hl
  ·rename_i cs hcs;simp only[PR] at hx;obtain ⟨g,z,hg,hi,rfl⟩:=hx;obtain ⟨us,h1,h2,_⟩:=h.boxcell hcs hi hg;obtain ⟨u,hu,hp⟩:=h2.get hl;exact ⟨u,by simp[Instr.loadAt,Instr.sureAddr,loadVar,js ht,h1 off u hu],hp⟩
  ·cases hl
 ·rename_i cs;simp only[PR] at hx;obtain ⟨g,o,rfl,hc⟩:=hx;obtain ⟨u,h1,h0,h2⟩:=hc.get hl;have h1':=h.hr.agree _ _ _ h1;simp only[tF] at h1';exact ⟨u,by simp[Instr.loadAt,Instr.sureAddr,loadVar,js ht,h1'],uD h2⟩
 ·cases hl

theorem pY (h:aN F S gb σ a w) {x v:AV} {p:Value} {t n:Nat} (ht:jV P t=true) (hn:pW P t=some n) (hl:uq σ.bx n x=some v) (hx:PR S gb x p):
  ∃u,(Instr.loadAt t p).run P w= .ok u w/\PR S gb v u:=by
 unfold uq at hl;split at hl
 ·rename_i d off;split at hl
  ·rename_i cs hcs;split at hl
   ·rename_i hle;simp only[cW] at hl;subst hl;simp only[PR] at hx;obtain ⟨g,z,hg,hi,rfl⟩:=hx;obtain ⟨us,h1,h2,h3⟩:=h.boxcell hcs hi hg;have h4:=(h2.drop off).take n;have hlen:((us.drop off).take n).length=n:=by have:=h2.length;simp;omega
    have hld:=eJ (P:=P) (w:=w) (b:=g) (o:=off) (us:=(us.drop off).take n) (fun j u hu=>by
     rw[qr] at hu;split at hu
     ·rw[List.getElem?_drop] at hu;exact h1 _ _ hu
     ·cases hu)
    rw[hlen] at hld;refine ⟨.agg ((us.drop off).take n).toArray,by simp[Instr.loadAt,Instr.sureAddr,loadVar,lE ht,bP hn,hld],?_⟩;simp only[PR];exact ⟨_,rfl,fun u hu=>h3 u (List.mem_of_mem_drop (DT (by simpa using hu))),by simpa using h4⟩
   ·cases hl
  ·cases hl
 ·rename_i cs;split at hl
  ·rename_i hle;simp only[cW] at hl;subst hl;simp only[PR] at hx;obtain ⟨g,o,rfl,hc⟩:=hx;obtain ⟨us,l1,l2,l3,l4⟩:=hc.list;have hlen:(us.take n).length=n:=by simp;omega
   have hld:=eJ (P:=P) (w:=w) (b:=g) (o:=o) (us:=us.take n) (fun j u hu=>by
     rw[qr] at hu;split at hu
     ·exact h.hr.agree _ _ _ (l2 _ _ hu)
     ·cases hu)
   rw[hlen] at hld;refine ⟨.agg (us.take n).toArray,by simp[Instr.loadAt,Instr.sureAddr,loadVar,lE ht,bP hn,hld],?_⟩;simp only[PR];exact ⟨_,rfl,fun u hu=>l3 u (DT (by simpa using hu)),by simpa using rD (l4.take n)⟩
  ·cases hl
 ·cases hl

theorem rE {v:AV} {cs:List AV} {u:Value} (h:v.cs=some cs) (hp:PR S gb v u):aa S gb cs u.cells.toList/\(∀c∈u.cells.toList,c.oneCell'=true):=by
 cases v<;>simp only[AV.cs,cW,reduceCtorEq] at h
 case agg cs'=>
  subst h;simp only[PR] at hp;obtain ⟨us,rfl,h1,h2⟩:=hp;exact ⟨h2,h1⟩
 all_goals subst h
 all_goals (have hp':=hp;simp only[PR] at hp)
 case int=>subst hp;exact ⟨⟨_,[],rfl,hp',rfl⟩,by simp[Value.cells,Value.oneCell']⟩
 case nilT=>obtain ⟨rfl,_⟩:=hp;exact ⟨⟨_,[],rfl,hp',rfl⟩,by simp[Value.cells,Value.oneCell']⟩
 case bool=>subst hp;exact ⟨⟨_,[],rfl,hp',rfl⟩,by simp[Value.cells,Value.oneCell']⟩
 case str=>subst hp;exact ⟨⟨_,[],rfl,hp',rfl⟩,by simp[Value.cells,Value.oneCell']⟩
 case nils=>subst hp;exact ⟨⟨_,[],rfl,hp',rfl⟩,by simp[Value.cells,Value.oneCell']⟩
 case nilp=>subst hp;exact ⟨⟨_,[],rfl,hp',rfl⟩,by simp[Value.cells,Value.oneCell']⟩
 case sl=>
  rcases hp with ⟨rfl,_⟩|⟨_,_,_,rfl,_⟩<;>exact ⟨⟨_,[],rfl,hp',rfl⟩,by simp[Value.cells,Value.oneCell']⟩
 case pin=>obtain ⟨_,_,rfl,_⟩:=hp;exact ⟨⟨_,[],rfl,hp',rfl⟩,by simp[Value.cells,Value.oneCell']⟩
 case ptr=>obtain ⟨_,_,_,_,rfl⟩:=hp;exact ⟨⟨_,[],rfl,hp',rfl⟩,by simp[Value.cells,Value.oneCell']⟩
 case mref=>obtain ⟨_,_,_,_,rfl⟩:=hp;exact ⟨⟨_,[],rfl,hp',rfl⟩,by simp[Value.cells,Value.oneCell']⟩
 case ms=>obtain ⟨_,_,_,_,_,rfl,_⟩:=hp;exact ⟨⟨_,[],rfl,hp',rfl⟩,by simp[Value.cells,Value.oneCell']⟩
 case fn=>obtain ⟨_,rfl,_⟩:=hp;obtain ⟨x,y,z,e⟩:=Me _ _;rw[e] at hp' ⊢;exact ⟨⟨_,[],rfl,hp',rfl⟩,by simp[Value.cells,Value.oneCell']⟩
 case ifc=>obtain ⟨_,rfl,_⟩:=hp;exact ⟨⟨_,[],rfl,hp',rfl⟩,by simp[Value.cells,Value.oneCell']⟩
 case nili=>subst hp;exact ⟨⟨_,[],rfl,hp',rfl⟩,by simp[Value.cells,Value.oneCell']⟩
 case yv=>subst hp;exact ⟨⟨_,[],rfl,hp',rfl⟩,by simp[Value.cells,Value.oneCell']⟩

theorem yG (vs:List Value) (off:Nat): ∀(k:Nat) (cs:Array Value),off+k+vs.length<=cs.size->
  ((vs.zipIdx k).foldl (fun cs (x:Value×Nat)=>cs.setIfInBounds (off+x.2) x.1) cs).toList=cs.toList.take (off+k)++vs++cs.toList.drop (off+k+vs.length):=by
 induction vs with
 |nil=>intro k cs h;simp
 |cons v r ih=>
  intro k cs h;have h2:=ih (k+1) (cs.setIfInBounds (off+k) v) (by simp at h ⊢;omega);simp only[List.zipIdx_cons,List.foldl_cons];rw[h2];simp only[Array.toList_setIfInBounds,e7];have hk:off+k<cs.toList.length:=by simp at h ⊢;omega
  have e4:(cs.toList.set (off+k) v).take (off+(k+1))=cs.toList.take (off+k)++[v]:=by
   rw[show off+(k+1)=off+k+1 by omega,Jo (by simpa using hk)];simp[List.take_set];exact List.set_eq_of_length_le (by simp;omega)
  have e5:(cs.toList.set (off+k) v).drop (off+(k+1)+r.length)=cs.toList.drop (off+k+(r.length+1)):=by
   rw[List.drop_set_of_lt (by omega)];congr 1
   omega
  rw[e4,e5];simp

theorem aa.fill {S:aR} {gb:Gb} {z cs:List AV} {zs us:List Value} {off:Nat} (hz:aa S gb z zs) (hc:aa S gb cs us):aa S gb (f9 z off cs) (zs.take off++us++zs.drop (off+us.length)):=by
 unfold f9;rw[hc.length];exact ((hz.take off).append hc).append (hz.drop _)

theorem kG (h:aN F S gb σ a w) (fs:List (Nat×Nat)): ∀ {ps:List (Nat×Nat×X)} {qs:List (Nat×Operand)},mZ F.GL fs ps qs=true-> ∀ {z r:List AV} {zs:Array Value},kD σ ps z=some r->
  aa S gb z zs.toList->(∀u∈zs.toList,u.oneCell'=true)->
  ∃us,Instr.fill (fs[·]?) zs (qs.map fun x=>(x.1,a.eval x.2))=some us/\aa S gb r us.toList/\(∀u∈us.toList,u.oneCell'=true)
 |[],qs,hm,z,r,zs,hb,hz,h1=>by
  cases qs<;>simp[mZ] at hm;simp[kD] at hb;subst hb;exact ⟨zs,by simp[Instr.fill],hz,h1⟩
 |(off,n,x)::ps,qs,hm,z,r,zs,hb,hz,h1=>by
  cases qs with
  |nil=>simp[mZ] at hm
  |cons q qs=>
   obtain ⟨i,y⟩:=q;simp only[mZ,aJ,cI] at hm;obtain ⟨⟨hi,hx⟩,hm⟩:=hm;simp only[kD] at hb;split at hb
   ·rename_i cs hcs;split at hb
    ·rename_i hl;have hp:=az h hx;obtain ⟨h2,h3⟩:=rE hcs hp;have hlen:(a.eval y).cells.size=n:=by rw[<-qq,<-h2.length];exact hl.1
     have hzl:z.length=zs.size:=by rw[hz.length];simp
     have hfold:=yG (a.eval y).cells.toList off 0 zs (by simp;omega);simp only[tF] at hfold;have hnew:aa S gb (f9 z off cs) ((a.eval y).cells.toList.zipIdx.foldl (fun cs (x:Value×Nat)=>cs.setIfInBounds (off+x.2) x.1) zs).toList:=by
      rw[hfold];exact hz.fill h2
     have hone: ∀u∈((a.eval y).cells.toList.zipIdx.foldl (fun cs (x:Value×Nat)=>cs.setIfInBounds (off+x.2) x.1) zs).toList,u.oneCell'=true:=by
      rw[hfold];intro u hu;simp only[jD] at hu;rcases hu with (hu|hu)|hu
      ·exact h1 u (DT hu)
      ·exact h3 u hu
      ·exact h1 u (List.mem_of_mem_drop hu)
     obtain ⟨us,g1,g2,g3⟩:=kG h fs hm hb hnew hone;refine ⟨us,?_,g2,g3⟩;simp only[fZ,Instr.fill,hi];rw[if_neg (by simp[hlen];omega),<-Array.foldl_toList,Array.toList_zipIdx];exact g1
    ·cases hb
   ·cases hb
end Go.Ai
namespace Go.Ai
open Go.RowKit
variable {P:Program} {F:Fr} {S:aR} {gb:Gb} {σ:St} {a:Act} {w:World}

theorem qx {t f:Nat} {p:Nat×Nat} (h:(gY P t)[f]?=some p): ∃fs fd,P.underlying t=some (.struct fs)/\fs[f]?=some fd/\p=(fd.offset,(pW P fd.type).getD 0):=by
 unfold gY at h;split at h
 ·rename_i fs hu;rw[xK] at h;simp only[AB,Array.getElem?_toList] at h;obtain ⟨fd,h1,h2⟩:=h;exact ⟨fs,fd,hu,h1,h2.symm⟩
 ·simp at h

theorem uE {p q:Nat->Option (Nat×Nat)} (hpq: ∀i x,p i=some x->q i=some x): ∀ {l:List (Nat×Value)} {z r:Array Value},Instr.fill p z l=some r->Instr.fill q z l=some r
 |[],z,r,h=>by simpa[Instr.fill] using h
 |(i,v)::l,z,r,h=>by
  simp only[Instr.fill] at h ⊢;cases hp:p i with
  |none=>rw[hp] at h;cases h
  |some x=>
   rw[hp] at h;rw[hpq i x hp];simp only at h ⊢;split at h
   ·cases h
   ·rename_i hc;rw[if_neg hc];exact uE hpq h
theorem nO (h:aN F S gb σ a w) {o:Oper} {ao:bv} (hm:dC P F.GL F.N o ao=true) {d:Nat} {v:AV} (he:ev σ ao=some (d,v)):
  o.dst=some d/\d<F.N/\ ∃u,(execOp a.eval o).run P w= .ok (.value u) w/\PR S gb v u:=by
 cases ao<;>simp only[ev,reduceCtorEq] at he
 case mv d' x=>
  simp only[cW,jM] at he;obtain ⟨rfl,rfl⟩:=he;simp only[dC,aJ,ax] at hm;obtain ⟨⟨h1,h2⟩,hm⟩:=hm;refine ⟨h1,h2,?_⟩;split at hm<;>(try cases hm)
  all_goals
   rename_i y hop;exact ⟨a.eval y,by unfold execOp;simp only[hop];rfl,az h hm⟩
 case pk d' c x y=>
  simp only[dC,aJ,ax] at hm;obtain ⟨⟨h1,h2⟩,hm⟩:=hm;split at hm<;>(try cases hm);rename_i c' x' y' hop;simp only[aJ] at hm;have hc:=az h hm.1.1;have hx:=az h hm.1.2;have hy:=az h hm.2;split at he
  ·rename_i t ht;rw[ht] at hc;simp only[PR] at hc;simp only[cW,jM] at he;obtain ⟨rfl,rfl⟩:=he;refine ⟨h1,h2,if t=true then a.eval x' else a.eval y',by unfold execOp;simp only[hop];simp[hc,asBool],?_⟩;cases t
   ·exact hy
   ·exact hx
  ·cases he
 case bi d' op x y=>
  simp only[dC,aJ,ax] at hm;obtain ⟨⟨h1,h2⟩,hm⟩:=hm;split at hm<;>(try cases hm);rename_i op' t x' y' ty hop;simp only[aJ,cI] at hm;have hx:=az h hm.1.2;have hy:=az h hm.2;obtain rfl:=hm.1.1;split at he
  ·rename_i r hr;simp only[cW,jM] at he;obtain ⟨rfl,rfl⟩:=he;obtain ⟨z,hz,hp⟩:=D7 (P:=P) (w:=w) (t:=t) (p:=x') (q:=y') hr hx hy;refine ⟨h1,h2,z,?_,hp⟩;unfold execOp;simp only[hop,Sem.run_bind] at hz ⊢;rw[hz];rfl
  ·cases he
 case bb d' neg x y=>simp[dC] at hm
 case ea d' neg ks x y=>
  simp only[dC,aJ,ax] at hm;obtain ⟨⟨h1,h2⟩,hm⟩:=hm;split at hm<;>(try cases hm);rename_i op' t x' y' ty hop;simp only[aJ,cI,tL] at hm;have hx:=az h hm.1.2;have hy:=az h hm.2;obtain ⟨⟨⟨⟨⟨hop',hk⟩,ha⟩,hg⟩,_⟩,_⟩:=hm;split at he
  ·rename_i xs ys hb hc;split at he
   ·rename_i b hcs;simp only[cW,jM] at he;obtain ⟨rfl,rfl⟩:=he;rw[hb] at hx;rw[hc] at hy;simp only[PR] at hx hy;obtain ⟨us,hx1,_,hx2⟩:=hx;obtain ⟨vs,hy1,_,hy2⟩:=hy;obtain ⟨g1,_⟩:=o7 (P:=P) 4 t ks 9996 hk w hcs hx2 hy2;simp only[dO,ha,if_true,Array.toArray_toList] at g1;refine ⟨h1,h2,.bool (if neg=true then !b else b),?_,by simp[PR]⟩;unfold execOp;simp only[hop,hx1,hy1,Sem.run_bind,run_eqGuard_agg (hm:=hg),Result.andThen_ok];cases neg
    ·simp only[hop',tK,if_false,run_eql_struct,g1,Result.andThen_ok,Sem.run_pure]
    ·simp only[hop',if_true,run_neq_struct,g1,Result.andThen_ok,Sem.run_pure]
   ·cases he
  ·cases he
 case pn d' neg x=>
  simp only[dC,aJ,ax] at hm;obtain ⟨⟨h1,h2⟩,hm⟩:=hm;split at hm<;>(try cases hm);rename_i op' t x' ty hop;simp only[aJ,cI] at hm;have hx:=az h hm.2;obtain ⟨e,hu⟩: ∃e,P.underlying t=some (.pointer e):=by
   have:=hm.1.2
   split at this<;>simp_all
  have hu':P.underlying t=some (.pointer (P.pointee t)):=by rw[hu];simp[Program.pointee,hu]
  have hop':=hm.1.1;have run: ∀p:Option Addr,a.eval x'= .pointer p->(execOp a.eval o).run P w= .ok (.value (.bool (if neg=true then !p.isNone else p.isNone))) w:=by
   intro p hp;have ec:a.eval (.const (.pointer none))= .pointer none:=rfl;unfold execOp;cases neg
   ·simp only[tK,if_false] at hop' ⊢;subst hop';simp[hop,hp,ec,eqGuard_at_pointer,run_eql_pointer_nil w t p hu']
   ·simp only[if_true] at hop' ⊢;subst hop';simp[hop,hp,ec,eqGuard_at_pointer,run_neq_pointer_nil w t p hu']
  split at he
  ·rename_i b bo hb;simp only[cW,jM] at he;obtain ⟨rfl,rfl⟩:=he;rw[hb] at hx;simp only[PR] at hx;obtain ⟨g,z,_,_,hx⟩:=hx;exact ⟨h1,h2,_,run _ hx,by cases neg<;>simp[PR]⟩
  ·rename_i cs hb;simp only[cW,jM] at he;obtain ⟨rfl,rfl⟩:=he;rw[hb] at hx;simp only[PR] at hx;obtain ⟨g,z,hx,_⟩:=hx;exact ⟨h1,h2,_,run _ hx,by cases neg<;>simp[PR]⟩
  ·rename_i hb;simp only[cW,jM] at he;obtain ⟨rfl,rfl⟩:=he;rw[hb] at hx;simp only[PR] at hx;exact ⟨h1,h2,_,run _ hx,by cases neg<;>simp[PR]⟩
  ·cases he
 case un d' op x=>
  simp only[dC,aJ,ax] at hm;obtain ⟨⟨h1,h2⟩,hm⟩:=hm;split at hm<;>(try cases hm);rename_i op' t x' hop;simp only[aJ,cI] at hm;have hx:=az h hm.2;obtain rfl:=hm.1;split at he
  ·rename_i b hb;simp only[cW,jM] at he;obtain ⟨rfl,rfl⟩:=he;rw[hb] at hx;simp only[PR] at hx;exact ⟨h1,h2,.bool (!b),by unfold execOp;simp[hop,hx,Op.unary],by simp[PR]⟩
  ·rename_i k n hb;simp only[cW,jM] at he;obtain ⟨rfl,rfl⟩:=he;rw[hb] at hx;simp only[PR] at hx;exact ⟨h1,h2,.int k (k.wrap (0 - n)),by unfold execOp;simp[hop,hx,Op.unary,Op.intArith],by simp[PR]⟩
  ·cases he
 case cv d' k x=>
  simp only[dC,aJ,ax] at hm;obtain ⟨⟨h1,h2⟩,hm⟩:=hm;split at hm<;>(try cases hm);rename_i s t x' hop;simp only[aJ] at hm;have hx:=az h hm.2;obtain ⟨⟨hs,ht⟩,_⟩:=hm;have ht':P.underlying t=some (.int k):=by split at ht<;>simp_all
  split at he
  ·rename_i k0 n hb;simp only[cW,jM] at he;obtain ⟨rfl,rfl⟩:=he;rw[hb] at hx;simp only[PR] at hx;obtain ⟨ds,hds⟩:=jp.1 hs;exact ⟨h1,h2,.int k (k.wrap n),by unfold execOp;simp[hop,hx,convert,run_underlying hds,run_underlying ht',Conv.intToInt],by simp[PR]⟩
  ·cases he
 case ln d' x=>
  simp only[dC,aJ,ax] at hm;obtain ⟨⟨h1,h2⟩,hm⟩:=hm;split at hm<;>(try cases hm);rename_i as ts hop;split at hm<;>(try cases hm);rename_i x' t has hts;simp only[aJ] at hm;have hx:=az h hm.2;obtain ⟨e,ht'⟩: ∃e,P.underlying t=some (.slice e):=by
   have:=hm.1
   split at this<;>simp_all
  have has':as= #[x']:=by cases as;simp_all
  have hts':ts= #[t]:=by cases ts;simp_all
  subst has';subst hts';split at he<;>simp only[cW,jM,reduceCtorEq] at he<;>obtain ⟨rfl,rfl⟩:=he
  ·rename_i rows hb;rw[hb] at hx;simp only[PR] at hx;refine ⟨h1,h2,.int .i64 rows.length,?_,by simp[PR]⟩;unfold execOp;rcases hx with ⟨hx,hr⟩|⟨_,cap,k,hx,_⟩
   ·simp[hop,resolve,invoke,builtin,hx,Builtin.len_,run_underlying ht',goInt,hr]
   ·simp[hop,resolve,invoke,builtin,hx,Builtin.len_,run_underlying ht',goInt]
  ·rename_i hb;rw[hb] at hx;simp only[PR] at hx;exact ⟨h1,h2,.int .i64 0,by unfold execOp;simp[hop,resolve,invoke,builtin,hx,Builtin.len_,run_underlying ht',goInt],by simp[PR]⟩
  ·rename_i _ n _ hb;rw[hb] at hx;simp only[PR] at hx;obtain ⟨g,_,_,_,_,hx,_⟩:=hx;exact ⟨h1,h2,.int .i64 n,by unfold execOp;simp[hop,resolve,invoke,builtin,hx,Builtin.len_,run_underlying ht',goInt],by simp[PR]⟩
 case lns d' x=>
  simp only[dC,aJ,ax] at hm;obtain ⟨⟨h1,h2⟩,hm⟩:=hm;split at hm<;>(try cases hm);rename_i as ts hop;split at hm<;>(try cases hm);rename_i x' t has hts;simp only[aJ] at hm;have hx:=az h hm.2;have ht':P.underlying t=some .string:=by
   have:=hm.1
   split at this<;>simp_all
  have has':as= #[x']:=by cases as;simp_all
  have hts':ts= #[t]:=by cases ts;simp_all
  subst has';subst hts';split at he
  ·rename_i s hb;simp only[cW,jM] at he;obtain ⟨rfl,rfl⟩:=he;rw[hb] at hx;simp only[PR] at hx;have e2:(ByteArray.mk s.toArray).size=s.length:=rfl;exact ⟨h1,h2,.int .i64 s.length,by unfold execOp;simp[hop,resolve,invoke,builtin,hx,Builtin.len_,run_underlying ht',goInt,e2],by simp[PR]⟩
  ·cases he
 case fa d' x off=>
  simp only[dC,aJ,ax] at hm;obtain ⟨⟨h1,h2⟩,hm⟩:=hm;split at hm<;>(try cases hm);rename_i t x' f hop;simp only[aJ] at hm;have hx:=az h hm.2;obtain ⟨hf,_⟩:=hm;split at hf<;>(try cases hf);rename_i o' n hfa;simp only[aJ,cI,tL,cH,ne_eq] at hf;obtain ⟨fs,fd,hu,hfd,hp⟩:=qx hfa;simp only[jM] at hp;obtain ⟨rfl,hn⟩:=hp;obtain ⟨rfl,hn0⟩:=hf;have hsz:pW P fd.type=some n:=by
   cases hq:pW P fd.type with
   |none=>simp[hq] at hn;exact absurd hn hn0
   |some m=>simp[hq] at hn;simp[hn]
  split at he<;>simp only[cW,jM,reduceCtorEq] at he<;>obtain ⟨rfl,rfl⟩:=he
  ·rename_i b o hb;rw[hb] at hx;simp only[PR] at hx;obtain ⟨g,z,hg,hit,hx⟩:=hx;refine ⟨h1,h2,.pointer (some ⟨g,o+fd.offset,none⟩),?_,by simp only[PR];exact ⟨g,z,hg,hit,rfl⟩⟩;unfold execOp;simp[hop,hx,Instr.fieldAt,run_underlying hu,hfd,Instr.sureAddr,fieldPlace,bP hsz,hn0,Addr.add_lit]
  ·rename_i cs hb;rw[hb] at hx;simp only[PR] at hx;obtain ⟨g,o,hx,hc⟩:=hx;refine ⟨h1,h2,.pointer (some ⟨g,o+fd.offset,none⟩),?_,by simp only[PR];exact ⟨g,_,rfl,hc.drop _⟩⟩;unfold execOp;simp[hop,hx,Instr.fieldAt,run_underlying hu,hfd,Instr.sureAddr,fieldPlace,bP hsz,hn0,Addr.add_lit]
 case ia d' sz x i=>
  simp only[dC,aJ,ax] at hm;obtain ⟨⟨h1,h2⟩,hm⟩:=hm;split at hm<;>(try cases hm);rename_i t x' i' hop;simp only[aJ] at hm;have hx:=az h hm.1.2;have hi:=az h hm.2;obtain ⟨e,hu,hsz⟩: ∃e,P.underlying t=some (.slice e)/\pW P e=some sz:=by
   have:=hm.1.1
   split at this<;>simp_all
  split at he
  ·rename_i rows k n hb hc;rw[hb] at hx;rw[hc] at hi;simp only[PR] at hx hi;split at he
   ·rename_i hn;split at he
    ·rename_i row hrow;split at he
     ·rename_i hl;simp only[cW,jM] at he;obtain ⟨rfl,rfl⟩:=he;obtain ⟨hlt,_⟩:=qZ.1 hrow;rcases hx with ⟨hx,hr⟩|⟨ad,cap,k',hx,_,hr⟩
      ·subst hr;simp at hrow
      ·rcases hr with hr|⟨hsp,hr⟩
       ·subst hr;simp at hrow
       ·obtain ⟨g1,g2⟩:=hr.get hrow;have hk:k'=sz:=by rw[<-g1,hl]
        subst hk;obtain ⟨bk,of,sp⟩:=ad;simp only at hsp g2;subst hsp;refine ⟨h1,h2,.pointer (some ⟨bk,of+n.toNat*k',none⟩),?_,by simp only[PR];exact ⟨_,_,rfl,g2⟩⟩;unfold execOp;have hb2:0<=n/\n<(rows.length:Int):=by omega
        simp[hop,hx,hi,Instr.indexAt,asIntOf,run_underlying hu,bP hsz,hb2,Addr.add_lit]
     ·cases he
    ·cases he
   ·cases he
  ·rename_i b bo n k kk i0 hb hc;rw[hb] at hx;rw[hc] at hi;simp only[PR] at hx hi;split at he
   ·rename_i hn;simp only[cW,jM] at he;obtain ⟨rfl,rfl⟩:=he;obtain ⟨g,z,cap,hg,hit,hx,_,_,_⟩:=hx;refine ⟨h1,h2,.pointer (some ⟨g,bo+i0.toNat*sz,none⟩),?_,by simp only[PR];exact ⟨g,z,hg,hit,rfl⟩⟩;unfold execOp;have hb2:0<=i0/\i0<(n:Int):=⟨hn.1,hn.2.1⟩;simp[hop,hx,hi,Instr.indexAt,asIntOf,run_underlying hu,bP hsz,hb2,Addr.add_lit]
   ·cases he
  ·cases he
 case iaa d' sz n x i=>simp[dC] at hm
 case lds d' x=>
  simp only[dC,aJ,ax] at hm;obtain ⟨⟨h1,h2⟩,hm⟩:=hm;split at hm<;>(try cases hm);rename_i t x' hop;simp only[aJ] at hm;have hx:=az h hm.2;split at he
  ·rename_i v' hl;simp only[cW,jM] at he;obtain ⟨rfl,rfl⟩:=he;obtain ⟨u,hu,hp⟩:=lG h hm.1 hl hx;exact ⟨h1,h2,u,by unfold execOp;simp[hop,hu],hp⟩
  ·cases he
 case ldf d' x=>
  simp only[dC,aJ,ax] at hm;obtain ⟨⟨h1,h2⟩,hm⟩:=hm;split at hm<;>(try cases hm);rename_i t x' hop;simp only[aJ] at hm;have hx:=az h hm.2;split at he
  ·rename_i v' hl;simp only[cW,jM] at he;obtain ⟨rfl,rfl⟩:=he;obtain ⟨u,hu,hp⟩:=lG h hm.1 hl hx;exact ⟨h1,h2,u,by unfold execOp;simp[hop,hu],hp⟩
  ·cases he
 case lda d' n x=>
  simp only[dC,aJ,ax] at hm;obtain ⟨⟨h1,h2⟩,hm⟩:=hm;split at hm<;>(try cases hm);rename_i t x' hop;simp only[aJ,cI] at hm;have hx:=az h hm.2;split at he
  ·rename_i v' hl;simp only[cW,jM] at he;obtain ⟨rfl,rfl⟩:=he;obtain ⟨u,hu,hp⟩:=pY h hm.1.1 hm.1.2 hl hx;exact ⟨h1,h2,u,by unfold execOp;simp[hop,hu],hp⟩
  ·cases he
 case bd d' z ps=>
  simp only[dC,aJ,ax] at hm;obtain ⟨⟨h1,h2⟩,hm⟩:=hm;split at hm<;>(try cases hm);rename_i t ps' hop;simp only[aJ] at hm;obtain ⟨hz,hb⟩:=hm;split at hz<;>(try cases hz);rename_i inf hinf;split at hz<;>(try cases hz);rename_i z' hz';simp only[aJ] at hz;split at he
  ·rename_i cs hcs;simp only[cW,jM] at he;obtain ⟨rfl,rfl⟩:=he;split at hb
   ·rename_i fs hu;simp only[aJ] at hb;obtain ⟨hfs,hb⟩:=hb;obtain ⟨us,g1,g2,g3⟩:=kG h (gY P t) hb hcs (zs:=z') (fw _ _ hz.2) (fun u hu=>ik.1 hz.1 u hu);refine ⟨h1,h2,.agg us,?_,by simp only[PR];exact ⟨us,rfl,g3,g2⟩⟩;have hpl: ∀(l:List Field) (acc:Array (Nat×Nat)),(l.all fun f=>(pW P f.type).isSome)=true->
      (l.foldlM (fun (bs:Array (Nat×Nat)) (f:Field)=>(Functor.map bs.push (do pure (f.offset,<-sizeOf f.type):Sem (Nat×Nat)):Sem (Array (Nat×Nat)))) acc).run P w= .ok (acc++(l.map fun f=>(f.offset,(pW P f.type).getD 0)).toArray) w:=by
     intro l;induction l with
     |nil=>intro acc _;simp
     |cons f r ih=>
      intro acc hall;simp only[List.all_cons,aJ] at hall;obtain ⟨n,hn⟩:=jp.1 hall.1;simp only[List.foldlM_cons,Sem.run_bind,Sem.run_map,bP hn,Result.andThen_ok,Sem.run_pure];rw[ih _ hall.2];simp[hn]
    have hmap:(fs.mapM fun (f:Field)=>(do pure (f.offset,<-sizeOf f.type):Sem (Nat×Nat))).run P w= .ok (gY P t).toArray w:=by
     rw[Array.mapM_eq_foldlM,<-Array.foldlM_toList];rw[hpl fs.toList #[] hfs];simp[gY,hu]
    have hfill:Instr.fill (fun x=>(gY P t).toArray[x]?) z' (Array.map (fun x=>(x.1,a.eval x.2)) ps').toList=some us:=by
     simpa using g1
    unfold execOp;simp only[hop,Instr.build,Sem.run_bind,zeroValue,typeInfo,run_program,Result.andThen_ok,hinf,Sem.run_pure,hz',Value.cells,run_underlying hu];rw[hmap];simp only[Result.andThen_ok];simp only[hfill,Sem.run_pure,Result.andThen_ok]
   ·rename_i n e hu;split at hb
    ·rename_i sz hsz;obtain ⟨us,g1,g2,g3⟩:=kG h _ hb hcs (zs:=z') (fw _ _ hz.2) (fun u hu=>ik.1 hz.1 u hu);refine ⟨h1,h2,.agg us,?_,by simp only[PR];exact ⟨us,rfl,g3,g2⟩⟩;have hfill:Instr.fill (fun i=>some (i*sz,sz)) z' (Array.map (fun x=>(x.1,a.eval x.2)) ps').toList=some us:=by
      refine uE (fun i p hp=>?_) (by simpa using g1);simp only[xK,AB] at hp;obtain ⟨k,hk,rfl⟩:=hp;obtain ⟨hk1,hk2⟩:=qZ.1 hk;simp only[List.getElem_range] at hk2;rw[hk2]
     unfold execOp;simp only[hop,Instr.build,Sem.run_bind,zeroValue,typeInfo,run_program,Result.andThen_ok,hinf,Sem.run_pure,hz',Value.cells,run_underlying hu,bP hsz];simp only[hfill,Sem.run_pure,Result.andThen_ok]
    ·cases hb
   ·cases hb
  ·cases he
 case fls d' off x=>simp[dC] at hm
 case fla d' off n x=>simp[dC] at hm
 case ixs d' x i=>
  simp only[dC,aJ,ax] at hm;obtain ⟨⟨h1,h2⟩,hm⟩:=hm;split at hm<;>(try cases hm);rename_i t x' i' hop;simp only[aJ] at hm;have hx:=az h hm.1.2;have hi:=az h hm.2;have hu:P.underlying t=some .string:=by
   have:=hm.1.1
   split at this<;>simp_all
  split at he
  ·rename_i s k n hb hc;rw[hb] at hx;rw[hc] at hi;simp only[PR] at hx hi;split at he
   ·rename_i hn;split at he
    ·rename_i b hsb;simp only[cW,jM] at he;obtain ⟨rfl,rfl⟩:=he;have e1:(ByteArray.mk s.toArray)[n.toNat]?=some b:=by
      obtain ⟨hlt,hb2⟩:=qZ.1 hsb;have e2:n.toNat<(ByteArray.mk s.toArray).size:=hlt;exact (getElem?_pos (ByteArray.mk s.toArray) n.toNat e2).trans (by rw[<-hb2];rfl)
     exact ⟨h1,h2,.int .u8 b.toNat,by unfold execOp;simp[hop,hx,hi,Instr.index,asIntOf,run_underlying hu,hn,e1],by simp[PR]⟩
    ·cases he
   ·cases he
  ·cases he
 case exq d' x i=>
  simp only[dC,aJ,ax] at hm;obtain ⟨⟨h1,h2⟩,hm⟩:=hm;split at hm<;>(try cases hm);rename_i x' i' hop;simp only[aJ,cI] at hm;have hx:=az h hm.2;obtain rfl:=hm.1;split at he
  ·rename_i vs hb;rw[hb] at hx;simp only[PR] at hx;obtain ⟨us,hx,hl⟩:=hx;split at he
   ·rename_i v' hv;simp only[cW,jM] at he;obtain ⟨rfl,rfl⟩:=he;obtain ⟨u,hu1,hp⟩:=hl.get hv;simp only[Array.getElem?_toList] at hu1;exact ⟨h1,h2,u,by unfold execOp;simp[hop,hx,Instr.extract,hu1],hp⟩
   ·cases he
  ·cases he
 case ixa d' sz n agg x i=>simp[dC] at hm
 case mf d' f xs=>
  simp only[dC,aJ,ax] at hm;obtain ⟨⟨h1,h2⟩,hm⟩:=hm;split at hm<;>(try cases hm);rename_i f' first cap hop
  simp only[cW,jM] at he;obtain ⟨rfl,rfl⟩:=he;split at hm
  ·rename_i hb;simp only[aJ,cI] at hm;obtain ⟨⟨rfl,hf⟩,hxs⟩:=hm;have hl:=dt h hxs;have hf0:cap= #[]:=Array.eq_empty_of_size_eq_zero hf;refine ⟨h1,h2,.func (.func (f - BM)) (first.map a.eval) #[],by unfold execOp;simp[hop,Instr.makeFunc,hf0],?_⟩;simp only[PR];exact ⟨_,by rw[Jp,if_pos hb],by simpa using hl⟩
  ·rename_i hb;simp only[aJ,cI] at hm;obtain ⟨⟨rfl,hf⟩,hxs⟩:=hm;have hl:=dt h hxs;have hf0:first= #[]:=Array.eq_empty_of_size_eq_zero hf
   refine ⟨h1,h2,.func (.func f) #[] (cap.map a.eval),by unfold execOp;simp[hop,Instr.makeFunc,hf0],?_⟩;simp only[PR];exact ⟨_,by rw[Jp,if_neg hb],by simpa using hl⟩
 case bq d' x=>simp[dC] at hm
 case i2s d' x=>
  simp only[dC,aJ,ax] at hm;obtain ⟨⟨h1,h2⟩,hm⟩:=hm;split at hm<;>(try cases hm);rename_i s t x' hop;simp only[aJ] at hm;have hx:=az h hm.2;obtain ⟨⟨hs,ht⟩,_⟩:=hm;have ht':P.underlying t=some .string:=by split at ht<;>simp_all
  split at he
  ·rename_i k0 n hb;simp only[cW,jM] at he;obtain ⟨rfl,rfl⟩:=he;rw[hb] at hx;simp only[PR] at hx;obtain ⟨ds,hds⟩:=jp.1 hs;exact ⟨h1,h2,.string (Utf8.encode n),by unfold execOp;simp[hop,hx,convert,run_underlying hds,run_underlying ht',Conv.intToString],by simp[PR]⟩
  ·cases he
 case inl d' neg x=>
  simp only[dC,aJ,ax] at hm;obtain ⟨⟨h1,h2⟩,hm⟩:=hm;split at hm<;>(try cases hm);rename_i op' t x' ty hop;simp only[aJ,cI] at hm;have hx:=az h hm.2;obtain ⟨ms,hu⟩: ∃ms,P.underlying t=some (.interface ms):=by
   have:=hm.1.2
   split at this<;>simp_all
  have hu':P.underlying t=some (.interface (P.methodsAt t)):=by rw[hu];simp[Program.methodsAt,hu]
  have hop':=hm.1.1;have ec:a.eval (.const .nilIface)= .nilIface:=rfl;split at he
  ·rename_i hb;simp only[cW,jM] at he;obtain ⟨rfl,rfl⟩:=he;rw[hb] at hx;simp only[PR] at hx;refine ⟨h1,h2,.bool (!neg),?_,by simp[PR]⟩;unfold execOp;cases neg
   ·simp only[tK,if_false] at hop';subst hop';simp[hop,hx,ec,eqGuard,run_eql_nil_nil w t hu']
   ·simp only[if_true] at hop';subst hop';simp[hop,hx,ec,eqGuard,run_neq_nil_nil w t hu']
  ·rename_i T u hb;simp only[cW,jM] at he;obtain ⟨rfl,rfl⟩:=he;rw[hb] at hx;simp only[PR] at hx;obtain ⟨u',hx,_⟩:=hx;refine ⟨h1,h2,.bool neg,?_,by simp[PR]⟩;unfold execOp;cases neg
   ·simp only[tK,if_false] at hop';subst hop';simp[hop,hx,ec,eqGuard,run_eql_held_nil w t _ _ hu']
   ·simp only[if_true] at hop';subst hop';simp[hop,hx,ec,eqGuard,run_neq_held_nil w t _ _ hu']
  ·cases he
 case b2s d' x=>simp[dC] at hm
 case mpl d' x=>simp[dC] at hm
 case mlk d' q z m k ok=>
  simp only[dC,aJ,ax] at hm;obtain ⟨⟨h1,h2⟩,hm⟩:=hm;split at hm<;>(try cases hm);rename_i t m' k' ok' hop;simp only[aJ,cI] at hm;obtain ⟨⟨⟨ht,rfl⟩,hmm⟩,hkk⟩:=hm;split at ht<;>(try cases ht);rename_i kt et ht';simp only[aJ] at ht;obtain ⟨d,hd,hq⟩:=uC ht.1;have hz:=D5 (w:=w) ht.2;have hx:=az h hmm;have hy:=az h hkk;split at he
  ·rename_i b es key hb hk;obtain ⟨g,z',_,hx,_,_,e3,_⟩:=pX h hb hx;have hy:=Gy hk hy;split at he
   ·rename_i i v hf;simp only[cW,jM] at he;obtain ⟨rfl,rfl⟩:=he;have h3:=(i9 hq hk es 0 hf).1;refine ⟨h1,h2,if ok=true then .tuple #[v.val,.bool true] else v.val,?_,?_⟩
    ·unfold execOp
     have:=MapKept.run_findKey (P:=P) (w:=w) (kt:=kt) hd h3
     cases ok<;>simp[hop,Instr.lookup,run_underlying ht',hx,hy,MapKept.run_getObj_map e3,gL hd hq,fx,this,Result.andThen]
    ·cases ok
     ·exact Cy v
     ·simp only[if_true,PR,aa];exact ⟨_,rfl,_,_,rfl,Cy v,_,_,rfl,rfl,rfl⟩
   ·rename_i hf;simp only[cW,jM] at he;obtain ⟨rfl,rfl⟩:=he;have h3:=(i9 hq hk es 0 hf).1;refine ⟨h1,h2,if ok=true then .tuple #[z.val,.bool false] else z.val,?_,?_⟩
    ·unfold execOp
     have:=MapKept.run_findKey (P:=P) (w:=w) (kt:=kt) hd h3
     cases ok<;>simp[hop,Instr.lookup,run_underlying ht',hx,hy,MapKept.run_getObj_map e3,gL hd hq,fx,this,Result.andThen,hz]
    ·cases ok
     ·exact Cy z
     ·simp only[if_true,PR,aa];exact ⟨_,rfl,_,_,rfl,Cy z,_,_,rfl,rfl,rfl⟩
   ·cases he
  ·cases he
 case mn d' x y=>
  simp only[dC,aJ,ax] at hm;obtain ⟨⟨h1,h2⟩,hm⟩:=hm;split at hm<;>(try cases hm);rename_i as ts hop;split at hm<;>(try cases hm);rename_i x' y' has;simp only[aJ] at hm;have hx:=az h hm.1;have hy:=az h hm.2;have has':as= #[x',y']:=by cases as;simp_all
  subst has';split at he
  ·rename_i k n k' n' hb hc;simp only[cW,jM] at he;obtain ⟨rfl,rfl⟩:=he;rw[hb] at hx;rw[hc] at hy;simp only[PR] at hx hy;exact ⟨h1,h2,_,by unfold execOp;simp[hop,resolve,invoke,builtin,hx,hy,Builtin.min_,Builtin.min2];rfl,by simp[PR]⟩
  ·cases he
 case mx d' x y=>simp[dC] at hm
 case nc d' x=>
  simp only[dC,aJ,ax] at hm;obtain ⟨⟨h1,h2⟩,hm⟩:=hm;split at hm<;>(try cases hm);rename_i x' hop;have hx:=az h hm;split at he
  ·rename_i b o hb;simp only[cW,jM] at he;obtain ⟨rfl,rfl⟩:=he;rw[hb] at hx;have hx':=hx;simp only[PR] at hx;obtain ⟨g,z,hg,hit,hx⟩:=hx;exact ⟨h1,h2,a.eval x',by unfold execOp;simp[hop,hx],hx'⟩
  ·rename_i cs hb;simp only[cW,jM] at he;obtain ⟨rfl,rfl⟩:=he;rw[hb] at hx;have hx':=hx;simp only[PR] at hx;obtain ⟨g,o,hx,_⟩:=hx;exact ⟨h1,h2,a.eval x',by unfold execOp;simp[hop,hx],hx'⟩
  ·cases he
 case mi d' T x=>
  simp only[dC,aJ,ax] at hm;obtain ⟨⟨h1,h2⟩,hm⟩:=hm;split at hm<;>(try cases hm);rename_i t x' hop;simp only[aJ,cI] at hm;obtain ⟨⟨rfl,hc⟩,hm⟩:=hm;have hx:=az h hm;simp only[cW,jM] at he;obtain ⟨rfl,rfl⟩:=he;refine ⟨h1,h2,.iface t (a.eval x'),?_,?_⟩
  ·unfold JJ at hc;cases hu:P.underlying t with
   |none=>rw[hu] at hc;cases hc
   |some u=>
    rw[hu] at hc;unfold execOp;cases u<;>first|(simp[hop,Instr.makeInterface,run_underlying hu];done)|cases hc
  ·simp only[PR];exact ⟨_,rfl,hx⟩
 case ta d' T z x ok=>
  simp only[dC,aJ,ax] at hm;obtain ⟨⟨h1,h2⟩,hm⟩:=hm;split at hm<;>(try cases hm);rename_i x' xt t ok' hop;simp only[aJ,cI] at hm;obtain ⟨⟨⟨⟨rfl,hc⟩,hz⟩,rfl⟩,hm⟩:=hm;have hx:=az h hm;obtain ⟨zv,hz1,hz2⟩:=D4 (S:=S) (gb:=gb) (w:=w) hz;unfold JJ at hc;cases hu:P.underlying t with
  |none=>rw[hu] at hc;cases hc
  |some u=>
   rw[hu] at hc;split at he
   ·rename_i t' v hb;rw[hb] at hx;simp only[PR] at hx;obtain ⟨uv,hx,hp⟩:=hx;by_cases ht:t'=t
    ·subst ht;rw[if_pos rfl] at he;simp only[cW,jM] at he;obtain ⟨rfl,rfl⟩:=he;refine ⟨h1,h2,if ok=true then .tuple #[uv,.bool true] else uv,?_,?_⟩
     ·unfold execOp;cases u<;>first|(cases ok<;>simp[hop,Instr.typeAssert,run_underlying hu,hx];done)|cases hc
     ·cases ok
      ·exact hp
      ·simp only[if_true,PR,aa];exact ⟨_,rfl,_,_,rfl,hp,_,_,rfl,rfl,rfl⟩
    ·rw[if_neg ht] at he;cases ok with
     |false=>simp at he
     |true=>
      simp only[if_true,cW,jM] at he;obtain ⟨rfl,rfl⟩:=he;refine ⟨h1,h2,.tuple #[zv,.bool false],?_,?_⟩
      ·unfold execOp;cases u<;>first|(simp[hop,Instr.typeAssert,run_underlying hu,hx,ht,hz1,Result.andThen];done)|cases hc
      ·simp only[PR,aa];exact ⟨_,rfl,_,_,rfl,hz2,_,_,rfl,rfl,rfl⟩
   ·rename_i hb;rw[hb] at hx;simp only[PR] at hx;cases ok with
    |false=>simp at he
    |true=>
     simp only[if_true,cW,jM] at he;obtain ⟨rfl,rfl⟩:=he;refine ⟨h1,h2,.tuple #[zv,.bool false],?_,?_⟩
     ·unfold execOp;cases u<;>first|(simp[hop,Instr.typeAssert,run_underlying hu,hx,hz1,Result.andThen];done)|cases hc
     ·simp only[PR,aa];exact ⟨_,rfl,_,_,rfl,hz2,_,_,rfl,rfl,rfl⟩
   ·cases he
end Go.Ai
namespace Go.Ai
open Go.RowKit
variable {P:Program} {F:Fr} {S:aR} {gb:Gb} {σ:St} {a:Act} {w:World}

theorem aN.fresh (h:aN F S gb σ a w) {g o:Nat} (hg:w.heap.size<=g):S g o=none:=by
 cases hs:S g o with
 |none=>rfl
 |some v=>
  have:=h.hr.agree _ _ _ hs
  have:=World.block_lt_of_cell? w _ this
  simp only at this;omega

def o8 (S:aR) (g:Nat) (l:List Value):aR:=fun g' o=>if g'=g then l[o]? else S g' o

theorem aN.plvlt (h:aN F S gb σ a w) {p:Pl} {k b:Nat} (hk:aH σ.pm p=some k) (hb:(ct gb (tv a) w p).ownBlock=some b):b<w.heap.size:=(h.hr.own p k hk).lt hb
theorem aN.gblt (h:aN F S gb σ a w) {d:Id} {g:Nat} {z:BZ} (hd:(aD σ.bx d).isSome) (hg:gb d=some (g,z)):g<w.heap.size:=h.hr.gblt hd hg
theorem aN.plv_same (h:aN F S gb σ a w) {w':World} (hb: ∀d g z,(aD σ.bx d).isSome->gb d=some (g,z)->w'.heap[g]?=w.heap[g]?) {p:Pl} {k:Nat} (hk:aH σ.pm p=some k):ct gb (tv a) w' p=ct gb (tv a) w p:=by
 cases p with
 |s t=>rfl
 |t t i=>rfl
 |b d off=>
  simp only[ct];cases hg:gb d with
  |none=>rfl
  |some x=>
   obtain ⟨g,z⟩:=x;simp only[];rw[World.cell?_of_block (w:=w) (hb d g z (h.hr.pmb d off k hk).1 hg)]

theorem aN.newRow (h:aN F S gb σ a w) (cur:Array Value) (T:TypeId) (l:List Value) (hl: ∀(j:Nat) (u:Value),l[j]?=some u->cur[j]?=some u):
  aN F (o8 S w.heap.size l) gb σ a (w.alloc (.cells cur T)):=by
 refine h.step ((Below.refl _ _).alloc (eR _) _) (fun g o hg=>by simp[o8,Nat.ne_of_lt hg]) (fun g o v hs=>?_) (fun g o v hs=>?_)
 ·have:g≠w.heap.size:=by intro e;subst e;rw[h.fresh (eR _)] at hs;cases hs
  simp[o8,this,hs]
 ·simp only[o8] at hs;split at hs
  ·rename_i e;subst e;rw[World.cell?_alloc_new];exact hl _ _ hs
  ·rename_i e;have hlt:g<w.heap.size:=by have:=World.block_lt_of_cell? w _ (h.hr.agree _ _ _ hs);simpa using this
   rw[World.cell?_alloc_lt]
   ·exact h.hr.agree _ _ _ hs
   ·exact hlt

theorem aN.newOwn (h:aN F S gb σ a w) {d:Nat} (hd:d<F.N) (cur:Array Value) (T:TypeId) {rows:List (List AV)} {us:List Value} {k cap:Nat} (hkb:k<KB) (hr: ∀r∈rows,r.length=k)
  (hu:aa S fP rows.flatten us) (h1: ∀u∈us,u.oneCell'=true) (hc:cur.toList.take us.length=us) (hs:cap*k<=cur.size) (hcap:rows.length<=cap) (hm:cap<=maxLen):
  ∃S',aN F S' gb (σ.puto d (.sl rows) k) (a.put (some d) (.slice (some ⟨w.heap.size,0,none⟩) rows.length cap)) (w.alloc (.cells cur T)):=by
 have hlen:us.length=rows.length*k:=by rw[<-hu.length,bW hr]
 have hl: ∀(j:Nat) (u:Value),us[j]?=some u->cur[j]?=some u:=by
  intro j u hj;rw[<-hc,qr] at hj;split at hj
  ·simpa using hj
  ·cases hj
 have h2:=h.newRow cur T us hl;have hle:S.le (o8 S w.heap.size us):=fun g o v hs=>by
  have:g≠w.heap.size:=by intro e;subst e;rw[h.fresh (eR _)] at hs;cases hs
  simp[o8,this,hs]
 refine ⟨_,h2.puto hd ?_ ?_ ?_ ?_ ?_⟩
 ·simp only[PR];refine .inr ⟨_,cap,k,rfl,hcap,.inr ⟨rfl,?_⟩⟩;rw[a6.flat];exact ⟨hr,aK.of_list (aa.mono hle (Gb.le.refl _) _ _ hu) h1 (fun j u hj=>by simpa[o8] using hj)⟩
 ·refine .inr (.inl ⟨hkb,w.heap.size,rows.length,cap,cur,T,rfl,heap_alloc_new w _,hcap,hm,hs,fun o ho=>?_⟩);simp only[o8,if_true];exact Ga (by omega)
 ·intro g hg;simp only[Value.ownBlock,cW] at hg;subst hg;exact .inl h.bw.size
 ·intro p l b hl' hne hb hb2;simp only[Value.ownBlock,cW] at hb2;subst hb2;rw[h.plv_same (w':=w.alloc (.cells cur T)) (fun d g z hd hg=>Below.heap_alloc _ _ _ (h.gblt hd hg)) hl'] at hb
  have:=h.plvlt hl' hb
  omega
 ·intro b d' z hb hd' hg;simp only[Value.ownBlock,cW] at hb;subst hb
  have:=h.gblt hd' hg
  omega

def fe (gb:Gb) (d:Id) (g:Nat) (z:BZ):Gb:=fun d'=>if d'=d then some (g,z) else gb d'

def Oc (S:aR) (gb:Gb) (d:Id) (cs:List AV) (z:BZ) (o:Obj):Prop:=
 (d.isIt=false-> ∃us T,z=⟨us.size,T⟩/\o= .cells us T (0,0)/\cs.length<=us.size/\aa S gb cs (us.toList.take cs.length)/\ ∀u∈us.toList,u.oneCell'=true)/\
 (d.isIt=true->tG cs=some o)

theorem aN.newBoxT (h:aN F S gb σ a w) {d:Nat} (hd:d<F.N) {i:Id} (hiu:i.isUp=false) (hn:aD σ.bx i=none) {cs:List AV} {z:BZ} {o:Obj} (ho:Oc S (fe gb i w.heap.size z) i cs z o) {v:AV} {u:Value} (hv:PR S (fe gb i w.heap.size z) v u):
    aN F S (fe gb i w.heap.size z) ⟨(d,v)::σ.e,(i,cs)::σ.bx,gV σ.pm d⟩ (a.put (some d) u) (w.alloc o):=by
  have hgd:gb i=none:=by
    cases hg:gb i with
    |none=>rfl
    | some g => rcases h.dom i (by rw[hg]; simp) with h1 | h1
                · rw[hn] at h1;cases h1
                · rw[hiu] at h1;cases h1
  have hle:gb.le (fe gb i w.heap.size z):=fun d' g hg=>by
    simp only[fe]
    split
    · rename_i e;subst e;rw[hgd] at hg;cases hg
    · exact hg
  have h2:aN F S gb σ a (w.alloc o):=h.step ((Below.refl _ _).alloc (eR _) _) (fun _ _ _=>rfl) (aR.le.refl _) (fun g o' v hs=>by
    have h3:=h.hr.agree _ _ _ hs
    rw[World.cell?_alloc_lt]
    · exact h3
    · exact World.block_lt_of_cell? w _ h3)
  have hne: ∀d',(aD σ.bx d').isSome->d'≠i:=fun d' hd' e=>by subst e;rw[hn] at hd';cases hd'
  have h3:aN F S (fe gb i w.heap.size z) ⟨σ.e,(i,cs)::σ.bx,σ.pm⟩ a (w.alloc o):=by
    have hpl: ∀p k,aH σ.pm p=some k->ct (fe gb i w.heap.size z) (tv a) (w.alloc o) p=ct gb (tv a) (w.alloc o) p:=by
      intro p k hk
      cases p with
      |s t=>rfl
      |t t j=>rfl
      |b d' off=>simp only[ct,fe,if_neg (hne d' (h.hr.pmb d' off k hk).1)]
    refine ⟨h2.defers,h2.size,h2.bw,h2.ext,h2.le,fun t=>PR.mono (aR.le.refl _) hle _ _ (h2.env t),⟨h2.hr.agree,?_,?_,?_,?_,?_,?_,?_⟩,?_,?_,?_,?_,h2.glo⟩
    · intro d' cs' hcs' hit
      simp only[aD] at hcs'
      split at hcs'
      · rename_i e;subst e;cases hcs'
        obtain ⟨us,T,rfl,rfl,e0,e4,e5⟩:=ho.1 hit
        exact ⟨w.heap.size,us,T,by simp[fe],heap_alloc_new w _,e0,e4,e5,fun o=>h.fresh (eR _)⟩
      · obtain ⟨g,us',T',e1,e3,e0,e4,e5,e6⟩:=h2.hr.box d' cs' hcs' hit
        exact ⟨g,us',T',hle _ _ e1,e3,e0,aa.mono (aR.le.refl _) hle _ _ e4,e5,e6⟩
    · intro d' cs' hcs' hit
      simp only[aD] at hcs'
      split at hcs'
      · rename_i e;subst e;cases hcs'
        exact ⟨w.heap.size,z,_,by simp[fe],ho.2 hit,heap_alloc_new w _,fun o=>h.fresh (eR _)⟩
      · obtain ⟨g,z',ob,e1,e2,e3,e6⟩:=h2.hr.its d' cs' hcs' hit
        exact ⟨g,z',ob,hle _ _ e1,e2,e3,e6⟩
    · intro d1 d2 g z1 z2 i1 i2 g1 g2
      simp only[aD] at i1 i2
      simp only[fe] at g1 g2
      split at g1
      · rename_i e1;cases g1
        split at g2
        · rename_i e2;rw[e1,e2]
        · rename_i e2
          rw[if_neg (fun e=>e2 e.symm)] at i2
          have:=h.gblt i2 g2;omega
      · rename_i e1
        rw[if_neg (fun e=>e1 e.symm)] at i1
        split at g2
        · cases g2;have:=h.gblt i1 g1;omega
        · rename_i e2
          rw[if_neg (fun e=>e2 e.symm)] at i2
          exact h.hr.inj d1 d2 g z1 z2 i1 i2 g1 g2
    · intro p k hk;rw[hpl p k hk];exact h2.hr.own p k hk
    · intro p q k l b hk hl g1 g2
      rw[hpl p k hk] at g1
      rw[hpl q l hl] at g2
      exact h2.hr.ownd p q k l b hk hl g1 g2
    · intro p k b d' z' hk g1 hd'
      rw[hpl p k hk] at g1
      simp only[fe]
      simp only[aD] at hd'
      split
      · intro e;cases e
        rw[h.plv_same (w':=w.alloc o) (fun d g z hd hg=>Below.heap_alloc _ _ _ (h.gblt hd hg)) hk] at g1
        have:=h.plvlt hk g1
        omega
      · rename_i e2
        rw[if_neg (fun e=>e2 e.symm)] at hd'
        exact h2.hr.ownb p k b d' z' hk g1 hd'
    · intro d' off k hk
      obtain ⟨q1,q2⟩:=h2.hr.pmb d' off k hk
      refine ⟨?_,q2⟩
      simp only[aD]
      split
      · rfl
      · exact q1
    · intro d' g z' hd' hg
      simp only[aD] at hd'
      simp only[fe] at hg
      split at hg
      · cases hg;exact .inl h.bw.size
      · rename_i e2
        rw[if_neg (fun e=>e2 e.symm)] at hd'
        exact h2.newb d' g z' hd' hg
    · intro p k g hk hg
      rw[hpl p k hk] at hg
      exact h2.newo p k g hk hg
    · intro d' hd'
      simp only[fe] at hd'
      simp only[aD]
      split
      · exact .inl rfl
      · rename_i e2
        rw[if_neg (fun e=>e2 e.symm)] at hd'
        exact h2.dom d' hd'
    · intro d'
      have:Id.up d'≠i:=fun e=>by rw[<-e] at hiu;cases hiu
      simp only[fe,if_neg this]
      exact h2.up d'
  exact h3.put hd hv

theorem aN.newBox (h:aN F S gb σ a w) {d:Nat} (hd:d<F.N) {i:Id} (hiu:i.isUp=false) (hn:aD σ.bx i=none) {cs:List AV} {z:BZ} {o:Obj} (ho:Oc S gb i cs z o) {v:AV} {u:Value} (hv:PR S (fe gb i w.heap.size z) v u):
    aN F S (fe gb i w.heap.size z) ⟨(d,v)::σ.e,(i,cs)::σ.bx,gV σ.pm d⟩ (a.put (some d) u) (w.alloc o):=by
  have hgd:gb i=none:=by
    cases hg:gb i with
    |none=>rfl
    | some g => rcases h.dom i (by rw[hg]; simp) with h1 | h1
                · rw[hn] at h1;cases h1
                · rw[hiu] at h1;cases h1
  have hle:gb.le (fe gb i w.heap.size z):=fun d' g hg=>by
    simp only[fe]
    split
    · rename_i e;subst e;rw[hgd] at hg;cases hg
    · exact hg
  refine h.newBoxT hd hiu hn ⟨fun hi=>?_,ho.2⟩ hv
  obtain ⟨us,T,e1,e2,e3,e4,e5⟩:=ho.1 hi
  exact ⟨us,T,e1,e2,e3,aa.mono (aR.le.refl _) hle _ _ e4,e5⟩
theorem aN.off (h:aN F S gb σ a w) {g:Nat} (hg:F.w0.heap.size<=g\/F.M g) (hb: ∀d z,(aD σ.bx d).isSome->gb d≠some (g,z)) (hp: ∀p k,aH σ.pm p=some k->(ct gb (tv a) w p).ownBlock≠some g)
  {w':World} {S':aR} (hw: ∀k,k≠g->w'.heap[k]?=w.heap[k]?) (hsz:w'.heap.size=w.heap.size) (hos:w'.os=w.os) (htp:w'.tape=w.tape) (hou:w'.output=w.output)
  (hle:S.le S') (hof: ∀g' o,g'≠g->S' g' o=S g' o) (hag: ∀g o v,S' g o=some v->w'.cell? ⟨g,o,none⟩=some v):aN F S' gb σ a w':=by
 have hpl: ∀p k,aH σ.pm p=some k->ct gb (tv a) w' p=ct gb (tv a) w p:=fun p k hk=>h.plv_same (fun d q z hd hq=>hw q (fun e=>hb d z hd (by rw[hq,e]))) hk
 refine ⟨h.defers,h.size,?_,?_,h.le.trans hle,fun t=>PR.mono hle (Gb.le.refl _) _ _ (h.env t),⟨hag,?_,?_,h.hr.inj,?_,?_,?_,h.hr.pmb⟩,h.newb,?_,h.dom,h.up,h.glo⟩
 ·refine ⟨hos.trans h.bw.os,htp.trans h.bw.tape,hou.trans h.bw.output,by rw[hsz];exact h.bw.size,fun k hk hm=>?_⟩;rw[hw k (fun e=>by subst e;rcases hg with hg|hg;omega;exact hm hg)];exact h.bw.block k hk hm
 ·intro g' o hg' hm;rw[hof g' o (fun e=>by subst e;rcases hg with hg|hg;omega;exact hm hg)];exact h.ext g' o hg' hm
 ·intro d cs hcs hi;obtain ⟨q,us,T,e1,e3,e0,e4,e5,e6⟩:=h.hr.box d cs hcs hi;have hne:q≠g:=fun e=>hb d _ (by simp[hcs]) (by rw[e1,e])
  exact ⟨q,us,T,e1,by rw[hw q hne];exact e3,e0,aa.mono hle (Gb.le.refl _) _ _ e4,e5,fun o=>by rw[hof q o hne];exact e6 o⟩
 ·intro d cs hcs hi;obtain ⟨q,z,ob,e1,e2,e3,e6⟩:=h.hr.its d cs hcs hi;have hne:q≠g:=fun e=>hb d z (by simp[hcs]) (by rw[e1,e])
  exact ⟨q,z,ob,e1,e2,by rw[hw q hne];exact e3,fun o=>by rw[hof q o hne];exact e6 o⟩
 ·intro p k hk;rw[hpl p k hk];refine (h.hr.own p k hk).mono (fun q hq=>hw q (fun e=>hp p k hk (by rw[hq,e]))) (fun q o hq hn=>?_);rw[hof q o (fun e=>hp p k hk (by rw[hq,e]))];exact hn
 ·intro p q k l b hk hl h1 h2;rw[hpl p k hk] at h1;rw[hpl q l hl] at h2;exact h.hr.ownd p q k l b hk hl h1 h2
 ·intro p k b d z hk h1;rw[hpl p k hk] at h1;exact h.hr.ownb p k b d z hk h1
 ·intro p k q hk hq;rw[hpl p k hk] at hq;exact h.newo p k q hk hq

theorem nP {l:List (Id×List AV)} {d:Id} {cs:List AV} (d':Id) (h:(aD l d).isSome):aD (Cr l d cs) d'=if d'=d then some cs else aD l d':=by
 induction l with
 |nil=>simp[aD] at h
 |cons x r ih=>
  obtain ⟨k,v⟩:=x;simp only[Cr,aD] at h ⊢;split
  ·rename_i e;subst e;simp only[aD];split
   ·rename_i e;rw[if_pos e.symm]
   ·rename_i e;rw[if_neg (fun e'=>e e'.symm)]
  ·rename_i e;rw[if_neg e] at h;simp only[aD];split
   ·rename_i e2;subst e2;rw[if_neg e]
   ·exact ih h
theorem du {l:List (Id×List AV)} {d:Id} {cs:List AV} {d':Id} (h:(aD l d).isSome):(aD (Cr l d cs) d').isSome=(aD l d').isSome:=by
 rw[nP d' h];split
 ·rename_i e;subst e;rw[h];rfl
 ·rfl

theorem aN.setObj (h:aN F S gb σ a w) {d:Id} {g:Nat} {z:BZ} (hd:(aD σ.bx d).isSome) (hg:gb d=some (g,z)) (hS: ∀o,S g o=none)
  {w':World} (hw: ∀k,k≠g->w'.heap[k]?=w.heap[k]?) (hsz:w'.heap.size=w.heap.size) (hos:w'.os=w.os) (htp:w'.tape=w.tape) (hou:w'.output=w.output)
  {cs':List AV} (hb:d.isIt=false-> ∃us T,z=⟨us.size,T⟩/\w'.heap[g]?=some (.cells us T (0,0))/\cs'.length<=us.size/\aa S gb cs' (us.toList.take cs'.length)/\ ∀u∈us.toList,u.oneCell'=true)
  (hi:d.isIt=true-> ∃ob,tG cs'=some ob/\w'.heap[g]?=some ob) {pm:List (Pl×Nat)} (hpm: ∀p k,aH pm p=some k->aH σ.pm p=some k)
  (hsame: ∀off k,aH pm (.b d off)=some k->w'.cell? ⟨g,off,none⟩=w.cell? ⟨g,off,none⟩):aN F S gb ⟨σ.e,Cr σ.bx d cs',pm⟩ a w':=by
 have hnew:=h.newb d g z hd hg;have hpl: ∀p k,aH pm p=some k->ct gb (tv a) w' p=ct gb (tv a) w p:=by
  intro p k hk;cases p with
  |s t=>rfl
  |t t i=>rfl
  |b d' off=>
   simp only[ct];cases hq:gb d' with
   |none=>rfl
   |some x=>
    obtain ⟨q,z'⟩:=x;simp only[];by_cases e:q=g
    ·subst e
     have:=h.hr.inj d' d q z' z (h.hr.pmb d' off k (hpm _ k hk)).1 hd hq hg
     subst this;rw[hsame off k hk]
    ·rw[World.cell?_of_block (w:=w) (hw q e)]
 refine ⟨h.defers,h.size,?_,h.ext,h.le,h.env,⟨?_,?_,?_,?_,?_,?_,?_,?_⟩,?_,?_,?_,h.up,h.glo⟩
 ·refine ⟨hos.trans h.bw.os,htp.trans h.bw.tape,hou.trans h.bw.output,by rw[hsz];exact h.bw.size,fun k hk hm=>?_⟩;rw[hw k (fun e=>by subst e;rcases hnew with h1|h1;omega;exact hm h1)];exact h.bw.block k hk hm
 ·intro g' o v hs;have hne:g'≠g:=fun e=>by subst e;rw[hS] at hs;cases hs
  rw[World.cell?_of_block (w:=w) (hw g' hne)];exact h.hr.agree _ _ _ hs
 ·intro d' cs1 hcs1 hit;rw[nP d' hd] at hcs1;split at hcs1
  ·rename_i e;subst e;cases hcs1;obtain ⟨us,T,rfl,e3,e0,e4,e5⟩:=hb hit;exact ⟨g,us,T,hg,e3,e0,e4,e5,hS⟩
  ·rename_i e;obtain ⟨q,vs,T',e1,e3,e0,e4,e5,e6⟩:=h.hr.box d' cs1 hcs1 hit;have hne:q≠g:=fun e'=>e (h.hr.inj d' d g _ z (by simp[hcs1]) hd (by rw[e1,e']) hg)
   exact ⟨q,vs,T',e1,by rw[hw q hne];exact e3,e0,e4,e5,e6⟩
 ·intro d' cs1 hcs1 hit;rw[nP d' hd] at hcs1;split at hcs1
  ·rename_i e;subst e;cases hcs1;obtain ⟨ob,e2,e3⟩:=hi hit;exact ⟨g,z,ob,hg,e2,e3,hS⟩
  ·rename_i e;obtain ⟨q,z',ob,e1,e2,e3,e6⟩:=h.hr.its d' cs1 hcs1 hit;have hne:q≠g:=fun e'=>e (h.hr.inj d' d g z' z (by simp[hcs1]) hd (by rw[e1,e']) hg)
   exact ⟨q,z',ob,e1,e2,by rw[hw q hne];exact e3,e6⟩
 ·intro d1 d2 q z1 z2 i1 i2;simp only[du hd] at i1 i2;exact h.hr.inj d1 d2 q z1 z2 i1 i2
 ·intro p k hk;rw[hpl p k hk];refine (h.hr.own p k (hpm p k hk)).mono (fun q hq=>hw q (fun e=>?_)) (fun q o hq hn=>hn);subst e;exact h.hr.ownb p k q d z (hpm p k hk) hq hd hg
 ·intro p q k l b hk hl h1 h2;rw[hpl p k hk] at h1;rw[hpl q l hl] at h2;exact h.hr.ownd p q k l b (hpm p k hk) (hpm q l hl) h1 h2
 ·intro p k b d' z' hk h1 hd';simp only[du hd] at hd';rw[hpl p k hk] at h1;exact h.hr.ownb p k b d' z' (hpm p k hk) h1 hd'
 ·intro d' off k hk;simp only[du hd];exact h.hr.pmb d' off k (hpm _ k hk)
 ·intro d' q z' hd' hq;simp only[du hd] at hd';exact h.newb d' q z' hd' hq
 ·intro p k q hk hq;rw[hpl p k hk] at hq;exact h.newo p k q (hpm p k hk) hq
 ·intro d' hd';simp only[du hd];exact h.dom d' hd'
end Go.Ai
