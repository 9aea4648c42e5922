/- Lib1: a part of the proof. Conditions: as each theorem says. -/
import Derived.WalkKit
import Derived.Laws.StructEq
import Derived.ChangeKeysEq
import Derived.Orders
set_option linter.unusedSimpArgs false
set_option linter.unusedVariables false
namespace Go.Ai
abbrev aC:=@Bool.and_eq_true
abbrev bt:=@List.cons_append
abbrev dh:=@beq_eq_false_iff_ne
abbrev bV:=@Option.some.injEq
abbrev cG:=@List.length_append
abbrev bO:=@List.nil_append
abbrev gU:=@Option.isSome_iff_exists
abbrev dT:=@List.length_cons
abbrev bP:=@beq_iff_eq
abbrev lc:=@Array.getD_eq_getD_getElem?
abbrev oU:=@List.getElem?_eq_some_iff
abbrev sf:=@List.drop_eq_getElem_cons
abbrev eV:=@Nat.le_refl
abbrev lJ:=@List.append_assoc
abbrev fC:=@List.all_eq_true
abbrev pH:=@Array.getElem?_eq_some_iff
abbrev jE:=@decide_eq_true
abbrev lK:=@decide_eq_true_iff
abbrev oV:=@decide_eq_false
abbrev lQ:=@Bool.false_and
abbrev kL:=@Bool.true_and
abbrev rC:=@List.getElem?_eq_getElem
abbrev ik:=@List.map_cons
abbrev oe:=@Array.length_toList
abbrev jI:=@Nat.zero_le
abbrev Dh:=@List.eq_nil_of_length_eq_zero
abbrev m9:=@List.mem_singleton
abbrev Aq:=@List.drop_eq_nil_of_le
abbrev Gy:=@List.take_succ_eq_append_getElem
abbrev oW:=@List.getElem?_take
abbrev vk:=@Nat.mod_eq_of_lt
abbrev rD:=@decide_eq_true_eq
abbrev gg:=@List.mem_append
abbrev yF:=@List.length_singleton
abbrev pc:=@List.append_nil
abbrev Ar:=@List.getD_eq_getElem?_getD
abbrev sg:=@List.take_length
abbrev rK:=@Bool.false_eq_true
abbrev sj:=@List.length_take
abbrev vy:=@Option.map_eq_some_iff
abbrev na:=@Nat.zero_add
abbrev xO:=@Nat.lt_of_lt_of_le
abbrev vz:=@List.length_pos_iff
abbrev sn:=@List.length_drop
abbrev BH:=@List.mem_of_mem_take
abbrev vm:=@List.getElem?_map
abbrev xP:=@of_decide_eq_true
abbrev xQ:=@Bool.not_eq_true'
abbrev i8:=@List.mem_cons
abbrev gQ:=@Prod.mk.injEq
abbrev rL:=@List.getElem_mem
abbrev BI:=@Bool.or_eq_true
abbrev Ix:=@List.drop_length
abbrev tO:=@List.mem_map
abbrev Gj:=@List.take_append_drop
abbrev Di:=@List.getElem?_eq_none
abbrev Mj:=@Nat.lt_succ_self
abbrev Jn:=@List.length_map
abbrev Gz:=@List.drop_zero
abbrev Jo:=@List.take_zero
abbrev Lp:=@Bool.and_false
abbrev Jp:=@Bool.or_false
abbrev Om:=@List.nodup_cons
abbrev Oo:=@List.forall_mem_cons
abbrev KK:=@UInt8.toNat_inj
abbrev rE:=@Nat.add_zero
abbrev DE:=@Nat.add_assoc
abbrev Lq:=@Nat.add_comm
abbrev Jq:=@Nat.mul_comm
abbrev pJ:=@Nat.le_trans
abbrev Jr:=@Nat.pow_succ
abbrev Oq:=@Bool.eq_false_iff
abbrev vn:=@List.map_nil
abbrev vA:=@List.length_nil
inductive Id where
 |n (k:Nat)
 |up (i:Id)
 |nw (d:Nat) (i:Id)
 |ix (i:Id) (k:Nat)
 |it (k:Nat)
 deriving DecidableEq
def Id.isUp:Id→Bool
 | .up _=>true
 |_=>false
def Id.isIt:Id→Bool
 | .it _=>true
 | .up i=>i.isIt
 | .nw _ i=>i.isIt
 |_=>false
def Id.isNw (d:Nat):Id→Bool
 | .nw d' i=>d'==d&&!i.isUp
 |_=>false
def Id.inn (d:Nat) (i:Id):Id:=match i with
 | .nw d' j=>if d'=d∧j.isUp=false then j else .up (.nw d' j)
 |i=> .up i
inductive MK where
 |s (l:List UInt8)
 |i (k:IntKind) (n:Int)
 deriving DecidableEq
inductive AV where
 |undef
 |int (k:IntKind) (n:Int)
 |bool (b:Bool)
 |str (s:List UInt8)
 |nils
 |sl (rows:List (List AV))
 |pin (cs:List AV)
 |ptr (d:Id) (off:Nat)
 |ms (d:Id) (off n sz:Nat)
 |fn (f:Nat) (caps:List AV)
 |itr (s:List UInt8) (pos:Nat)
 |itp (d:Nat)
 |mref (d:Id)
 |mpv (es:List (MK×MK))
 |nilp
 |nilT (d:Id) (T n:Nat)
 |agg (cs:List AV)
 |tup (vs:List AV)
 |ifc (T:Nat) (v:AV)
 |nili
 |yv (l:Nat)
 deriving Inhabited

inductive FK where
 |b|i|s
 deriving DecidableEq

inductive X where
 |s (t:Nat)
 |c (v:AV)

inductive Pl where
 |s (t:Nat)
 |t (s i:Nat)
 |b (d:Id) (off:Nat)
 deriving DecidableEq

structure St where
 e:List (Nat×AV)
 bx:List (Id×List AV)
 pm:List (Pl×Nat)

def lk:List (Nat×AV)→Nat→AV
 |[],_=> .undef
 |(k,v)::r,t=>if k=t then v else lk r t
def ar:List (Id×List AV)→Id→Option (List AV)
 |[],_=>none
 |(k,v)::r,t=>if k=t then some v else ar r t
def Dj:List (Id×List AV)→Id→List AV→List (Id×List AV)
 |[],_,_=>[]
 |(k,v)::r,d,cs=>if k=d then (k,cs)::r else (k,v)::Dj r d cs
def aA:List (Pl×Nat)→Pl→Option Nat
 |[],_=>none
 |(q,k)::r,p=>if q=p then some k else aA r p
mutual
def AV.ids:AV→List Id
 | .ptr d _=>[d]
 | .ms d _ _ _=>[d]
 | .itp d=>[.it d]
 | .mref d=>[d]
 | .nilT d _ _=>[d]
 | .fn _ cs=>bc cs
 | .agg cs=>bc cs
 | .tup cs=>bc cs
 | .ifc _ v=>v.ids
 |_=>[]
def bc:List AV→List Id
 |[]=>[]
 |v::r=>v.ids++bc r
end
def Pl.ids:Pl→List Id
 | .b d _=>[d]
 |_=>[]

def dl:List (Pl×Nat)→Pl→List (Pl×Nat)
 |[],_=>[]
 |(q,k)::r,p=>if q=p then dl r p else (q,k)::dl r p

def vo:List (Pl×Nat)→Id→Nat→Nat→List (Pl×Nat)
 |[],_,_,_=>[]
 |(.b e o,k)::r,d,off,n=>if e=d∧off≤o∧o<off+n then vo r d off n else (.b e o,k)::vo r d off n
 |(.s t,k)::r,d,off,n=>(.s t,k)::vo r d off n
 |(.t t i,k)::r,d,off,n=>(.t t i,k)::vo r d off n
def fU:List (Pl×Nat)→Nat→List (Pl×Nat)
 |[],_=>[]
 |(.s t,k)::r,d=>if t=d then fU r d else (.s t,k)::fU r d
 |(.t t i,k)::r,d=>if t=d then fU r d else (.t t i,k)::fU r d
 |(.b e o,k)::r,d=>(.b e o,k)::fU r d
def Pl.lt (b:Id) (n:Nat):Pl→Prop
 | .b e o=>e=b→o<n
 |_=>True
def ng (l:List (Nat×AV)) (b:Id):List (Nat×AV):=l.map fun p=>(p.1,if b∈p.2.ids then .undef else p.2)
def Dk:List (Pl×Nat)→Id→Id→List (Pl×Nat)
 |[],_,_=>[]
 |(.b e o,k)::r,d,d'=>(.b (if e=d then d' else e) o,k)::Dk r d d'
 |(.s t,k)::r,d,d'=>(.s t,k)::Dk r d d'
 |(.t t i,k)::r,d,d'=>(.t t i,k)::Dk r d d'
def ja:List (Id×List AV)→Id→List (Id×List AV)
 |[],_=>[]
 |(k,v)::r,d=>if k=d then ja r d else (k,v)::ja r d
def rF:List (Pl×Nat)→Id→List (Pl×Nat)
 |[],_=>[]
 |(.b e o,k)::r,d=>if e=d then rF r d else (.b e o,k)::rF r d
 |(.s t,k)::r,d=>(.s t,k)::rF r d
 |(.t t i,k)::r,d=>(.t t i,k)::rF r d

def St.v (σ:St):X→AV
 | .s t=>lk σ.e t
 | .c v=>v
def St.put (σ:St) (d:Nat) (v:AV):St:=⟨(d,v)::σ.e,σ.bx,fU σ.pm d⟩
def St.puto (σ:St) (d:Nat) (v:AV) (k:Nat):St:=⟨(d,v)::σ.e,σ.bx,(.s d,k)::fU σ.pm d⟩

inductive be where
 |mv (d:Nat) (x:X)
 |mo (d s:Nat)
 |pk (d:Nat) (c a b:X)
 |bi (d:Nat) (op:BinOp) (x y:X)
 |bb (d:Nat) (neg:Bool) (x y:X)
 |ea (d:Nat) (neg:Bool) (ks:List FK) (x y:X)
 |un (d:Nat) (op:UnOp) (x:X)
 |pn (d:Nat) (neg:Bool) (x:X)
 |bq (d:Nat) (x:X)
 |cv (d:Nat) (k:IntKind) (x:X)
 |ln (d:Nat) (x:X)
 |lns (d:Nat) (x:X)
 |slc (d:Nat) (sz:Nat) (x:X) (lo hi:Option X)
 |sls (d:Nat) (x:X) (lo hi:Option X)
 |fa (d:Nat) (x:X) (off:Nat)
 |ia (d sz:Nat) (x i:X)
 |iaa (d sz n:Nat) (x i:X)
 |lds (d:Nat) (x:X)
 |ldf (d:Nat) (x:X)
 |lda (d n:Nat) (x:X)
 |st (n:Nat) (x v:X)
 |lo (d:Nat) (x:X)
 |so (x:X) (s:Nat)
 |al (d:Nat) (z:List AV)
 |alT (d T off:Nat) (z:List AV)
 |bxT (d T off:Nat) (x:X)
 |bx (d:Nat) (x:X)
 |bd (d:Nat) (z:List AV) (ps:List (Nat×Nat×X))
 |bs (d sz:Nat) (ps:List X)
 |bsn (d sz:Nat) (ps:List X)
 |fls (d off:Nat) (x:X)
 |fla (d off n:Nat) (x:X)
 |ixs (d:Nat) (x i:X)
 |ex (d:Nat) (x:X) (i:Nat)
 |exq (d:Nat) (x:X) (i:Nat)
 |cl (d f:Nat) (xs:List X)
 |cd (d:Nat) (x:X) (xs:List X)
 |mf (d f:Nat) (xs:List X)
 |mkm (d sz bytes:Nat) (z:List AV) (l c:X)
 |bsm (d sz:Nat) (ps:List X)
 |ca (d f:Nat) (s:Option X) (ps:List X)
 |apm (d sz bytes:Nat) (s:X) (y:X)
 |ce (d f:Nat) (xs:List X)
 |b2s (d:Nat) (x:X)
 |i2s (d:Nat) (x:X)
 |inl (d:Nat) (neg:Bool) (x:X)
 |s2b (d:Nat) (x:X)
 |aps (d:Nat) (s y:X)
 |rs (d:Nat) (x:X)
 |nx (d:Nat) (x:X)
 |ixa (d sz n:Nat) (agg:Bool) (x i:X)
 |mkp (d:Nat)
 |mpl (d:Nat) (x:X)
 |mpe (d:Nat) (q:FK) (z:MK) (m k:X)
 |mes (m s v:X)
 |mup (q:FK) (m k v:X)
 |mlk (d:Nat) (q:FK) (z:MK) (m k:X) (ok:Bool)
 |sla (d:Nat) (n:Nat) (x:X) (lo hi:Option X)
 |ap (d sz bytes:Nat) (s:X) (y:X)
 |mk (d sz bytes:Nat) (z:List AV) (l c:X)
 |mn (d:Nat) (x y:X)
 |mx (d:Nat) (x y:X)
 |nc (d:Nat) (x:X)
 |mi (d T:Nat) (x:X)
 |ta (d T:Nat) (z:AV) (x:X) (ok:Bool)
 |no
 |clr (sz:Nat) (z:List AV) (x:X)
 |trm (d sz:Nat) (x hi:X)
 |cr (d f:Nat) (xs:List X)
 |cq (d f:Nat) (xs:List X) (fr:List Nat)
 |gd (s:Nat) (b:Bool) (d:Nat) (o:be)

def AV.cs:AV→Option (List AV)
 | .undef=>none
 | .tup _=>none
 | .itr _ _=>none
 | .itp _=>none
 | .mpv _=>none
 | .agg cs=>some cs
 |v=>some [v]

mutual
def dB:AV→Option AV
 | .undef=>none
 | .nils=>some (.sl [])
 | .ptr _ _=>none
 | .nilT _ _ _=>some .nilp
 | .ms _ _ _ _=>none
 | .fn f cs=>(jy cs).map (.fn f)
 | .itr _ _=>none
 | .itp _=>none
 | .mref _=>none
 | .mpv _=>none
 | .agg cs=>(jy cs).map .agg
 | .tup cs=>(jy cs).map .tup
 | .ifc T v=>(dB v).map (.ifc T)
 |v=>some v
def jy:List AV→Option (List AV)
 |[]=>some []
 |v::r=>match dB v,jy r with
  |some v',some r'=>some (v'::r')
  |_,_=>none
end

mutual
def pK:AV→Option AV
 | .nils=>some .nils
 | .agg cs=>(jK cs).map .agg
 | .tup cs=>(jK cs).map .tup
 |v=>dB v
def jK:List AV→Option (List AV)
 |[]=>some []
 |v::r=>match pK v,jK r with
  |some v',some r'=>some (v'::r')
  |_,_=>none
end
def Mk (op:BinOp):AV→AV→Option AV
 | .int k a,.int k' b=>
  match op with
  | .add=>if k=k' then some (.int k (k.wrap (a+b))) else none
  | .sub=>if k=k' then some (.int k (k.wrap (a - b))) else none
  | .mul=>if k=k' then some (.int k (k.wrap (a*b))) else none
  | .quo=>if k=k'∧b≠0 then some (.int k (k.wrap (a.tdiv b))) else none
  | .rem=>if k=k'∧b≠0 then some (.int k (a.tmod b)) else none
  | .shl=>if 0≤b then some (.int k (k.wrap (a*2^(min b.toNat k.bits)))) else none
  | .shr=>if 0≤b then some (.int k (a.fdiv (2^(min b.toNat k.bits)))) else none
  | .eql=>if k=k' then some (.bool (a==b)) else none
  | .neq=>if k=k' then some (.bool (a !=b)) else none
  | .lss=>if k=k' then some (.bool (decide (a<b))) else none
  | .leq=>if k=k' then some (.bool (decide (a≤b))) else none
  | .gtr=>if k=k' then some (.bool (decide (b<a))) else none
  | .geq=>if k=k' then some (.bool (decide (b≤a))) else none
  |op=>if k=k' then some (.int k (bits op k a b)) else none
 | .str a,.str b=>
  match op with
  | .add=>if a.length+b.length≤9223372036854775807 then some (.str (a++b)) else none
  | .eql=>some (.bool (a==b))
  | .neq=>some (.bool (!(a==b)))
  | .lss=>some (.bool (Op.bytesLess a b))
  | .leq=>some (.bool (Op.bytesLess a b||a==b))
  | .gtr=>some (.bool (!(Op.bytesLess a b||a==b)))
  | .geq=>some (.bool (!(Op.bytesLess a b)))
  |_=>none
 |_,_=>none

def tP:FK→AV→AV→Option Bool
 | .i,.int k a,.int k' b=>if k=k' then some (a==b) else none
 | .b,.bool a,.bool b=>some (a==b)
 | .s,.str a,.str b=>some (a==b)
 |_,_,_=>none
def bG:List FK→List AV→List AV→Option Bool
 |[],[],[]=>some true
 |k::ks,a::r,b::s=>match tP k a b,bG ks r s with
  |some x,some y=>some (x&&y)
  |_,_=>none
 |_,_,_=>none

def eX (z:List AV) (off:Nat) (vs:List AV):List AV:=z.take off++vs++z.drop (off+vs.length)

def jb (σ:St):List (Nat×Nat×X)→List AV→Option (List AV)
 |[],z=>some z
 |(off,n,x)::r,z=>match (σ.v x).cs with
  |some cs=>if cs.length=n∧off+n≤z.length then jb σ r (eX z off cs) else none
  |none=>none

def il (σ:St) (sz:Nat):List X→Option (List (List AV))
 |[]=>some []
 |x::r=>match (σ.v x).cs with
  |some cs=>match jy cs,il σ sz r with
   |some cs,some rs=>if cs.length=sz then some (cs::rs) else none
   |_,_=>none
  |none=>none

def ss (σ:St) (sz:Nat):List X→Option (List (List AV))
 |[]=>some []
 |x::r=>match (σ.v x).cs,ss σ sz r with
  |some cs,some rs=>if cs.length=sz then some (cs::rs) else none
  |_,_=>none

def pM (σ:St) (sz:Nat):List X→Option (List (List AV))
 |[]=>some []
 |x::r=>match (σ.v x).cs with
  |some cs=>match jK cs,pM σ sz r with
   |some cs,some rs=>if cs.length=sz then some (cs::rs) else none
   |_,_=>none
  |none=>none

def dU (bx:List (Id×List AV)):AV→Option AV
 | .ptr d off=>match ar bx d with
  |some cs=>cs[off]?
  |none=>none
 | .pin cs=>cs[0]?
 |_=>none
def su (bx:List (Id×List AV)) (n:Nat):AV→Option AV
 | .ptr d off=>match ar bx d with
  |some cs=>if off+n≤cs.length then some (.agg ((cs.drop off).take n)) else none
  |none=>none
 | .pin cs=>if n≤cs.length then some (.agg (cs.take n)) else none
 |_=>none

def byteCells:List AV→Option (List UInt8)
 |[]=>some []
 | .int .u8 n::r=>match byteCells r with
  |some s=>some (UInt8.ofNat n.toNat::s)
  |none=>none
 |_::_=>none
def fD:List (List AV)→Option (List UInt8)
 |[]=>some []
 |[.int .u8 n]::r=>match fD r with
  |some s=>some (UInt8.ofNat n.toNat::s)
  |none=>none
 |_::_=>none
def jc (bx:List (Id×List AV)):AV→Option (List UInt8)
 | .nils=>some []
 | .sl rows=>fD rows
 | .ms d o n sz=>match ar bx d with
  |some cs=>if sz=1∧o+n≤cs.length then byteCells ((cs.drop o).take n) else none
  |none=>none
 |_=>none
def ae (s:List UInt8):List (List AV):=s.map fun b=>[.int .u8 b.toNat]
def bD (s:List UInt8) (pos:Nat):Int×Nat:=let p:=Utf8.decode ⟨s.toArray⟩ pos;((p.1:Int),p.2)

def MK.av:MK→AV
 | .s l=> .str l
 | .i k n=> .int k n
def AV.mk:AV→Option MK
 | .str l=>some (.s l)
 | .int k n=>some (.i k n)
 |_=>none
def AV.mkk:FK→AV→Option MK
 | .s,.str l=>some (.s l)
 | .i,.int k n=>some (.i k n)
 |_,_=>none
def MK.same:MK→MK→Option Bool
 | .s a,.s b=>some (a==b)
 | .i k a,.i l b=>if k=l then some (a==b) else none
 |_,_=>none
def Iy (k:MK):List (MK×MK)→Nat→Option (Option (Nat×MK))
 |[],_=>some none
 |(k',v)::r,i=>match k.same k' with
  |some true=>some (some (i,v))
  |some false=>Iy k r (i+1)
  |none=>none
def As (bx:List (Id×List AV)) (v:AV):Option (Id×List (MK×MK)):=match v with
 | .mref d=>match ar bx d with
  |some [.mpv es]=>some (d,es)
  |_=>none
 |_=>none
def ev (σ:St):be→Option (Nat×AV)
 | .mv d x=>some (d,σ.v x)
 | .pk d c a b=>match σ.v c with
  | .bool t=>some (d,if t=true then σ.v a else σ.v b)
  |_=>none
 | .bi d op x y=>match Mk op (σ.v x) (σ.v y) with
  |some v=>some (d,v)
  |none=>none
 | .bb d neg x y=>match σ.v x,σ.v y with
  | .bool a,.bool b=>some (d,.bool (if neg=true then a !=b else a==b))
  |_,_=>none
 | .ea d neg ks x y=>match σ.v x,σ.v y with
  | .agg a,.agg b=>match bG ks a b with
   |some t=>some (d,.bool (if neg=true then !t else t))
   |none=>none
  |_,_=>none
 | .pn d neg x=>match σ.v x with
  | .ptr _ _=>some (d,.bool neg)
  | .pin _=>some (d,.bool neg)
  | .nilp=>some (d,.bool (!neg))
  |_=>none
 | .bq d x=>match jc [] (σ.v x) with
  |some s=>some (d,.str s)
  |none=>none
 | .un d op x=>match op,σ.v x with
  | .not,.bool b=>some (d,.bool (!b))
  | .neg,.int k n=>some (d,.int k (k.wrap (0 - n)))
  |_,_=>none
 | .cv d k x=>match σ.v x with
  | .int _ n=>some (d,.int k (k.wrap n))
  |_=>none
 | .lns d x=>match σ.v x with
  | .str s=>some (d,.int .i64 s.length)
  |_=>none
 | .ln d x=>match σ.v x with
  | .sl rows=>some (d,.int .i64 rows.length)
  | .nils=>some (d,.int .i64 0)
  | .ms _ _ n _=>some (d,.int .i64 n)
  |_=>none
 | .fa d x off=>match σ.v x with
  | .ptr b o=>some (d,.ptr b (o+off))
  | .pin cs=>some (d,.pin (cs.drop off))
  |_=>none
 | .ia d sz x i=>match σ.v x,σ.v i with
  | .sl rows,.int _ n=>
   if 0≤n then match rows[n.toNat]? with
    |some row=>if row.length=sz then some (d,.pin row) else none
    |none=>none
   else none
  | .ms b o n k,.int _ i=>if 0≤i∧i<n∧k=sz then some (d,.ptr b (o+i.toNat*sz)) else none
  |_,_=>none
 | .iaa d sz n x i=>match σ.v x,σ.v i with
  | .ptr b o,.int _ i=>if 0≤i∧i<n then some (d,.ptr b (o+i.toNat*sz)) else none
  | .pin cs,.int _ i=>if 0≤i∧i<n then some (d,.pin (cs.drop (i.toNat*sz))) else none
  |_,_=>none
 | .ldf d x=>match dU σ.bx (σ.v x) with
  |some v=>some (d,v)
  |none=>none
 | .lds d x=>match dU σ.bx (σ.v x) with
  |some v=>some (d,v)
  |none=>none
 | .lda d n x=>match su σ.bx n (σ.v x) with
  |some v=>some (d,v)
  |none=>none
 | .bd d z ps=>match jb σ ps z with
  |some cs=>some (d,.agg cs)
  |none=>none
 | .fls d off x=>match σ.v x with
  | .agg cs=>match cs[off]? with
   |some v=>some (d,v)
   |none=>none
  |_=>none
 | .fla d off n x=>match σ.v x with
  | .agg cs=>if off+n≤cs.length then some (d,.agg ((cs.drop off).take n)) else none
  |_=>none
 | .ixs d x i=>match σ.v x,σ.v i with
  | .str s,.int _ n=>if 0≤n then match s[n.toNat]? with
    |some b=>some (d,.int .u8 b.toNat)
    |none=>none
   else none
  |_,_=>none
 | .ixa d sz n agg x i=>match σ.v x,σ.v i with
  | .agg cs,.int _ i=>if 0≤i∧i<n∧n*sz≤cs.length then
    (if agg=true then some (d,.agg ((cs.drop (i.toNat*sz)).take sz)) else match cs[i.toNat*sz]? with
     |some v=>some (d,v)
     |none=>none)
   else none
  |_,_=>none
 | .exq d x i=>match σ.v x with
  | .tup vs=>match vs[i]? with
   |some v=>some (d,v)
   |none=>none
  |_=>none
 | .mf d f xs=>some (d,.fn f (xs.map σ.v))
 | .i2s d x=>match σ.v x with
  | .int _ n=>some (d,.str (Utf8.encode n).data.toList)
  |_=>none
 | .inl d neg x=>match σ.v x with
  | .nili=>some (d,.bool (!neg))
  | .ifc _ _=>some (d,.bool neg)
  |_=>none
 | .b2s d x=>match jc σ.bx (σ.v x) with
  |some s=>some (d,.str s)
  |none=>none
 | .mpl d x=>match As σ.bx (σ.v x) with
  |some (_,es)=>some (d,.int .i64 es.length)
  |none=>none
 | .mlk d q z m k ok=>match As σ.bx (σ.v m),(σ.v k).mkk q with
  |some (_,es),some k=>match Iy k es 0 with
   |some (some (_,v))=>some (d,if ok=true then .tup [v.av,.bool true] else v.av)
   |some none=>some (d,if ok=true then .tup [z.av,.bool false] else z.av)
   |none=>none
  |_,_=>none
 | .mn d x y=>match σ.v x,σ.v y with
  | .int k a,.int _ b=>some (d,.int k (if b<a then b else a))
  |_,_=>none
 | .mx d x y=>match σ.v x,σ.v y with
  | .int k a,.int _ b=>some (d,.int k (if a<b then b else a))
  |_,_=>none
 | .nc d x=>match σ.v x with
  | .ptr b o=>some (d,.ptr b o)
  | .pin cs=>some (d,.pin cs)
  |_=>none
 | .mi d T x=>some (d,.ifc T (σ.v x))
 | .ta d T z x ok=>match σ.v x with
  | .ifc t v=>if t=T then some (d,if ok=true then .tup [v,.bool true] else v) else if ok=true then some (d,.tup [z,.bool false]) else none
  | .nili=>if ok=true then some (d,.tup [z,.bool false]) else none
  |_=>none
 |_=>none

def rM:Nat:=140737488355328

def vB (σ:St) (dflt:Nat):Option X→Option Int
 |none=>some dflt
 |some x=>match σ.v x with
  | .int _ n=>some n
  |_=>none

def wk (v u:AV):Prop:=v=u∨(v= .nils∧u= .sl [])
def pd:List AV→List AV→Prop
 |[],[]=>True
 |v::r,u::s=>wk v u∧pd r s
 |_,_=>False
def Dm (l:List (Id×List AV)) (d:Id) (cs:List AV):Prop:=
 match ar l d with
 |some cs'=>pd cs' cs
 |none=>False
def jL (σ:St):Pl→Prop
 | .s t=>lk σ.e t= .nils
 | .t _ _=>False
 | .b d off=>match ar σ.bx d with
  |some cs=>cs[off]?=some .nils
  |none=>False

structure In where
 vs:List AV
 bx:List (Id×List AV)
 pm:List (Pl×Nat)
structure bW where
 r:AV
 bx:List (Id×List AV)
 pm:List (Pl×Nat)

def iD:List (Id×List AV)→List (Id×List AV)→List (Id×List AV)
 |l,[]=>l
 |l,(d,_)::r=>iD (ja l d) r
def jF:List (Pl×Nat)→List (Id×List AV)→List (Pl×Nat)
 |l,[]=>l
 |l,(d,_)::r=>jF (rF l d) r
def im (xs:List X):List (Pl×Nat)→List (Pl×Nat)→List (Pl×Nat)
 |l,[]=>l
 |l,(.s i,_)::r=>match xs[i]? with
  |some (.s t)=>im xs (dl l (.s t)) r
  |_=>im xs l r
 |l,_::r=>im xs l r
def jG (d:Nat):List (Pl×Nat)→List (Pl×Nat)
 |[]=>[]
 |(.s _,k)::r=>(.s d,k)::jG d r
 |(.t _ i,k)::r=>(.t d i,k)::jG d r
 |(.b i o,k)::r=>(.b i o,k)::jG d r
def rN (σ:St) (xs:List X) (I:In):Pl×Nat→Prop
 |(.s i,k)=>match xs[i]? with
  |some (.s t)=>aA σ.pm (.s t)=some k∨lk σ.e t= .nils
  |some (.c v)=>v= .nils
  |_=>False
 |(.t _ _,_)=>False
 |(.b d off,k)=>(ar I.bx d).isSome∧(aA σ.pm (.b d off)=some k∨jL σ (.b d off))
def jz (xs:List X):List (Pl×Nat)→Prop
 |[]=>True
 |(.s i,_)::r=>(∀p∈r,∀j,p.1= .s j→j≠i→xs[j]?≠xs[i]?)∧jz xs r
 |_::r=>jz xs r
structure cD (d:Nat) (σ:St) (xs:List X) (I:In) (O:bW):Prop where
 vs:pd (xs.map σ.v) I.vs
 bx: ∀p∈I.bx,Dm σ.bx p.1 p.2
 pm: ∀p∈I.pm,rN σ xs I p
 one:jz xs I.pm
 kept: ∀p∈I.bx,(ar O.bx p.1).isSome
 new: ∀p∈O.bx,(ar I.bx p.1).isSome∨(p.1.isNw d=true∧p.1.isIt=false)
 free: ∀p∈σ.bx,p.1.isNw d=false
def a6 (d:Nat) (σ:St) (xs:List X) (I:In) (O:bW):St:=
 ⟨(d,O.r)::σ.e,O.bx++iD σ.bx I.bx,jG d O.pm++fU (im xs (jF σ.pm I.bx) I.pm) d⟩

inductive Bx where
 |one (b:Id)
 |fr (l:List Nat)
 |cel (b:Id) (off:Nat) (v:AV)
def Dn (l:List Nat):Id→Bool
 | .n k=>l.contains k
 | .nw k _=>l.contains k
 |_=>false
def Iz:Bx→Bx→Prop
 | .cel _ _ _,_=>True
 |_,.cel _ _ _=>False
 | .one a,.one b=>a≠b
 | .one a,.fr l=>Dn l a=true
 | .fr l,.one b=>Dn l b=true
 | .fr _,.fr _=>False
def Bx.tch:Bx→Id→Prop
 | .one b,i=>b=i
 | .fr l,i=>Dn l i=false
 | .cel _ _ _,_=>False
def fE:Option Bx→Id→Prop
 |some x,i=>x.tch i
 |none,_=>False
theorem Js {x y:Bx} {i:Id} (h:Iz x y) (h1:x.tch i) (h2:y.tch i):False:=by
 cases x<;>cases y<;>simp only [Iz,Bx.tch] at h h1 h2
 ·exact h (h1.trans h2.symm)
 ·rw [h1,h2] at h;cases h
 ·rw [h2,h1] at h;cases h
def Pl.isB:Pl→Bool
 | .b _ _=>true
 |_=>false
def Pl.isF (fr:List Nat):Pl→Bool
 | .b e _=>!Dn fr e
 |_=>false
theorem Pl.isF_isB {fr:List Nat} {p:Pl} (h:p.isF fr=true):p.isB=true:=by cases p<;>first|rfl|cases h
structure GA (fr:List Nat) (I:In) (O:bW):Prop where
 ip: ∀p∈I.pm,p.1.isB=true
 op: ∀p∈O.pm,p.1.isF fr=true
 fo: ∀p∈O.bx,Dn fr p.1=false
def GB:AV→Bool→Option Bool
 | .bool t,b=>some (t==b)
 | .tup [],_=>some false
 |_,_=>none
theorem lR {v:AV} {b:Bool} (h:GB v b=some true):v= .bool b:=by
 unfold GB at h;split at h
 ·simp at h;rw [h]
 ·cases h
 ·cases h
theorem sx {v:AV} {b:Bool} (h:GB v b=some false):v= .bool (!b)∨v= .tup []:=by
 unfold GB at h;split at h
 ·rename_i t b';left;cases t<;>cases b'<;>simp_all
 ·right;rfl
 ·cases h
section
variable (S:Nat→Nat→In→bW→Prop)
def sy (f:Nat) (l:List AV) (r:AV):Prop:= ∀d,S f d ⟨l,[],[]⟩ ⟨r,[],[]⟩
def Jt (f d:Nat) (xs:List X) (K:St→Prop) (σ:St):Prop:= ∃I O,S f d I O∧cD d σ xs I O∧K (a6 d σ xs I O)
def yG (f:Nat) (v:Option (List (List AV))) (k:Nat) (l:List AV) (out:List (List AV)):Prop:=
 ∀e,S f e ⟨(match v with |some rows=> .sl rows::l|none=>l),[],(match v with |some _=>[(.s 0,k)]|none=>[])⟩ ⟨.sl out,[],[(.s 0,k)]⟩
def GC (f:Nat) (σ:St) (s:Option X) (ps:List X) (k:Nat) (out:List (List AV)):Prop:=match s with
 |none=>yG S f none k (ps.map σ.v) out
 |some (.c v)=>v= .nils∧yG S f (some []) k (ps.map σ.v) out
 |some (.s t)=>(∃rows,lk σ.e t= .sl rows∧aA σ.pm (.s t)=some k∧yG S f (some rows) k (ps.map σ.v) out)∨(lk σ.e t= .nils∧yG S f (some []) k (ps.map σ.v) out)
def yH (d:Nat) (s:Option X) (v:AV) (k:Nat) (σ:St):St:=match s with
 |some (.s t)=>⟨(d,v)::σ.e,σ.bx,(.s d,k)::fU (dl σ.pm (.s t)) d⟩
 |_=>σ.puto d v k
def bh:be→(St→Prop)→St→Prop
 | .mo d s,K,σ=>match aA σ.pm (.s s) with
  |some k=>K ⟨(d,lk σ.e s)::σ.e,σ.bx,(.s d,k)::fU (dl σ.pm (.s s)) d⟩
  |none=>K (σ.put d (lk σ.e s))
 | .al d z,K,σ=>match ar σ.bx (.n d) with
  |none=>K ⟨(d,.ptr (.n d) 0)::σ.e,(.n d,z)::σ.bx,fU σ.pm d⟩
  |some _=>False
 | .alT d T off z,K,σ=>match ar σ.bx (.n d) with
  |none=>K ⟨(d,.ptr (.n d) 0)::σ.e,(.n d,z.set off (.nilT (.n d) T z.length))::σ.bx,fU σ.pm d⟩
  |some _=>False
 | .bx d x,K,σ=>match ar σ.bx (.n d) with
  |none=>match (σ.v x).cs with
   |some cs=>K ⟨(d,.ptr (.n d) 0)::σ.e,(.n d,cs)::σ.bx,fU σ.pm d⟩
   |none=>False
  |some _=>False
 | .bxT d T off x,K,σ=>match ar σ.bx (.n d) with
  |none=>match (σ.v x).cs with
   |some cs=>match cs[off]? with
    |some .nilp=>K ⟨(d,.ptr (.n d) 0)::σ.e,(.n d,cs.set off (.nilT (.n d) T cs.length))::σ.bx,fU σ.pm d⟩
    |_=>False
   |none=>False
  |some _=>False
 | .rs d x,K,σ=>match ar σ.bx (.it d) with
  |none=>match σ.v x with
   | .str s=>K ⟨(d,.itp d)::σ.e,(.it d,[.itr s 0])::σ.bx,fU σ.pm d⟩
   |_=>False
  |some _=>False
 | .nx d x,K,σ=>match σ.v x with
  | .itp i=>match ar σ.bx (.it i) with
   |some [.itr s pos]=>if pos<s.length then
     K ⟨(d,.tup [.bool true,.int .i64 pos,.int .i32 (bD s pos).1])::σ.e,Dj σ.bx (.it i) [.itr s (pos+(bD s pos).2)],fU σ.pm d⟩
    else K (σ.put d (.tup [.bool false]))
   |_=>False
  |_=>False
 | .mkp _,_,_=>False
 | .mpe _ _ _ _ _,_,_=>False
 | .mes _ _ _,_,_=>False
 | .mup _ _ _ _,_,_=>False
 | .bs d sz ps,K,σ=>match il σ sz ps with
  |some rows=>K (σ.puto d (.sl rows) sz)
  |none=>False
 | .bsn d sz ps,K,σ=>match pM σ sz ps with
  |some rows=>K (σ.puto d (.sl rows) sz)
  |none=>False
 | .st n x v,K,σ=>match σ.v x with
  | .ptr d off=>match ar σ.bx d with
   |some cs=>match (σ.v v).cs with
    |some vs=>vs.length=n∧off+n≤cs.length∧K ⟨σ.e,Dj σ.bx d (eX cs off vs),vo σ.pm d off n⟩
    |none=>False
   |none=>False
  |_=>False
 | .lo d x,K,σ=>match σ.v x with
  | .ptr b off=>match ar σ.bx b with
   |some cs=>match cs[off]? with
    |some v=>match aA σ.pm (.b b off) with
     |some k=>K ⟨(d,v)::σ.e,σ.bx,(.s d,k)::fU (dl σ.pm (.b b off)) d⟩
     |none=>K (σ.put d v)
    |none=>False
   |none=>False
  | .pin cs=>match cs[0]? with
   |some v=>K (σ.put d v)
   |none=>False
  |_=>False
 | .so x s,K,σ=>match σ.v x with
  | .ptr d off=>match ar σ.bx d with
   |some cs=>match aA σ.pm (.s s) with
    |some k=>off<cs.length∧K ⟨σ.e,Dj σ.bx d (cs.set off (lk σ.e s)),(.b d off,k)::dl (dl σ.pm (.s s)) (.b d off)⟩
    |none=>match (lk σ.e s).cs with
     |some vs=>vs.length=1∧off+1≤cs.length∧K ⟨σ.e,Dj σ.bx d (eX cs off vs),vo σ.pm d off 1⟩
     |none=>False
   |none=>False
  |_=>False
 | .ex d x i,K,σ=>match σ.v x with
  | .tup vs=>match vs[i]? with
   |some v=>match x with
    | .s t=>match aA σ.pm (.t t i) with
     |some k=>K ⟨(d,v)::σ.e,σ.bx,(.s d,k)::fU (dl σ.pm (.t t i)) d⟩
     |none=>K (σ.put d v)
    |_=>K (σ.put d v)
   |none=>False
  |_=>False
 | .ap d sz bytes s y,K,σ=>match dB (σ.v y) with
  |some (.sl news)=>(match σ.v s,s with
   | .sl rows,.s t=>aA σ.pm (.s t)=some sz∧(rows.length+news.length)*bytes≤rM∧(∀r∈rows,r.length=sz)∧(∀r∈news,r.length=sz)∧K ⟨(d,.sl (rows++news))::σ.e,σ.bx,(.s d,sz)::fU (dl σ.pm (.s t)) d⟩
   | .nils,_=>news.length*bytes≤rM∧(∀r∈news,r.length=sz)∧K (σ.puto d (.sl news) sz)
   |_,_=>False)
  |_=>False
 | .s2b d x,K,σ=>match σ.v x with
  | .str l=>K (σ.put d (.sl (ae l)))
  |_=>False
 | .aps _ _ _,_,_=>False
 | .mk _ _ _ _ _ _,_,_=>False
 | .bsm d sz ps,K,σ=>match ar σ.bx (.n d),pM σ sz ps with
  |none,some rows=>K ⟨(d,.ms (.n d) 0 rows.length sz)::σ.e,(.n d,rows.flatten)::σ.bx,fU σ.pm d⟩
  |none,none=>match ss σ sz ps with
   |some rows=>K ⟨(d,.ms (.n d) 0 rows.length sz)::σ.e,(.n d,rows.flatten)::σ.bx,fU σ.pm d⟩
   |none=>False
  |_,_=>False
 | .mkm _ _ _ _ _ _,_,_=>False
 | .apm d sz bytes s y,K,σ=>match pK (σ.v y) with
  |some (.sl news)=>(match σ.v s with
   | .nils=>match ar σ.bx (.n d) with
    |none=>news.length*bytes≤rM∧0<news.length∧(∀r∈news,r.length=sz)∧K ⟨(d,.ms (.n d) 0 news.length sz)::σ.e,(.n d,news.flatten)::σ.bx,fU σ.pm d⟩
    |some _=>False
   | .ms b 0 n k=>match ar σ.bx b with
    |some cs=>k=sz∧cs.length=n*sz∧b.isUp=false∧ar (ja σ.bx b) (.n d)=none∧(∀p∈ja σ.bx b,b∉bc p.2)∧b∉bc cs∧(∀p∈σ.pm,p.1.lt b cs.length)∧b.isIt=false∧
      (n+news.length)*bytes≤rM∧(∀r∈news,r.length=sz)∧K ⟨(d,.ms (.n d) 0 (n+news.length) sz)::ng σ.e b,(.n d,cs++news.flatten)::ja σ.bx b,Dk (fU σ.pm d) b (.n d)⟩
    |none=>False
   |_=>False)
  |_=>False
 | .sls d x lo hi,K,σ=>match σ.v x with
  | .str s=>match vB σ 0 lo,vB σ s.length hi with
   |some l,some h=>0≤l∧l≤h∧h≤s.length∧K (σ.put d (.str ((s.take h.toNat).drop l.toNat)))
   |_,_=>False
  |_=>False
 | .slc d sz x lo hi,K,σ=>match σ.v x with
  | .sl rows=>match vB σ 0 lo,vB σ rows.length hi with
   |some l,some h=>0≤l∧l≤h∧h≤rows.length∧(∀r∈rows,r.length=sz)∧K (σ.put d (.sl ((rows.take h.toNat).drop l.toNat)))
   |_,_=>False
  |_=>False
 | .sla d n x lo hi,K,σ=>match σ.v x with
  | .ptr b o=>match ar σ.bx b,vB σ 0 lo,vB σ n hi with
   |some cs,some l,some h=>0≤l∧l≤h∧h≤n∧l<n∧o+n≤cs.length∧n≤4294967296∧b.isIt=false∧K (σ.put d (.ms b (o+l.toNat) (h - l).toNat 1))
   |_,_,_=>False
  |_=>False
 | .cl d f xs,K,σ=>match jy (xs.map σ.v) with
  |some l=> ∃r,sy S f l r∧K (σ.put d r)
  |none=>False
 | .ce d f xs,K,σ=>Jt S f d xs K σ
 | .cd d x xs,K,σ=>match σ.v x with
  | .fn f caps=>Jt S f d (xs++caps.map X.c) K σ
  |_=>False
 | .ca d f s ps,K,σ=> ∃k out,GC S f σ s ps k out∧K (yH d s (.sl out) k σ)
 | .clr _ _ _,_,_=>False
 | .trm _ _ _ _,_,_=>False
 | .cr _ _ _,_,_=>False
 | .cq d f xs fr,K,σ=> ∃I O,S f d I O∧cD d σ xs I O∧(GA fr I O∧fr.contains d=false)∧K (a6 d σ xs I O)
 | .gd s b d o,K,σ=>match GB (lk σ.e s) b with
  |some true=>bh o K σ
  |some false=>K (σ.put d (.tup []))
  |none=>False
 |o,K,σ=>match ev σ o with
  |some (d,v)=>K (σ.put d v)
  |none=>False

def kT:List be→(St→Prop)→St→Prop
 |[],K,σ=>K σ
 |o::r,K,σ=>bh S o (kT r K) σ

def eb (σ:St):be→Option Bx
 | .lds _ x=>match σ.v x with | .ptr b _=>some (.one b)|_=>none
 | .ldf _ x=>match σ.v x with | .ptr b off=>(match dU σ.bx (.ptr b off) with |some v=>some (.cel b off v)|none=>none)|_=>none
 | .lda _ _ x=>match σ.v x with | .ptr b _=>some (.one b)|_=>none
 | .st _ x _=>match σ.v x with | .ptr b _=>some (.one b)|_=>none
 | .lo _ x=>match σ.v x with | .ptr b _=>some (.one b)|_=>none
 | .so x _=>match σ.v x with | .ptr b _=>some (.one b)|_=>none
 | .al d _=>some (.one (.n d))
 | .mlk _ _ _ m _ _=>match σ.v m with | .mref b=>some (.one b)|_=>none
 | .alT d _ _ _=>some (.one (.n d))
 | .bx d _=>some (.one (.n d))
 | .cr _ _ xs=>match xs.map σ.v with | .ptr b _::_=>some (.one b)|_=>none
 | .cq _ _ _ fr=>some (.fr fr)
 | .gd s b _ o=>match lk σ.e s with
  | .bool t=>if t=b then eb σ o else none
  |_=>none
 |_=>none
def DF:List (Nat×Bx)→List Nat→Bx→Prop
 |[],_,_=>True
 |(i,b')::h,u,b=>(i∈u→Iz b' b)∧DF h u b
def GE (h:List (Nat×Bx)) (u:List Nat):Option Bx→Prop
 |none=>True
 |some b=>DF h u b
def yI (h:List (Nat×Bx)) (j:Nat):Option Bx→List (Nat×Bx)
 |none=>h
 |some b=>(j,b)::h
def Bx.kept:Bx→St→Prop
 | .cel b off v,σ=>dU σ.bx (.ptr b off)=some v
 |_,_=>True
def xR:List (Nat×Bx)→List Nat→(St→Prop)→St→Prop
 |[],_,K=>K
 |(i,.cel b off v)::h,u,K=>fun σ=>(i∈u→dU σ.bx (.ptr b off)=some v)∧xR h u K σ
 |_::h,u,K=>xR h u K
theorem eL {K:St→Prop} {σ:St}: ∀ {h:List (Nat×Bx)} {u:List Nat},xR h u K σ↔(∀p∈h,p.1∈u→p.2.kept σ)∧K σ
 |[],u=>by simp [xR]
 |(i,.cel b off v)::h,u=>by
  have:=eL (K:=K) (σ:=σ) (h:=h) (u:=u)
  simp only [xR,this,i8,forall_eq_or_imp,Bx.kept];exact and_assoc.symm
 |(i,.one b)::h,u=>by
  have:=eL (K:=K) (σ:=σ) (h:=h) (u:=u)
  simp only [xR,this,i8,forall_eq_or_imp,Bx.kept,implies_true,true_and]
 |(i,.fr l)::h,u=>by
  have:=eL (K:=K) (σ:=σ) (h:=h) (u:=u)
  simp only [xR,this,i8,forall_eq_or_imp,Bx.kept,implies_true,true_and]
def jM:List (List Nat)→List be→Nat→List (Nat×Bx)→(St→Prop)→St→Prop
 |u::us,o::r,j,h,K,σ=>GE h u (eb σ o)∧bh S o (xR h u (jM us r (j+1) (yI h j (eb σ o)) K)) σ
 |[],[],_,_,K,σ=>K σ
 |_,_,_,_,_,_=>False

def fV (σ:St) (s:Nat) (b:Id) (rows:List (List AV)):St:=⟨(s,.sl rows)::ng σ.e b,ja σ.bx b,rF σ.pm b⟩
structure DG (σ:St) (s:Nat) (b:Id) (n sz:Nat) (rows:List (List AV)):Prop where
 hv:lk σ.e s= .ms b 0 n sz
 hb:ar σ.bx b=some rows.flatten
 hup:b.isUp=false
 hn:rows.length=n
 hsz: ∀r∈rows,r.length=sz
 hids:bc rows.flatten=[]
 hoff: ∀p∈ja σ.bx b,b∉bc p.2

structure ld (σ:St) (s:Nat) (b:Id) (n sz:Nat) (rows:List (List AV)) (tl:List AV):Prop where
 hv:lk σ.e s= .ms b 0 n sz
 hb:ar σ.bx b=some (rows.flatten++tl)
 hup:b.isUp=false
 hn:rows.length=n
 hsz: ∀r∈rows,r.length=sz
 hids:bc rows.flatten=[]
 hoff: ∀p∈ja σ.bx b,b∉bc p.2
def gC (σ:St) (s:Nat) (b:Id) (sz:Nat) (rows:List (List AV)):St:=(fV σ s b rows).puto s (.sl rows) sz

structure PA where
 d:Nat
 sz:Nat
 by_:Nat
 s:Nat
 y:X
 te:Nat
 tl:X
 v:X
 ad:List be
 ta:X
def Ra:be:= .gd 0 true 0 (.gd 0 true 0 .no)
def Rb:be→Bool
 | .mv _ _=>true
 | .nc _ _=>true
 | .fa _ _ _=>true
 | .ia _ _ _ _=>true
 | .iaa _ _ _ _ _=>true
 |_=>false
inductive AC where
 |sk
 |rg (l:List be)
 |rd (us:List (List Nat)) (l:List be)
 |sq (a b:AC)
 |cd (x:X) (a b:AC)
 |bl (i:Nat) (a:AC)
 |lp (a:AC)
 |ex (i:Nat)
 |rt
 |sc (a:AC)
 |lb
 |no
 |fz (s:Nat) (l:List be)

inductive AE where
 |n
 |x (i:Nat)
 |r

structure e7 (σ τ:St):Prop where
 e: ∀p∈τ.e,wk (lk σ.e p.1) p.2
 b: ∀p∈τ.bx,Dm σ.bx p.1 p.2
 p: ∀p∈τ.pm,aA σ.pm p.1=some p.2∨jL σ p.1
 ei: ∀p∈τ.e,∀d∈p.2.ids,(ar τ.bx d).isSome∨d.isUp=true
 bi: ∀p∈τ.bx,∀d∈bc p.2,(ar τ.bx d).isSome∨d.isUp=true
 pi: ∀p∈τ.pm,∀d∈p.1.ids,(ar τ.bx d).isSome

mutual
def AV.mp (f:Id→Id):AV→AV
 | .ptr d o=> .ptr (f d) o
 | .ms d o n sz=> .ms (f d) o n sz
 | .itp _=> .undef
 | .mref d=> .mref (f d)
 | .nilT d T n=> .nilT (f d) T n
 | .fn g cs=> .fn g (a7 f cs)
 | .agg cs=> .agg (a7 f cs)
 | .tup cs=> .tup (a7 f cs)
 | .ifc T v=> .ifc T (v.mp f)
 |v=>v
def a7 (f:Id→Id):List AV→List AV
 |[]=>[]
 |v::r=>v.mp f::a7 f r
end
def Pl.mp (f:Id→Id):Pl→Pl
 | .b d o=> .b (f d) o
 |p=>p
def bE (f:Id→Id):List (Id×List AV)→List (Id×List AV)
 |[]=>[]
 |(d,cs)::r=>(f d,a7 f cs)::bE f r
def bK (f:Id→Id):List (Pl×Nat)→List (Pl×Nat)
 |[]=>[]
 |(p,k)::r=>(p.mp f,k)::bK f r
def St.rn (σ:St) (f:Id→Id):St:=⟨σ.e.map fun p=>(p.1,p.2.mp f),bE f σ.bx,bK f σ.pm⟩
structure lS (f g:Id→Id):Prop where
 gf: ∀d,g (f d)=d
 fg: ∀d,f (g d)=d
 up: ∀d,d.isUp=true→f d=d
 it: ∀d,d.isIt=true→f d=d
def sA (σ τ:St):Prop:=e7 σ τ∨ ∃f g,lS f g∧e7 (σ.rn f) τ
theorem lS.comp {f g f' g':Id→Id} (h:lS f g) (h':lS f' g'):lS (fun d=>f' (f d)) (fun d=>g (g' d)):=
 ⟨fun d=>by simp only [h'.gf,h.gf],fun d=>by simp only [h.fg,h'.fg],fun d hd=>by simp only [h.up d hd,h'.up d hd],fun d hd=>by simp only [h.it d hd,h'.it d hd]⟩
def AE.sq (B:St→Prop) (Q:AE→St→Prop):AE→St→Prop
 | .n,σ=>B σ
 | .x i,σ=>Q (.x i) σ
 | .r,σ=>Q .r σ
def AE.bl (i:Nat) (Q:AE→St→Prop):AE→St→Prop
 | .n,σ=>Q .n σ
 | .x j,σ=>if j=i then Q .n σ else Q (.x j) σ
 | .r,σ=>Q .r σ

def Au (F:(AE→St→Prop)→St→Prop) (Q:AE→St→Prop):Nat→St→Prop
 |0,_=>False
 |n+1,σ=> ∃τ,sA σ τ∧F (AE.sq (Au F Q n) Q) τ

def dz:AC→(AE→St→Prop)→St→Prop
 | .sk,Q,σ=>Q .n σ
 | .rg l,Q,σ=>kT S l (Q .n) σ
 | .rd us l,Q,σ=>jM S us l 0 [] (Q .n) σ
 | .sq a b,Q,σ=>dz a (AE.sq (dz b Q) Q) σ
 | .cd x a b,Q,σ=>match σ.v x with
  | .bool t=>if t=true then dz a Q σ else dz b Q σ
  |_=>False
 | .bl i a,Q,σ=>dz a (AE.bl i Q) σ
 | .lp a,Q,σ=> ∃n,Au (dz a) Q n σ
 | .ex i,Q,σ=>Q (.x i) σ
 | .rt,Q,σ=>Q .r σ
 | .sc a,Q,σ=>dz a Q σ
 | .lb,Q,σ=>Q .n σ
 | .no,_,_=>False
 | .fz s l,Q,σ=> ∃b n sz rows tl,ld σ s b n sz rows tl∧sz<4294967296∧kT S l (Q .n) (gC σ s b sz rows)
end
end Go.Ai
namespace Go.Ai
open Go.RowKit

abbrev aI:=Nat→Nat→Option Value
structure BZ where
 z:Nat
 T:Nat
abbrev Gb:=Id→Option (Nat×BZ)
def eW:Gb:=fun _=>none

mutual
def PR (S:aI) (gb:Gb):AV→Value→Prop
 | .undef,_=>True
 | .int k n,v=>v= .int k n
 | .bool b,v=>v= .bool b
 | .str s,v=>v= .string ⟨s.toArray⟩
 | .nils,v=>v= .slice none 0 0
 | .nilp,v=>v= .pointer none
 | .nilT d T n,v=>v= .pointer none∧ ∃g,gb d=some (g,⟨n,T⟩)
 | .sl rows,v=>(v= .slice none 0 0∧rows=[])∨ ∃a cap k,v= .slice (some a) rows.length cap∧rows.length≤cap∧(rows=[]∨(a.spot=none∧aO S k rows a.block a.off))
 | .pin cs,v=> ∃g o,v= .pointer (some ⟨g,o,none⟩)∧aB S cs g o
 | .ptr d off,v=> ∃g z,gb d=some (g,z)∧d.isIt=false∧v= .pointer (some ⟨g,off,none⟩)
 | .ms d off n sz,v=> ∃g z cap,gb d=some (g,z)∧d.isIt=false∧v= .slice (some ⟨g,off,none⟩) n cap∧n≤cap∧cap≤maxLen∧off+cap*sz≤z.z
 | .itp d,v=> ∃g z,gb (.it d)=some (g,z)∧v= .pointer (some ⟨g,0,none⟩)
 | .itr _ _,_=>False
 | .mref d,v=> ∃g z,gb d=some (g,z)∧d.isIt=true∧v= .map (some g)
 | .mpv _,_=>False
 | .fn f cs,v=> ∃us:Array Value,v= .func (.func f) #[] us∧aa S gb cs us.toList
 | .agg cs,v=> ∃us,v= .agg us∧(∀u∈us.toList,u.oneCell'=true)∧aa S gb cs us.toList
 | .tup cs,v=> ∃us,v= .tuple us∧aa S gb cs us.toList
 | .ifc T x,v=> ∃u,v= .iface T u∧PR S gb x u
 | .nili,v=>v= .nilIface
 | .yv l,v=>v= .func (.yield l) #[] #[]
def aB (S:aI):List AV→Nat→Nat→Prop
 |[],_,_=>True
 |c::r,g,o=>(∃u,S g o=some u∧u.oneCell'=true∧PR S eW c u)∧aB S r g (o+1)
def aO (S:aI) (k:Nat):List (List AV)→Nat→Nat→Prop
 |[],_,_=>True
 |r::rs,g,o=>r.length=k∧aB S r g o∧aO S k rs g (o+k)
def aa (S:aI) (gb:Gb):List AV→List Value→Prop
 |[],us=>us=[]
 |c::r,us=> ∃u us',us=u::us'∧PR S gb c u∧aa S gb r us'
end

def aI.le (S S':aI):Prop:= ∀g o v,S g o=some v→S' g o=some v
def Gb.le (b b':Gb):Prop:= ∀d g,b d=some g→b' d=some g
theorem aI.le.refl (S:aI):S.le S:=fun _ _ _ h=>h
theorem aI.le.trans {S S' S'':aI} (h:S.le S') (h':S'.le S''):S.le S'':=fun g o v e=>h' g o v (h g o v e)
theorem Gb.le.refl (S:Gb):S.le S:=fun _ _ h=>h
theorem yJ (b:Gb):eW.le b:=fun _ _ h=>by simp [eW] at h

mutual
theorem PR.mono {S S':aI} {gb gb':Gb} (hs:S.le S') (hg:gb.le gb'): ∀(av:AV) (v:Value),PR S gb av v→PR S' gb' av v
 | .undef,_,_=>by simp [PR]
 | .int k n,v,h=>by simpa [PR] using h
 | .bool b,v,h=>by simpa [PR] using h
 | .str s,v,h=>by simpa [PR] using h
 | .nils,v,h=>by simpa [PR] using h
 | .nilp,v,h=>by simpa [PR] using h
 | .nilT d T n,v,h=>by
  simp only [PR] at h ⊢;obtain ⟨h1,g,h2⟩:=h;exact ⟨h1,g,hg _ _ h2⟩
 | .sl rows,v,h=>by
  simp only [PR] at h ⊢;rcases h with h|⟨a,cap,k,h1,h2,h3⟩
  ·exact .inl h
  ·refine .inr ⟨a,cap,k,h1,h2,?_⟩;rcases h3 with h3|⟨h3,h4⟩
   ·exact .inl h3
   ·exact .inr ⟨h3,aO.mono hs k rows _ _ h4⟩
 | .pin cs,v,h=>by
  simp only [PR] at h ⊢;obtain ⟨g,o,h1,h2⟩:=h;exact ⟨g,o,h1,aB.mono hs cs _ _ h2⟩
 | .ptr d off,v,h=>by
  simp only [PR] at h ⊢;obtain ⟨g,z,h1,h2⟩:=h;exact ⟨g,z,hg _ _ h1,h2⟩
 | .ms d off n k,v,h=>by
  simp only [PR] at h ⊢;obtain ⟨g,z,cap,h1,h2⟩:=h;exact ⟨g,z,cap,hg _ _ h1,h2⟩
 | .itp d,v,h=>by
  simp only [PR] at h ⊢;obtain ⟨g,z,h1,h2⟩:=h;exact ⟨g,z,hg _ _ h1,h2⟩
 | .itr _ _,v,h=>by simp [PR] at h
 | .mref d,v,h=>by
  simp only [PR] at h ⊢;obtain ⟨g,z,h1,h2⟩:=h;exact ⟨g,z,hg _ _ h1,h2⟩
 | .mpv _,v,h=>by simp [PR] at h
 | .fn f cs,v,h=>by
  simp only [PR] at h ⊢;obtain ⟨us,h1,h2⟩:=h;exact ⟨us,h1,aa.mono hs hg cs _ h2⟩
 | .agg cs,v,h=>by
  simp only [PR] at h ⊢;obtain ⟨us,h1,h0,h2⟩:=h;exact ⟨us,h1,h0,aa.mono hs hg cs _ h2⟩
 | .tup cs,v,h=>by
  simp only [PR] at h ⊢;obtain ⟨us,h1,h2⟩:=h;exact ⟨us,h1,aa.mono hs hg cs _ h2⟩
 | .ifc T x,v,h=>by
  simp only [PR] at h ⊢;obtain ⟨u,h1,h2⟩:=h;exact ⟨u,h1,PR.mono hs hg x u h2⟩
 | .nili,v,h=>by simpa [PR] using h
 | .yv _,v,h=>by simpa [PR] using h
theorem aB.mono {S S':aI} (hs:S.le S'): ∀(cs:List AV) (g o:Nat),aB S cs g o→aB S' cs g o
 |[],_,_,_=>by simp [aB]
 |c::r,g,o,h=>by
  simp only [aB] at h ⊢;obtain ⟨⟨u,h1,h0,h2⟩,h3⟩:=h;exact ⟨⟨u,hs _ _ _ h1,h0,PR.mono hs (Gb.le.refl _) c u h2⟩,aB.mono hs r g (o+1) h3⟩
theorem aO.mono {S S':aI} (hs:S.le S'): ∀(k:Nat) (rs:List (List AV)) (g o:Nat),aO S k rs g o→aO S' k rs g o
 |k,[],_,_,_=>by simp [aO]
 |k,r::rs,g,o,h=>by
  simp only [aO] at h ⊢;obtain ⟨h1,h2,h3⟩:=h;exact ⟨h1,aB.mono hs r g o h2,aO.mono hs k rs g (o+k) h3⟩
theorem aa.mono {S S':aI} {gb gb':Gb} (hs:S.le S') (hg:gb.le gb'): ∀(cs:List AV) (us:List Value),aa S gb cs us→aa S' gb' cs us
 |[],us,h=>by simpa [aa] using h
 |c::r,us,h=>by
  simp only [aa] at h ⊢;obtain ⟨u,us',h1,h2,h3⟩:=h;exact ⟨u,us',h1,PR.mono hs hg c u h2,aa.mono hs hg r us' h3⟩
end

mutual
theorem PR.restr {S:aI} {gb gb':Gb}: ∀(av:AV) (v:Value),(∀d∈av.ids,gb d=gb' d)→PR S gb av v→PR S gb' av v
 | .undef,_,_,_=>by simp [PR]
 | .int k n,v,_,h=>by simpa [PR] using h
 | .bool b,v,_,h=>by simpa [PR] using h
 | .str s,v,_,h=>by simpa [PR] using h
 | .nils,v,_,h=>by simpa [PR] using h
 | .nilp,v,_,h=>by simpa [PR] using h
 | .nilT d T n,v,hi,h=>by
  simp only [PR] at h ⊢
  have:=hi d (by simp [AV.ids])
  rw [←this];exact h
 | .sl rows,v,_,h=>by simpa [PR] using h
 | .pin cs,v,_,h=>by simpa [PR] using h
 | .ptr d off,v,hi,h=>by
  simp only [PR] at h ⊢
  have:=hi d (by simp [AV.ids])
  rw [←this];exact h
 | .ms d off n k,v,hi,h=>by
  simp only [PR] at h ⊢
  have:=hi d (by simp [AV.ids])
  rw [←this];exact h
 | .itp d,v,hi,h=>by
  simp only [PR] at h ⊢
  have:=hi (.it d) (by simp [AV.ids])
  rw [←this];exact h
 | .itr _ _,v,hi,h=>by simp [PR] at h
 | .mref d,v,hi,h=>by
  simp only [PR] at h ⊢
  have:=hi d (by simp [AV.ids])
  rw [←this];exact h
 | .mpv _,v,hi,h=>by simp [PR] at h
 | .fn f cs,v,hi,h=>by
  simp only [PR] at h ⊢;obtain ⟨us,h1,h2⟩:=h;exact ⟨us,h1,aa.restr cs _ (by simpa [AV.ids] using hi) h2⟩
 | .agg cs,v,hi,h=>by
  simp only [PR] at h ⊢;obtain ⟨us,h1,h0,h2⟩:=h;exact ⟨us,h1,h0,aa.restr cs _ (by simpa [AV.ids] using hi) h2⟩
 | .tup cs,v,hi,h=>by
  simp only [PR] at h ⊢;obtain ⟨us,h1,h2⟩:=h;exact ⟨us,h1,aa.restr cs _ (by simpa [AV.ids] using hi) h2⟩
 | .ifc T x,v,hi,h=>by
  simp only [PR] at h ⊢;obtain ⟨u,h1,h2⟩:=h;exact ⟨u,h1,PR.restr x u (by simpa [AV.ids] using hi) h2⟩
 | .nili,v,_,h=>by simpa [PR] using h
 | .yv _,v,_,h=>by simpa [PR] using h
theorem aa.restr {S:aI} {gb gb':Gb}: ∀(cs:List AV) (us:List Value),(∀d∈bc cs,gb d=gb' d)→aa S gb cs us→aa S gb' cs us
 |[],us,_,h=>by simpa [aa] using h
 |c::r,us,hi,h=>by
  simp only [aa] at h ⊢;obtain ⟨u,us',h1,h2,h3⟩:=h;exact ⟨u,us',h1,PR.restr c u (fun d hd=>hi d (by simp [bc,hd])) h2,aa.restr r us' (fun d hd=>hi d (by simp [bc,hd])) h3⟩
end

mutual
theorem bH {S:aI} {gb:Gb}: ∀(av av':AV) (v:Value),dB av=some av'→PR S gb av v→PR S eW av' v
 | .undef,_,_,h,_=>by simp [dB] at h
 | .int k n,_,v,h,p=>by simp [dB] at h;subst h;simpa [PR] using p
 | .bool b,_,v,h,p=>by simp [dB] at h;subst h;simpa [PR] using p
 | .str s,_,v,h,p=>by simp [dB] at h;subst h;simpa [PR] using p
 | .nils,_,v,h,p=>by simp [dB] at h;subst h;simp only [PR] at p ⊢;exact .inl ⟨p,trivial⟩
 | .nilp,_,v,h,p=>by simp [dB] at h;subst h;simpa [PR] using p
 | .nilT _ _ _,_,v,h,p=>by
  simp only [dB,bV] at h;subst h;simp only [PR] at p ⊢;exact p.1
 | .sl rows,_,v,h,p=>by simp [dB] at h;subst h;simpa [PR] using p
 | .pin cs,_,v,h,p=>by simp [dB] at h;subst h;simpa [PR] using p
 | .ptr d off,_,v,h,p=>by simp [dB] at h
 | .ms d off n k,_,v,h,p=>by simp [dB] at h
 | .itp _,_,v,h,p=>by simp [dB] at h
 | .itr _ _,_,v,h,p=>by simp [dB] at h
 | .mref _,_,v,h,p=>by simp [dB] at h
 | .mpv _,_,v,h,p=>by simp [dB] at h
 | .fn f cs,_,v,h,p=>by
  simp only [dB,vy] at h;obtain ⟨cs',h1,rfl⟩:=h;simp only [PR] at p ⊢;obtain ⟨us,h2,h3⟩:=p;exact ⟨us,h2,iE cs cs' _ h1 h3⟩
 | .agg cs,_,v,h,p=>by
  simp only [dB,vy] at h;obtain ⟨cs',h1,rfl⟩:=h;simp only [PR] at p ⊢;obtain ⟨us,h2,h0,h3⟩:=p;exact ⟨us,h2,h0,iE cs cs' _ h1 h3⟩
 | .tup cs,_,v,h,p=>by
  simp only [dB,vy] at h;obtain ⟨cs',h1,rfl⟩:=h;simp only [PR] at p ⊢;obtain ⟨us,h2,h3⟩:=p;exact ⟨us,h2,iE cs cs' _ h1 h3⟩
 | .ifc T x,_,v,h,p=>by
  simp only [dB,vy] at h;obtain ⟨x',h1,rfl⟩:=h;simp only [PR] at p ⊢;obtain ⟨u,h2,h3⟩:=p;exact ⟨u,h2,bH x x' u h1 h3⟩
 | .nili,_,v,h,p=>by simp [dB] at h;subst h;simpa [PR] using p
 | .yv _,_,v,h,p=>by simp [dB] at h;subst h;simpa [PR] using p
theorem iE {S:aI} {gb:Gb}: ∀(cs cs':List AV) (us:List Value),jy cs=some cs'→aa S gb cs us→aa S eW cs' us
 |[],_,us,h,p=>by simp [jy] at h;subst h;simpa [aa] using p
 |c::r,_,us,h,p=>by
  simp only [jy] at h;split at h
  ·rename_i c' r' hc hr;simp only [bV] at h;subst h;simp only [aa] at p ⊢;obtain ⟨u,us',h1,h2,h3⟩:=p;exact ⟨u,us',h1,bH c c' u hc h2,iE r r' us' hr h3⟩
  ·cases h
end

mutual
theorem vC {S:aI} {gb:Gb}: ∀(av av':AV) (v:Value),pK av=some av'→PR S gb av v→PR S eW av' v
 | .nils,_,v,h,p=>by simp [pK] at h;subst h;simpa [PR] using p
 | .agg cs,_,v,h,p=>by
  simp only [pK,vy] at h;obtain ⟨cs',h1,rfl⟩:=h;simp only [PR] at p ⊢;obtain ⟨us,h2,h0,h3⟩:=p;exact ⟨us,h2,h0,kt cs cs' _ h1 h3⟩
 | .tup cs,_,v,h,p=>by
  simp only [pK,vy] at h;obtain ⟨cs',h1,rfl⟩:=h;simp only [PR] at p ⊢;obtain ⟨us,h2,h3⟩:=p;exact ⟨us,h2,kt cs cs' _ h1 h3⟩
 | .undef,_,v,h,p=>bH _ _ _ h p
 | .int _ _,_,v,h,p=>bH _ _ _ h p
 | .bool _,_,v,h,p=>bH _ _ _ h p
 | .str _,_,v,h,p=>bH _ _ _ h p
 | .sl _,_,v,h,p=>bH _ _ _ h p
 | .pin _,_,v,h,p=>bH _ _ _ h p
 | .ptr _ _,_,v,h,p=>bH _ _ _ h p
 | .ms _ _ _ _,_,v,h,p=>bH _ _ _ h p
 | .fn _ _,_,v,h,p=>bH _ _ _ h p
 | .itr _ _,_,v,h,p=>bH _ _ _ h p
 | .itp _,_,v,h,p=>bH _ _ _ h p
 | .mref _,_,v,h,p=>bH _ _ _ h p
 | .mpv _,_,v,h,p=>bH _ _ _ h p
 | .nilp,_,v,h,p=>bH _ _ _ h p
 | .nilT _ _ _,_,v,h,p=>bH _ _ _ h p
 | .ifc _ _,_,v,h,p=>bH _ _ _ h p
 | .nili,_,v,h,p=>bH _ _ _ h p
 | .yv _,_,v,h,p=>bH _ _ _ h p
theorem kt {S:aI} {gb:Gb}: ∀(cs cs':List AV) (us:List Value),jK cs=some cs'→aa S gb cs us→aa S eW cs' us
 |[],_,us,h,p=>by simp [jK] at h;subst h;simpa [aa] using p
 |c::r,_,us,h,p=>by
  simp only [jK] at h;split at h
  ·rename_i c' r' hc hr;simp only [bV] at h;subst h;simp only [aa] at p ⊢;obtain ⟨u,us',h1,h2,h3⟩:=p;exact ⟨u,us',h1,vC c c' u hc h2,kt r r' us' hr h3⟩
  ·cases h
end

theorem aa.length {S:aI} {gb:Gb}: ∀ {cs:List AV} {us:List Value},aa S gb cs us→cs.length=us.length
 |[],us,h=>by simp [aa] at h;subst h;rfl
 |c::r,us,h=>by
  simp only [aa] at h;obtain ⟨u,us',rfl,_,h3⟩:=h;simp [aa.length h3]
theorem aa.setNil {S:aI} {gb:Gb} {d:Id} {T n g:Nat} (hg:gb d=some (g,⟨n,T⟩)): ∀ {cs:List AV} {us:List Value},aa S gb cs us→ ∀ {off:Nat},cs[off]?=some .nilp→aa S gb (cs.set off (.nilT d T n)) us
 |[],us,h,off,h2=>by simp at h2
 |c::r,us,h,0,h2=>by
  simp only [List.getElem?_cons_zero,bV] at h2;subst h2;simp only [List.set_cons_zero,aa,PR] at h ⊢;obtain ⟨u,us',h1,h3,h4⟩:=h;exact ⟨u,us',h1,⟨h3,g,hg⟩,h4⟩
 |c::r,us,h,off+1,h2=>by
  simp only [List.getElem?_cons_succ] at h2;simp only [List.set_cons_succ,aa] at h ⊢;obtain ⟨u,us',h1,h3,h4⟩:=h;exact ⟨u,us',h1,h3,aa.setNil hg h4 h2⟩
theorem aa.get {S:aI} {gb:Gb}: ∀ {cs:List AV} {us:List Value},aa S gb cs us→ ∀ {i:Nat} {c:AV},cs[i]?=some c→ ∃u,us[i]?=some u∧PR S gb c u
 |[],us,h,i,c,hc=>by simp at hc
 |c0::r,us,h,i,c,hc=>by
  simp only [aa] at h;obtain ⟨u,us',rfl,h2,h3⟩:=h;cases i with
  |zero=>simp at hc;subst hc;exact ⟨u,by simp,h2⟩
  |succ i=>simp at hc;obtain ⟨u',h4,h5⟩:=aa.get h3 hc;exact ⟨u',by simpa using h4,h5⟩
theorem aa.append {S:aI} {gb:Gb}: ∀ {cs cs':List AV} {us us':List Value},aa S gb cs us→aa S gb cs' us'→aa S gb (cs++cs') (us++us')
 |[],cs',us,us',h,h'=>by simp [aa] at h;subst h;simpa using h'
 |c::r,cs',us,us',h,h'=>by
  simp only [aa] at h;obtain ⟨u,us1,rfl,h2,h3⟩:=h;exact ⟨u,us1++us',by simp,h2,aa.append h3 h'⟩
theorem aa.take {S:aI} {gb:Gb} (n:Nat): ∀ {cs:List AV} {us:List Value},aa S gb cs us→aa S gb (cs.take n) (us.take n):=by
 induction n with
 |zero=>intro cs us h;simp [aa]
 |succ n ih=>
  intro cs us h;cases cs with
  |nil=>simp [aa] at h;subst h;simp [aa]
  |cons c r=>
   simp only [aa] at h;obtain ⟨u,us',rfl,h2,h3⟩:=h;exact ⟨u,us'.take n,by simp,h2,ih h3⟩
theorem aa.drop {S:aI} {gb:Gb} (n:Nat): ∀ {cs:List AV} {us:List Value},aa S gb cs us→aa S gb (cs.drop n) (us.drop n):=by
 induction n with
 |zero=>intro cs us h;simpa using h
 |succ n ih=>
  intro cs us h;cases cs with
  |nil=>simp [aa] at h;subst h;simp [aa]
  |cons c r=>
   simp only [aa] at h;obtain ⟨u,us',rfl,h2,h3⟩:=h;simpa using ih h3

theorem aB.drop {S:aI} (n:Nat): ∀ {cs:List AV} {g o:Nat},aB S cs g o→aB S (cs.drop n) g (o+n):=by
 induction n with
 |zero=>intro cs g o h;simpa using h
 |succ n ih=>
  intro cs g o h;cases cs with
  |nil=>simp [aB]
  |cons c r=>
   simp only [aB] at h
   have:=ih h.2
   simpa [DE,Lq 1 n] using this
theorem aB.get {S:aI}: ∀ {cs:List AV} {g o:Nat},aB S cs g o→ ∀ {i:Nat} {c:AV},cs[i]?=some c→ ∃u,S g (o+i)=some u∧u.oneCell'=true∧PR S eW c u
 |[],g,o,h,i,c,hc=>by simp at hc
 |c0::r,g,o,h,i,c,hc=>by
  simp only [aB] at h;obtain ⟨⟨u,h1,h0,h2⟩,h3⟩:=h;cases i with
  |zero=>simp at hc;subst hc;exact ⟨u,by simpa using h1,h0,h2⟩
  |succ i=>simp at hc;obtain ⟨u',h4,h5⟩:=aB.get h3 hc;exact ⟨u',by rw [show o+(i+1)=o+1+i by omega];exact h4,h5⟩
theorem aB.list {S:aI}: ∀ {cs:List AV} {g o:Nat},aB S cs g o→ ∃us:List Value,us.length=cs.length∧(∀j u,us[j]?=some u→S g (o+j)=some u)∧(∀u∈us,u.oneCell'=true)∧aa S eW cs us
 |[],g,o,h=>⟨[],by simp [aa]⟩
 |c::r,g,o,h=>by
  simp only [aB] at h;obtain ⟨⟨u,h1,h0,h2⟩,h3⟩:=h;obtain ⟨us,l1,l2,l4,l3⟩:=aB.list h3;refine ⟨u::us,by simp [l1],?_,?_,⟨u,us,rfl,h2,l3⟩⟩
  ·intro j x hx;cases j with
   |zero=>simp at hx;subst hx;simpa using h1
   |succ j=>simp at hx;rw [show o+(j+1)=o+1+j by omega];exact l2 j x hx
  ·intro x hx;cases hx with
   |head=>exact h0
   |tail _ hx=>exact l4 x hx
theorem aB.of_list {S:aI}: ∀ {cs:List AV} {us:List Value} {g o:Nat},aa S eW cs us→(∀u∈us,u.oneCell'=true)→(∀j u,us[j]?=some u→S g (o+j)=some u)→aB S cs g o
 |[],us,g,o,_,_,_=>by simp [aB]
 |c::r,us,g,o,h,h1,hs=>by
  simp only [aa] at h;obtain ⟨u,us',rfl,h2,h3⟩:=h;simp only [aB];refine ⟨⟨u,by simpa using hs 0 u (by simp),h1 u (by simp),h2⟩,aB.of_list h3 (fun x hx=>h1 x (by simp [hx])) (fun j x hx=>?_)⟩;rw [show o+1+j=o+(j+1) by omega];exact hs (j+1) x (by simpa using hx)
theorem aB.append {S:aI}: ∀ {cs cs':List AV} {g o:Nat},aB S cs g o→aB S cs' g (o+cs.length)→aB S (cs++cs') g o
 |[],cs',g,o,_,h'=>by simpa using h'
 |c::r,cs',g,o,h,h'=>by
  simp only [aB,bt] at h ⊢;exact ⟨h.1,aB.append h.2 (by rw [show o+1+r.length=o+(c::r).length by simp;omega];exact h')⟩
theorem aO.flat {S:aI} {k:Nat}: ∀ {rows:List (List AV)} {g o:Nat},aO S k rows g o↔(∀r∈rows,r.length=k)∧aB S rows.flatten g o
 |[],g,o=>by simp [aO,aB]
 |r::rs,g,o=>by
  simp only [aO,List.flatten_cons,Oo];constructor
  ·rintro ⟨h1,h2,h3⟩;obtain ⟨h4,h5⟩:=aO.flat.1 h3;exact ⟨⟨h1,h4⟩,aB.append h2 (by rw [h1];exact h5)⟩
  ·rintro ⟨⟨h1,h4⟩,h5⟩;obtain ⟨us,l1,l2,l4,l3⟩:=aB.list h5;have ht:=l3.take r.length;have hd:=l3.drop r.length;simp only [List.take_left',List.drop_left'] at ht hd;refine ⟨h1,aB.of_list ht (fun u hu=>l4 u (BH hu)) (fun j u hu=>?_),aO.flat.2 ⟨h4,aB.of_list hd (fun u hu=>l4 u (List.mem_of_mem_drop hu)) (fun j u hu=>?_)⟩⟩
   ·rw [oW] at hu;split at hu
    ·exact l2 j u hu
    ·cases hu
   ·rw [List.getElem?_drop] at hu;rw [←h1,DE];exact l2 _ u hu
theorem aV {k:Nat}: ∀ {rows:List (List AV)},(∀r∈rows,r.length=k)→rows.flatten.length=rows.length*k
 |[],_=>by simp
 |r::rs,h=>by
  simp only [Oo] at h;simp [aV h.2,h.1,Nat.add_mul,Lq]
theorem aO.get {S:aI} {k:Nat}: ∀ {rows:List (List AV)} {g o:Nat},aO S k rows g o→ ∀ {i:Nat} {r:List AV},rows[i]?=some r→r.length=k∧aB S r g (o+i*k)
 |[],g,o,h,i,r,hr=>by simp at hr
 |r0::rs,g,o,h,i,r,hr=>by
  simp only [aO] at h;obtain ⟨h1,h2,h3⟩:=h;cases i with
  |zero=>simp at hr;subst hr;exact ⟨h1,by simpa using h2⟩
  |succ i=>simp at hr;have:=aO.get h3 hr;rw [show o+(i+1)*k=o+k+i*k by rw [Nat.add_mul];omega];exact this
theorem aO.take {S:aI} {k:Nat} (n:Nat): ∀ {rows:List (List AV)} {g o:Nat},aO S k rows g o→aO S k (rows.take n) g o:=by
 induction n with
 |zero=>intro rows g o _;simp [aO]
 |succ n ih=>
  intro rows g o h;cases rows with
  |nil=>simp [aO]
  |cons r rs=>simp only [aO,List.take_succ_cons] at h ⊢;exact ⟨h.1,h.2.1,ih h.2.2⟩
theorem aO.drop {S:aI} {k:Nat} (n:Nat): ∀ {rows:List (List AV)} {g o:Nat},aO S k rows g o→aO S k (rows.drop n) g (o+n*k):=by
 induction n with
 |zero=>intro rows g o h;simpa using h
 |succ n ih=>
  intro rows g o h;cases rows with
  |nil=>simp [aO]
  |cons r rs=>
   simp only [aO,List.drop_succ_cons] at h ⊢
   have:=ih h.2.2
   rw [show o+(n+1)*k=o+k+n*k by rw [Nat.add_mul];omega];exact this
end Go.Ai
namespace Go.Ai
open Go.RowKit

def Pl.at (d:Nat):Pl→Bool
 | .s j=>j==d
 | .t j _=>j==d
 | .b _ _=>false
def bL (gb:Gb) (sv:Nat→Value) (w:World):Pl→Value
 | .s t=>sv t
 | .t t i=>match sv t with
  | .tuple us=>us.getD i undef
  |_=>undef
 | .b d off=>match gb d with
  |some (g,_)=>(w.cell? ⟨g,off,none⟩).getD undef
  |none=>undef

def KB:Nat:=4294967296
def pN (S:aI) (w:World) (k:Nat) (v:Value):Prop:=
 v= .slice none 0 0∨(k<KB∧ ∃g n cap cur T,v= .slice (some ⟨g,0,none⟩) n cap∧w.heap[g]?=some (.cells cur T (0,0))∧n≤cap∧cap≤maxLen∧cap*k≤cur.size∧(∀o,n*k≤o→S g o=none))∨
  (KB≤k∧ ∃g n cap cur,v= .slice (some ⟨g,0,none⟩) n cap∧w.heap[g]?=some (.cells cur (k - KB) (0,0))∧n≤cap∧cap≤maxLen∧cur.size=cap∧(∀o,n≤o→S g o=none))

structure Bw (M:Nat→Prop) (w w':World):Prop where
 os:w'.os=w.os
 tape:w'.tape=w.tape
 output:w'.output=w.output
 size:w.heap.size≤w'.heap.size
 block: ∀k,k<w.heap.size→ ¬M k→w'.heap[k]?=w.heap[k]?
theorem Bw.refl (M:Nat→Prop) (w:World):Bw M w w:=⟨rfl,rfl,rfl,eV _,fun _ _ _=>rfl⟩
theorem Bw.of_below {M:Nat→Prop} {w w':World} (h:Below w.heap.size w w'):Bw M w w':=⟨h.os,h.tape,h.output,h.size,fun k hk _=>h.block k hk⟩
theorem Bw.trans {M M':Nat→Prop} {a b c:World} (h:Bw M a b) (k:Bw M' b c) (hm: ∀g,g<a.heap.size→M' g→M g):Bw M a c:=
 ⟨k.os.trans h.os,k.tape.trans h.tape,k.output.trans h.output,pJ h.size k.size,fun i hi hn=>(k.block i (xO hi h.size) (fun e=>hn (hm i hi e))).trans (h.block i hi hn)⟩

def MK.val:MK→Value
 | .s l=> .string ⟨l.toArray⟩
 | .i k n=> .int k n
def GF (es:List (MK×MK)):Array MapEntry:=(es.zipIdx.map fun p=>(⟨p.1.1.val,p.1.2.val,p.2⟩:MapEntry)).toArray
def DH:List AV→Option Obj
 |[.itr s pos]=>some (.stringIter ⟨s.toArray⟩ pos)
 |[.mpv es]=>some (.map (GF es) es.length)
 |_=>none
theorem tQ {cs:List AV} {ob:Obj} (h:DH cs=some ob): ∃v,cs=[v]∧v≠ .nils:=by
 unfold DH at h;split at h
 ·exact ⟨_,rfl,by simp⟩
 ·exact ⟨_,rfl,by simp⟩
 ·cases h
theorem DI {cs cs':List AV} {ob:Obj} (h:DH cs=some ob) (hw:pd cs cs'):DH cs'=some ob:=by
 obtain ⟨v,rfl,hv⟩:=tQ h
 match cs',hw with
 |[u],hw=>
  simp only [pd] at hw;rcases hw.1 with e|⟨e,_⟩
  ·rw [←e];exact h
  ·exact absurd e hv
 |[],hw=>simp [pd] at hw
 |_::_::_,hw=>simp [pd] at hw
structure HR (S:aI) (gb:Gb) (bx:List (Id×List AV)) (pm:List (Pl×Nat)) (sv:Nat→Value) (w:World):Prop where
 agree: ∀g o v,S g o=some v→w.cell? ⟨g,o,none⟩=some v
 box: ∀d cs,ar bx d=some cs→d.isIt=false→ ∃g us T,gb d=some (g,⟨us.size,T⟩)∧w.heap[g]?=some (.cells us T (0,0))∧cs.length≤us.size∧aa S gb cs (us.toList.take cs.length)∧(∀u∈us.toList,u.oneCell'=true)∧(∀o,S g o=none)
 its: ∀d cs,ar bx d=some cs→d.isIt=true→ ∃g z ob,gb d=some (g,z)∧DH cs=some ob∧w.heap[g]?=some ob∧ ∀o,S g o=none
 inj: ∀d d' g z z',(ar bx d).isSome→(ar bx d').isSome→gb d=some (g,z)→gb d'=some (g,z')→d=d'
 own: ∀p k,aA pm p=some k→pN S w k (bL gb sv w p)
 ownd: ∀p q k l b,aA pm p=some k→aA pm q=some l→(bL gb sv w p).ownBlock=some b→(bL gb sv w q).ownBlock=some b→p=q
 ownb: ∀p k b d z,aA pm p=some k→(bL gb sv w p).ownBlock=some b→(ar bx d).isSome→gb d≠some (b,z)
 pmb: ∀d off k,aA pm (.b d off)=some k→(ar bx d).isSome∧d.isIt=false

structure Fr where
 S0:aI
 w0:World
 M:Nat→Prop
 gb:Gb
 N:Nat
 GL:List (Nat×List Value)
 df:List Deferred

def tv (a:Act):Nat→Value:=fun t=>a.tmps.getD t undef

structure aE (F:Fr) (S:aI) (gb:Gb) (σ:St) (a:Act) (w:World):Prop where
 defers:a.defers=F.df
 size:a.tmps.size=F.N
 bw:Bw F.M F.w0 w
 ext: ∀g o,g<F.w0.heap.size→ ¬F.M g→S g o=F.S0 g o
 le:F.S0.le S
 env: ∀t,PR S gb (lk σ.e t) (tv a t)
 hr:HR S gb σ.bx σ.pm (tv a) w
 newb: ∀d g z,(ar σ.bx d).isSome→gb d=some (g,z)→F.w0.heap.size≤g∨F.M g
 newo: ∀p k g,aA σ.pm p=some k→(bL gb (tv a) w p).ownBlock=some g→F.w0.heap.size≤g∨F.M g
 dom: ∀d,gb d≠none→(ar σ.bx d).isSome∨d.isUp=true
 up: ∀d,gb (.up d)=F.gb d
 glo: ∀i us,F.GL.lookup i=some us→ ∀(o:Nat) (u:Value),us[o]?=some u→F.S0 i o=some u∧u.oneCell'=true

theorem io (l:List (Pl×Nat)) (p q:Pl):aA (dl l p) q=if q=p then none else aA l q:=by
 induction l with
 |nil=>simp [dl,aA]
 |cons x r ih=>
  obtain ⟨y,k⟩:=x;simp only [dl];split
  ·rename_i h;subst h;rw [ih];simp only [aA];split
   ·rfl
   ·rename_i h2;rw [if_neg (fun e=>h2 e.symm)]
  ·rename_i h;simp only [aA,ih];split
   ·rename_i h2;subst h2;rw [if_neg (fun e=>h e)]
   ·rfl
theorem jd (l:List (Pl×Nat)) (d:Nat) (q:Pl):aA (fU l d) q=if q.at d=true then none else aA l q:=by
 induction l with
 |nil=>simp [fU,aA]
 |cons x r ih=>
  obtain ⟨y,k⟩:=x;cases y with
  |s t=>
   simp only [fU];split
   ·rename_i h;subst h;rw [ih];simp only [aA];split
    ·rfl
    ·rename_i h2;rw [if_neg];intro e;subst e;simp [Pl.at] at h2
   ·rename_i h;simp only [aA,ih];split
    ·rename_i h2;subst h2;simp [Pl.at,h]
    ·rfl
  |t t i=>
   simp only [fU];split
   ·rename_i h;subst h;rw [ih];simp only [aA];split
    ·rfl
    ·rename_i h2;rw [if_neg];intro e;subst e;simp [Pl.at] at h2
   ·rename_i h;simp only [aA,ih];split
    ·rename_i h2;subst h2;simp [Pl.at,h]
    ·rfl
  |b e o=>
   simp only [fU,aA,ih];split
   ·rename_i h2;subst h2;simp [Pl.at]
   ·rfl
theorem ku (l:List (Pl×Nat)) (d:Id) (q:Pl):aA (rF l d) q=match q with | .b e _=>if e=d then none else aA l q|_=>aA l q:=by
 induction l with
 |nil=>cases q<;>simp [rF,aA]
 |cons x r ih=>
  obtain ⟨y,k⟩:=x;cases y with
  |b e o=>
   simp only [rF];split
   ·rename_i h;subst h;rw [ih];cases q with
    |b e2 o2=>
     simp only [aA];split
     ·rfl
     ·rename_i h2;rw [if_neg];intro h3;cases h3;exact h2 rfl
    |s t=>simp [aA]
    |t t i=>simp [aA]
   ·rename_i h;simp only [aA,ih];cases q with
    |b e2 o2=>
     simp only [];split
     ·rename_i h2;cases h2;rw [if_neg h]
     ·rfl
    |s t=>simp
    |t t i=>simp
  |s t=>
   simp only [rF,aA,ih];cases q with
   |b e2 o2=>simp
   |s t2=>rfl
   |t t2 i=>rfl
  |t t j=>
   simp only [rF,aA,ih];cases q with
   |b e2 o2=>simp
   |s t2=>rfl
   |t t2 i=>rfl
theorem Av (l:List (Pl×Nat)) (d:Id) (off n:Nat) (q:Pl) {k:Nat} (h:aA (vo l d off n) q=some k):aA l q=some k∧ ∀o,q= .b d o→ ¬(off≤o∧o<off+n):=by
 induction l with
 |nil=>simp [vo,aA] at h
 |cons x r ih=>
  obtain ⟨y,k'⟩:=x;cases y with
  |s t=>
   simp only [vo,aA] at h ⊢;split
   ·rename_i h2;subst h2;rw [if_pos rfl] at h;exact ⟨h,by simp⟩
   ·rename_i h2;rw [if_neg h2] at h;exact ih h
  |t t i=>
   simp only [vo,aA] at h ⊢;split
   ·rename_i h2;subst h2;rw [if_pos rfl] at h;exact ⟨h,by simp⟩
   ·rename_i h2;rw [if_neg h2] at h;exact ih h
  |b e o=>
   simp only [vo] at h;split at h
   ·rename_i h2;obtain ⟨h3,h4⟩:=ih h;simp only [aA];refine ⟨?_,h4⟩;rw [if_neg]
    ·exact h3
    ·intro e';subst e';obtain ⟨rfl,h5⟩:=h2;exact h4 o rfl h5
   ·rename_i h2;simp only [aA] at h ⊢;split
    ·rename_i h3;subst h3;rw [if_pos rfl] at h;refine ⟨h,fun o' e'=>?_⟩;simp only [Pl.b.injEq] at e';obtain ⟨rfl,rfl⟩:=e';exact fun h5=>h2 ⟨rfl,h5⟩
    ·rename_i h3;rw [if_neg h3] at h;exact ih h

theorem pN.mono {S S':aI} {w w':World} {k:Nat} {v:Value} (h:pN S w k v) (hh: ∀g,v.ownBlock=some g→w'.heap[g]?=w.heap[g]?) (hs: ∀g o,v.ownBlock=some g→S g o=none→S' g o=none):pN S' w' k v:=by
 rcases h with h|⟨hk,g,n,cap,cur,T,rfl,h3,h4,h5,h6,h7⟩|⟨hk,g,n,cap,cur,rfl,h3,h4,h5,h6,h7⟩
 ·exact .inl h
 ·refine .inr (.inl ⟨hk,g,n,cap,cur,T,rfl,?_,h4,h5,h6,fun o ho=>hs g o rfl (h7 o ho)⟩);rw [hh g rfl];exact h3
 ·refine .inr (.inr ⟨hk,g,n,cap,cur,rfl,?_,h4,h5,h6,fun o ho=>hs g o rfl (h7 o ho)⟩);rw [hh g rfl];exact h3
theorem pN.lt {S:aI} {w:World} {k:Nat} {v:Value} (h:pN S w k v) {g:Nat} (hg:v.ownBlock=some g):g<w.heap.size:=by
 rcases h with h|⟨_,g',n,cap,cur,T,h,h3,_⟩|⟨_,g',n,cap,cur,h,h3,_⟩
 ·rw [h] at hg;simp [Value.ownBlock] at hg
 ·rw [h] at hg;simp [Value.ownBlock] at hg;subst hg;exact (pH.1 h3).1
 ·rw [h] at hg;simp [Value.ownBlock] at hg;subst hg;exact (pH.1 h3).1

theorem vD {xs:Array Value} {d t:Nat} {v:Value} (hd:d<xs.size):(xs.setIfInBounds d v).getD t undef=if d=t then v else xs.getD t undef:=by
 simp only [lc,Array.getElem?_setIfInBounds];split
 ·rename_i h;subst h;simp
 ·rfl

variable {F:Fr} {S:aI} {gb:Gb} {σ:St} {a:Act} {w:World}

theorem gD {d:Nat} {u:Value} (hd:d<a.tmps.size) (t:Nat):tv (a.put (some d) u) t=if d=t then u else tv a t:=by
 simp only [tv,Act.put,vD hd]
theorem bX {d:Nat} {u:Value} (hd:d<a.tmps.size) {p:Pl} (hp:p.at d=false):bL gb (tv (a.put (some d) u)) w p=bL gb (tv a) w p:=by
 cases p with
 |s t=>simp only [Pl.at,dh] at hp;simp only [bL,gD hd];rw [if_neg (fun e=>hp e.symm)]
 |t t i=>simp only [Pl.at,dh] at hp;simp only [bL,gD hd];rw [if_neg (fun e=>hp e.symm)]
 |b d off=>rfl

theorem HR.gblt (h:HR S gb σ.bx σ.pm (tv a) w) {d:Id} {g:Nat} {z:BZ} (hd:(ar σ.bx d).isSome) (hg:gb d=some (g,z)):g<w.heap.size:=by
 obtain ⟨cs,hcs⟩:=gU.1 hd;cases hi:d.isIt with
 |false=>
  obtain ⟨g',us,T,e1,e3,_⟩:=h.box d cs hcs hi;rw [hg] at e1;cases e1;exact (pH.1 e3).1
 |true=>
  obtain ⟨g',z',ob,e1,_,e3,_⟩:=h.its d cs hcs hi;rw [hg] at e1;cases e1;exact (pH.1 e3).1

theorem aE.put (h:aE F S gb σ a w) {d:Nat} (hd:d<F.N) {v:AV} {u:Value} (hp:PR S gb v u):aE F S gb (σ.put d v) (a.put (some d) u) w:=by
 have hd':d<a.tmps.size:=by rw [h.size];exact hd
 have hat: ∀p k,aA (σ.put d v).pm p=some k→p.at d=false∧aA σ.pm p=some k:=by
  intro p k hk;simp only [St.put,jd] at hk;split at hk
  ·cases hk
  ·rename_i hne;exact ⟨by simpa using hne,hk⟩
 refine ⟨h.defers,by simp [Act.put,h.size],h.bw,h.ext,h.le,?_,⟨h.hr.agree,h.hr.box,h.hr.its,h.hr.inj,?_,?_,?_,?_⟩,h.newb,?_,h.dom,h.up,h.glo⟩
 ·intro t;simp only [gD hd',St.put,lk];split
  ·exact hp
  ·exact h.env t
 ·intro p k hk;obtain ⟨h1,h2⟩:=hat p k hk;rw [bX hd' h1];exact h.hr.own p k h2
 ·intro p q k l b hk hl h1 h2;obtain ⟨p1,p2⟩:=hat p k hk;obtain ⟨q1,q2⟩:=hat q l hl;rw [bX hd' p1] at h1;rw [bX hd' q1] at h2;exact h.hr.ownd p q k l b p2 q2 h1 h2
 ·intro p k b d' z hk h1;obtain ⟨p1,p2⟩:=hat p k hk;rw [bX hd' p1] at h1;exact h.hr.ownb p k b d' z p2 h1
 ·intro e off k hk;exact h.hr.pmb e off k (hat _ k hk).2
 ·intro p k g hk hg;obtain ⟨p1,p2⟩:=hat p k hk;rw [bX hd' p1] at hg;exact h.newo p k g p2 hg

theorem aE.puto (h:aE F S gb σ a w) {d:Nat} (hd:d<F.N) {v:AV} {u:Value} (hp:PR S gb v u) {k:Nat} (ho:pN S w k u) (hn: ∀g,u.ownBlock=some g→F.w0.heap.size≤g∨F.M g)
  (hq: ∀p l b,aA σ.pm p=some l→p.at d=false→(bL gb (tv a) w p).ownBlock=some b→u.ownBlock≠some b) (hb: ∀b d' z,u.ownBlock=some b→(ar σ.bx d').isSome→gb d'≠some (b,z)):
  aE F S gb (σ.puto d v k) (a.put (some d) u) w:=by
 have hd':d<a.tmps.size:=by rw [h.size];exact hd
 have h1:=h.put hd hp;have hs:bL gb (tv (a.put (some d) u)) w (.s d)=u:=by simp [bL,gD hd']
 have hat: ∀p l,aA (σ.puto d v k).pm p=some l→(p= .s d∧l=k)∨(p.at d=false∧aA σ.pm p=some l):=by
  intro p l hl;simp only [St.puto,aA,jd] at hl;split at hl
  ·rename_i e;subst e;simp only [bV] at hl;exact .inl ⟨rfl,hl.symm⟩
  ·split at hl
   ·cases hl
   ·rename_i hne;exact .inr ⟨by simpa using hne,hl⟩
 refine ⟨h1.defers,h1.size,h1.bw,h1.ext,h1.le,h1.env,⟨h1.hr.agree,h1.hr.box,h1.hr.its,h1.hr.inj,?_,?_,?_,?_⟩,h1.newb,?_,h1.dom,h1.up,h1.glo⟩
 ·intro p l hl;rcases hat p l hl with ⟨rfl,rfl⟩|⟨p1,p2⟩
  ·rw [hs];exact ho
  ·rw [bX hd' p1];exact h.hr.own p l p2
 ·intro p q l m b hl hm g1 g2;rcases hat p l hl with ⟨rfl,rfl⟩|⟨p1,p2⟩
  ·rcases hat q m hm with ⟨rfl,rfl⟩|⟨q1,q2⟩
   ·rfl
   ·rw [hs] at g1;rw [bX hd' q1] at g2;exact absurd g1 (hq q m b q2 q1 g2)
  ·rw [bX hd' p1] at g1;rcases hat q m hm with ⟨rfl,rfl⟩|⟨q1,q2⟩
   ·rw [hs] at g2;exact absurd g2 (hq p l b p2 p1 g1)
   ·rw [bX hd' q1] at g2;exact h.hr.ownd p q l m b p2 q2 g1 g2
 ·intro p l b d' z hl g1;rcases hat p l hl with ⟨rfl,rfl⟩|⟨p1,p2⟩
  ·rw [hs] at g1;exact hb b d' z g1
  ·rw [bX hd' p1] at g1;exact h.hr.ownb p l b d' z p2 g1
 ·intro e off l hl;rcases hat _ l hl with ⟨e,_⟩|⟨p1,p2⟩
  ·cases e
  ·exact h.hr.pmb e off l p2
 ·intro p l g hl hg;rcases hat p l hl with ⟨rfl,rfl⟩|⟨p1,p2⟩
  ·rw [hs] at hg;exact hn g hg
  ·rw [bX hd' p1] at hg;exact h.newo p l g p2 hg

theorem aE.fewer (h:aE F S gb σ a w) {pm:List (Pl×Nat)} (hpm: ∀p k,aA pm p=some k→aA σ.pm p=some k):aE F S gb ⟨σ.e,σ.bx,pm⟩ a w:=
 ⟨h.defers,h.size,h.bw,h.ext,h.le,h.env,⟨h.hr.agree,h.hr.box,h.hr.its,h.hr.inj,fun p k hk=>h.hr.own p k (hpm p k hk),fun p q k l b hk hl=>h.hr.ownd p q k l b (hpm p k hk) (hpm q l hl),
  fun p k b d z hk=>h.hr.ownb p k b d z (hpm p k hk),fun d off k hk=>h.hr.pmb d off k (hpm _ k hk)⟩,h.newb,fun p k g hk=>h.newo p k g (hpm p k hk),h.dom,h.up,h.glo⟩
theorem aE.drop (h:aE F S gb σ a w) (p:Pl):aE F S gb ⟨σ.e,σ.bx,dl σ.pm p⟩ a w:=h.fewer (fun q k hk=>by
 rw [io] at hk;split at hk
 ·cases hk
 ·exact hk)

theorem aE.step (h:aE F S gb σ a w) {S':aI} {w':World} (hb:Below w.heap.size w w') (hext: ∀g o,g<w.heap.size→S' g o=S g o) (hle:S.le S')
  (hag: ∀g o v,S' g o=some v→w'.cell? ⟨g,o,none⟩=some v):aE F S' gb σ a w':=by
 have hpl: ∀p k,aA σ.pm p=some k→bL gb (tv a) w' p=bL gb (tv a) w p:=by
  intro p k hk;cases p with
  |s t=>rfl
  |t t i=>rfl
  |b d off=>
   simp only [bL];cases hg:gb d with
   |none=>rfl
   |some x=>
    obtain ⟨g,z⟩:=x
    have:=h.hr.gblt (h.hr.pmb d off k hk).1 hg
    simp only [];rw [hb.cell (p:=⟨g,off,none⟩) this]
 refine ⟨h.defers,h.size,h.bw.trans (Bw.of_below hb) (M':=fun _=>False) (fun _ _ e=>e.elim),?_,h.le.trans hle,fun t=>PR.mono hle (Gb.le.refl _) _ _ (h.env t),⟨hag,?_,?_,h.hr.inj,?_,?_,?_,h.hr.pmb⟩,h.newb,?_,h.dom,h.up,h.glo⟩
 ·intro g o hg hm;rw [hext g o (xO hg h.bw.size)];exact h.ext g o hg hm
 ·intro d cs hcs hi;obtain ⟨g,us,T,e1,e3,e0,e4,e5,e6⟩:=h.hr.box d cs hcs hi;have hg:g<w.heap.size:=(pH.1 e3).1;exact ⟨g,us,T,e1,by rw [hb.block g hg];exact e3,e0,aa.mono hle (Gb.le.refl _) _ _ e4,e5,fun o=>by rw [hext g o hg];exact e6 o⟩
 ·intro d cs hcs hi;obtain ⟨g,z,ob,e1,e2,e3,e6⟩:=h.hr.its d cs hcs hi;have hg:g<w.heap.size:=(pH.1 e3).1;exact ⟨g,z,ob,e1,e2,by rw [hb.block g hg];exact e3,fun o=>by rw [hext g o hg];exact e6 o⟩
 ·intro p k hk;rw [hpl p k hk];exact (h.hr.own p k hk).mono (fun g hg=>hb.block g ((h.hr.own p k hk).lt hg)) (fun g o hg hn=>by rw [hext g o ((h.hr.own p k hk).lt hg)];exact hn)
 ·intro p q k l b hk hl h1 h2;rw [hpl p k hk] at h1;rw [hpl q l hl] at h2;exact h.hr.ownd p q k l b hk hl h1 h2
 ·intro p k b d z hk h1;rw [hpl p k hk] at h1;exact h.hr.ownb p k b d z hk h1
 ·intro p k g hk hg;rw [hpl p k hk] at hg;exact h.newo p k g hk hg

theorem aE.drew (h:aE F S gb σ a w):aE F S gb σ a w.drew:=
 h.step ((Below.refl _ _).drew) (fun _ _ _=>rfl) (aI.le.refl _) h.hr.agree

theorem Ju: ∀(l:List (Nat×AV)) t,lk l t≠ .undef→(t,lk l t)∈l:=by
 intro l t;induction l with
 |nil=>intro hne;exact absurd rfl hne
 |cons x r ih=>
  obtain ⟨k,v⟩:=x;simp only [lk];split
  ·rename_i e;subst e;intro _;simp
  ·intro hne;exact List.mem_cons_of_mem _ (ih hne)
theorem bY: ∀(l:List (Id×List AV)) t cs,ar l t=some cs→(t,cs)∈l:=by
 intro l t cs;induction l with
 |nil=>intro hne;cases hne
 |cons x r ih=>
  obtain ⟨k,v⟩:=x;simp only [ar];split
  ·rename_i e;subst e;intro e2;cases e2;simp
  ·intro hne;exact List.mem_cons_of_mem _ (ih hne)
theorem dH: ∀(l:List (Pl×Nat)) t k,aA l t=some k→(t,k)∈l:=by
 intro l t k;induction l with
 |nil=>intro hne;cases hne
 |cons x r ih=>
  obtain ⟨q,v⟩:=x;simp only [aA];split
  ·rename_i e;subst e;intro e2;cases e2;simp
  ·intro hne;exact List.mem_cons_of_mem _ (ih hne)
theorem DJ {v u:AV} {x:Value} (hk:wk v u) (hp:PR S gb v x):PR S gb u x:=by
 rcases hk with rfl|⟨rfl,rfl⟩
 ·exact hp
 ·simp only [PR] at hp ⊢;exact .inl ⟨hp,trivial⟩
theorem nh: ∀ {vs us:List AV} {xs:List Value},pd vs us→aa S gb vs xs→aa S gb us xs:=by
 intro vs;induction vs with
 |nil=>intro us xs h hp;cases us<;>simp [pd] at h;exact hp
 |cons v r ih=>
  intro us xs h hp;cases us with
  |nil=>simp [pd] at h
  |cons u s=>
   simp only [pd] at h;simp only [aa] at hp ⊢;obtain ⟨x,xs',rfl,h1,h2⟩:=hp;exact ⟨x,xs',rfl,DJ h.1 h1,ih h.2 h2⟩
theorem pO: ∀ {vs us:List AV},pd vs us→vs.length=us.length:=by
 intro vs;induction vs with
 |nil=>intro us h;cases us<;>simp [pd] at h ⊢
 |cons v r ih=>
  intro us h;cases us with
  |nil=>simp [pd] at h
  |cons u s=>simp only [pd] at h;simp [ih h.2]
theorem iF {l:List (Id×List AV)} {d:Id} {cs:List AV} (h:Dm l d cs): ∃cs',ar l d=some cs'∧pd cs' cs:=by
 simp only [Dm] at h;split at h
 ·rename_i cs' e;exact ⟨cs',e,h⟩
 ·cases h
theorem ni (h:aE F S gb σ a w) {p:Pl} (hn:jL σ p) (hb: ∀d off,p= .b d off→d.isIt=false):bL gb (tv a) w p= .slice none 0 0:=by
 cases p with
 |s t=>have:=h.env t;simp only [jL] at hn;rw [hn] at this;simpa [PR,bL] using this
 |t t i=>exact hn.elim
 |b d off=>
  simp only [jL] at hn;split at hn
  ·rename_i cs hcs;obtain ⟨g,us,T,e1,e3,e0,e4,_⟩:=h.hr.box d cs hcs (hb d off rfl);obtain ⟨u,hu,hp⟩:=e4.get hn;simp only [PR] at hp;simp only [bL,e1];have hcell:w.cell? ⟨g,off,none⟩=us[off]?:=by simp [World.cell?,e3]
   rw [hcell];rw [oW] at hu;split at hu
   ·have hu2:us[off]?=some u:=by simpa using hu
    rw [hu2,hp];rfl
   ·cases hu
  ·cases hn

theorem aE.weak (h:aE F S gb σ a w) {τ:St} (hw:e7 σ τ): ∃gb',aE F S gb' τ a w:=by
 let gb':Gb:=fun d=>if (ar τ.bx d).isSome∨d.isUp=true then gb d else none
 have hgb: ∀d x,gb' d=some x→gb d=some x:=by
  intro d g hg;simp only [gb'] at hg;split at hg
  ·exact hg
  ·cases hg
 have hsame: ∀d,(ar τ.bx d).isSome∨d.isUp=true→gb d=gb' d:=by
  intro d hd;simp only [gb'];rw [if_pos hd]
 have hbx: ∀d,(ar τ.bx d).isSome→(ar σ.bx d).isSome:=by
  intro d hd;obtain ⟨cs,hcs⟩:=gU.1 hd;obtain ⟨cs',h1,_⟩:=iF (hw.b _ (bY _ _ _ hcs));simp only at h1;rw [h1];rfl
 have hpi: ∀d off k,aA τ.pm (.b d off)=some k→(ar τ.bx d).isSome:=fun d off k hk=>hw.pi _ (dH _ _ _ hk) d (by simp [Pl.ids])
 have hpl: ∀p k,aA τ.pm p=some k→bL gb' (tv a) w p=bL gb (tv a) w p:=by
  intro p k hk;cases p with
  |s t=>rfl
  |t t i=>rfl
  |b d off=>simp only [bL,hsame d (.inl (hpi d off k hk))]
 have hit: ∀d off k,aA τ.pm (.b d off)=some k→d.isIt=false:=by
  intro d off k hk;rcases hw.p _ (dH _ _ _ hk) with h1|h1
  ·exact (h.hr.pmb d off k h1).2
  ·simp only [jL] at h1;split at h1
   ·rename_i cs hcs;cases hi:d.isIt with
    |false=>rfl
    |true=>
     obtain ⟨_,_,ob,_,e2,_⟩:=h.hr.its d cs hcs hi;obtain ⟨v,rfl,hv⟩:=tQ e2;cases off with
     |zero=>simp at h1;exact absurd h1 hv
     |succ n=>simp at h1
   ·cases h1
 have hpk: ∀p k,aA τ.pm p=some k→aA σ.pm p=some k∨bL gb (tv a) w p= .slice none 0 0:=by
  intro p k hk;rcases hw.p _ (dH _ _ _ hk) with h1|h1
  ·exact .inl h1
  ·exact .inr (ni h h1 (fun d off e=>by subst e;exact hit d off k hk))
 have hblk: ∀p k b,aA τ.pm p=some k→(bL gb (tv a) w p).ownBlock=some b→aA σ.pm p=some k:=by
  intro p k b hk hb;rcases hpk p k hk with h1|h1
  ·exact h1
  ·rw [h1] at hb;simp [Value.ownBlock] at hb
 refine ⟨gb',h.defers,h.size,h.bw,h.ext,h.le,?_,⟨h.hr.agree,?_,?_,?_,?_,?_,?_,?_⟩,?_,?_,?_,?_,h.glo⟩
 ·intro t;by_cases hu:lk τ.e t= .undef
  ·rw [hu];simp [PR]
  ·have hm:=Ju _ _ hu;have he:=hw.e _ hm
   have:=h.env t
   simp only at he;exact PR.restr _ _ (fun d hd=>hsame d (hw.ei _ hm d hd)) (DJ he this)
 ·intro d cs hcs hi;have hm:=bY _ _ _ hcs;obtain ⟨cs',hcs',hb⟩:=iF (hw.b _ hm);simp only at hcs' hb;obtain ⟨g,us,T,e1,e3,e0,e4,e5,e6⟩:=h.hr.box d cs' hcs' hi;have hl:=pO hb;exact ⟨g,us,T,by rw [←hsame d (.inl (by simp [hcs]))];exact e1,e3,by omega,aa.restr _ _ (fun d' hd=>hsame d' (hw.bi _ hm d' hd)) (nh hb (by rw [←hl];exact e4)),e5,e6⟩
 ·intro d cs hcs hi;have hm:=bY _ _ _ hcs;obtain ⟨cs',hcs',hb⟩:=iF (hw.b _ hm);simp only at hcs' hb;obtain ⟨g,z,ob,e1,e2,e3,e6⟩:=h.hr.its d cs' hcs' hi;exact ⟨g,z,ob,by rw [←hsame d (.inl (by simp [hcs]))];exact e1,DI e2 hb,e3,e6⟩
 ·exact fun d d' g z z' i1 i2 h1 h2=>h.hr.inj d d' g z z' (hbx d i1) (hbx d' i2) (hgb _ _ h1) (hgb _ _ h2)
 ·intro p k hk;rw [hpl p k hk];rcases hpk p k hk with h1|h1
  ·exact h.hr.own p k h1
  ·rw [h1];exact .inl rfl
 ·intro p q k l b hk hl h1 h2;rw [hpl p k hk] at h1;rw [hpl q l hl] at h2;exact h.hr.ownd p q k l b (hblk p k b hk h1) (hblk q l b hl h2) h1 h2
 ·intro p k b d z hk h1 hi hg;rw [hpl p k hk] at h1;exact h.hr.ownb p k b d z (hblk p k b hk h1) h1 (hbx d hi) (hgb _ _ hg)
 ·intro d off k hk;exact ⟨hpi d off k hk,hit d off k hk⟩
 ·intro d g z hd hg;exact h.newb d g z (hbx d hd) (hgb _ _ hg)
 ·intro p k g hk hg;rw [hpl p k hk] at hg;exact h.newo p k g (hblk p k g hk hg) hg
 ·intro d hd;simp only [gb'] at hd;split at hd
  ·assumption
  ·exact absurd rfl hd
 ·intro d
  have:gb' (.up d)=gb (.up d):=(hsame _ (.inr rfl)).symm
  rw [this];exact h.up d

section
variable {f g:Id→Id}
theorem Lr (h:lS f g) {d:Id}:(g d).isUp=true↔d.isUp=true:=by
 constructor
 ·intro h1
  have:=h.up _ h1
  rw [h.fg] at this;rw [this];exact h1
 ·intro h1
  have:=h.gf d
  rw [h.up d h1] at this;rw [this];exact h1
theorem yK (h:lS f g) {d:Id} (h1:d.isIt=false):(f d).isIt=false:=by
 cases h2:(f d).isIt
 ·rfl
 ·have h3:=h.it _ h2;have h4:=congrArg g h3;rw [h.gf,h.gf] at h4;rw [h4,h1] at h2;exact h2.symm
theorem DK (h:lS f g) {d:Id} (h1:d.isIt=true):g d=d:=by
 have:=h.gf d
 rwa [h.it d h1] at this
theorem GG (h:lS f g) {d:Id} (h1:d.isIt=false):(g d).isIt=false:=by
 cases h2:(g d).isIt
 ·rfl
 ·have:=h.it _ h2
  rw [h.fg] at this;rw [←this,h1] at h2;exact h2.symm
mutual
theorem DL (h:lS f g): ∀(v:AV) (u:Value),PR S gb v u→PR S (fun d=>gb (g d)) (v.mp f) u
 | .ptr d o,u,hp=>by
  simp only [AV.mp,PR,h.gf] at hp ⊢;obtain ⟨x,z,h1,h2,h3⟩:=hp;exact ⟨x,z,h1,yK h h2,h3⟩
 | .ms d o n sz,u,hp=>by
  simp only [AV.mp,PR,h.gf] at hp ⊢;obtain ⟨x,z,c,h1,h2,h3⟩:=hp;exact ⟨x,z,c,h1,yK h h2,h3⟩
 | .itp _,u,_=>by simp only [AV.mp,PR]
 | .mref d,u,hp=>by
  simp only [AV.mp,PR,h.gf] at hp ⊢;obtain ⟨x,z,h1,h2,h3⟩:=hp;exact ⟨x,z,h1,by rw [h.it d h2];exact h2,h3⟩
 | .nilT d _ _,u,hp=>by simpa only [AV.mp,PR,h.gf] using hp
 | .mpv _,_,hp=>by simp only [PR] at hp
 | .fn q cs,u,hp=>by
  simp only [AV.mp,PR] at hp ⊢;obtain ⟨us,h1,h2⟩:=hp;exact ⟨us,h1,iG h _ _ h2⟩
 | .agg cs,u,hp=>by
  simp only [AV.mp,PR] at hp ⊢;obtain ⟨us,h1,h0,h2⟩:=hp;exact ⟨us,h1,h0,iG h _ _ h2⟩
 | .tup cs,u,hp=>by
  simp only [AV.mp,PR] at hp ⊢;obtain ⟨us,h1,h2⟩:=hp;exact ⟨us,h1,iG h _ _ h2⟩
 | .undef,_,_=>by simp only [AV.mp,PR]
 | .int _ _,_,hp=>by simpa only [AV.mp,PR] using hp
 | .bool _,_,hp=>by simpa only [AV.mp,PR] using hp
 | .str _,_,hp=>by simpa only [AV.mp,PR] using hp
 | .nils,_,hp=>by simpa only [AV.mp,PR] using hp
 | .sl _,_,hp=>by simpa only [AV.mp,PR] using hp
 | .pin _,_,hp=>by simpa only [AV.mp,PR] using hp
 | .itr _ _,_,hp=>by simp only [PR] at hp
 | .nilp,_,hp=>by simpa only [AV.mp,PR] using hp
 | .nili,_,hp=>by simpa only [AV.mp,PR] using hp
 | .yv _,_,hp=>by simpa only [AV.mp,PR] using hp
 | .ifc _ v,u,hp=>by
  simp only [AV.mp,PR] at hp ⊢;obtain ⟨us,h1,h2⟩:=hp;exact ⟨us,h1,DL h v _ h2⟩
theorem iG (h:lS f g): ∀(l:List AV) (us:List Value),aa S gb l us→aa S (fun d=>gb (g d)) (a7 f l) us
 |[],us,hp=>by simpa only [a7,aa] using hp
 |v::r,us,hp=>by
  simp only [a7,aa] at hp ⊢;obtain ⟨u,us',h1,h2,h3⟩:=hp;exact ⟨u,us',h1,DL h v u h2,iG h r us' h3⟩
end
theorem IA (f:Id→Id): ∀(l:List (Nat×AV)) (t:Nat),lk (l.map fun p=>(p.1,p.2.mp f)) t=(lk l t).mp f
 |[],t=>rfl
 |(k,v)::r,t=>by
  simp only [ik,lk];split
  ·rfl
  ·exact IA f r t
theorem jN (h:lS f g): ∀(l:List (Id×List AV)) (d:Id),ar (bE f l) d=(ar l (g d)).map (a7 f)
 |[],d=>rfl
 |(k,v)::r,d=>by
  simp only [bE,ar];by_cases e:k=g d
  ·rw [if_pos e,if_pos (by rw [e,h.fg])];rfl
  ·rw [if_neg e,if_neg (fun e'=>e (by rw [←e',h.gf])),jN h r d]
theorem nj (h:lS f g): ∀(l:List (Pl×Nat)) (p:Pl),aA (bK f l) p=aA l (p.mp g)
 |[],p=>rfl
 |(q,k)::r,p=>by
  have hq:q.mp f=p↔q=p.mp g:=by
   cases q<;>cases p<;>simp [Pl.mp];rename_i d o d' o';intro _;constructor
   ·intro e;rw [←e,h.gf]
   ·intro e;rw [e,h.fg]
  simp only [bK,aA];by_cases e:q=p.mp g
  ·rw [if_pos e,if_pos (hq.2 e)]
  ·rw [if_neg e,if_neg (fun e'=>e (hq.1 e')),nj h r p]
theorem tR {f:Id→Id}: ∀(l:List AV),(a7 f l).length=l.length
 |[]=>rfl
 |v::r=>by simp only [a7,dT,tR r]
theorem aE.rn (h:aE F S gb σ a w) (hf:lS f g):aE F S (fun d=>gb (g d)) (σ.rn f) a w:=by
 have hpl: ∀p,bL (fun d=>gb (g d)) (tv a) w p=bL gb (tv a) w (p.mp g):=by
  intro p;cases p<;>rfl
 refine ⟨h.defers,h.size,h.bw,h.ext,h.le,?_,⟨h.hr.agree,?_,?_,?_,?_,?_,?_,?_⟩,?_,?_,?_,?_,h.glo⟩
 ·intro t;simp only [St.rn];rw [IA];exact DL hf _ _ (h.env t)
 ·intro d cs hcs hi;simp only [St.rn] at hcs;rw [jN hf] at hcs;cases hl:ar σ.bx (g d) with
  |none=>rw [hl] at hcs;cases hcs
  |some cs0=>
   rw [hl] at hcs;simp only [Option.map_some,bV] at hcs;subst hcs;obtain ⟨x,us,T,e1,e3,e0,e4,e5,e6⟩:=h.hr.box (g d) cs0 hl (GG hf hi);refine ⟨x,us,T,e1,e3,by rw [tR];exact e0,?_,e5,e6⟩;rw [tR];exact iG hf _ _ e4
 ·intro d cs hcs hi;simp only [St.rn] at hcs;rw [jN hf,DK hf hi] at hcs;cases hl:ar σ.bx d with
  |none=>rw [hl] at hcs;cases hcs
  |some cs0=>
   rw [hl] at hcs;simp only [Option.map_some,bV] at hcs;subst hcs;obtain ⟨x,z,ob,e1,e2,e3,e6⟩:=h.hr.its d cs0 hl hi;refine ⟨x,z,ob,by rw [DK hf hi];exact e1,?_,e3,e6⟩;unfold DH at e2;split at e2
   ·exact e2
   ·exact e2
   ·cases e2
 ·intro d d' x z z' i1 i2 h1 h2;simp only [St.rn] at i1 i2;rw [jN hf,Option.isSome_map] at i1 i2
  have:=h.hr.inj _ _ x z z' i1 i2 h1 h2
  have:=congrArg f this
  rwa [hf.fg,hf.fg] at this
 ·intro p k hk;simp only [St.rn] at hk;rw [nj hf] at hk;rw [hpl];exact h.hr.own _ k hk
 ·intro p q k l b hk hl h1 h2;simp only [St.rn] at hk hl;rw [nj hf] at hk hl;rw [hpl] at h1 h2
  have:=h.hr.ownd _ _ k l b hk hl h1 h2
  cases p<;>cases q<;>simp [Pl.mp] at this ⊢
  ·exact this
  ·exact this
  ·obtain ⟨e1,e2⟩:=this
   have:=congrArg f e1
   rw [hf.fg,hf.fg] at this;exact ⟨this,e2⟩
 ·intro p k b d z hk h1 hi hg;simp only [St.rn] at hk hi;rw [nj hf] at hk;rw [jN hf,Option.isSome_map] at hi;rw [hpl] at h1;exact h.hr.ownb _ k b _ z hk h1 hi hg
 ·intro d off k hk;simp only [St.rn] at hk ⊢;rw [nj hf] at hk;obtain ⟨e1,e2⟩:=h.hr.pmb (g d) off k hk;refine ⟨by rw [jN hf,Option.isSome_map];exact e1,?_⟩
  have:=yK hf e2
  rwa [hf.fg] at this
 ·intro d x z hd hg;simp only [St.rn] at hd;rw [jN hf,Option.isSome_map] at hd;exact h.newb _ x z hd hg
 ·intro p k x hk hg;simp only [St.rn] at hk;rw [nj hf] at hk;rw [hpl] at hg;exact h.newo _ k x hk hg
 ·intro d hd;rcases h.dom (g d) hd with h1|h1
  ·left;simp only [St.rn];rw [jN hf,Option.isSome_map];exact h1
  ·exact .inr ((Lr hf).1 h1)
 ·intro d
  have:g (.up d)= .up d:=by
   have:=hf.gf (.up d)
   rwa [hf.up _ rfl] at this
  simp only [this];exact h.up d
end
theorem aE.weakR (h:aE F S gb σ a w) {τ:St} (hw:sA σ τ): ∃gb',aE F S gb' τ a w:=by
 rcases hw with hw|⟨f,g,hf,hw⟩
 ·exact h.weak hw
 ·exact (h.rn hf).weak hw
end Go.Ai
