/- AiCore: a part of the proof: the rules, or what functions compute. Conditions: as each theorem says. -/
import Derived.WalkKit
import Derived.Laws.StructEq
import Derived.ChangeKeysEq
import Derived.Orders
namespace Go.Ai
inductive Id where
 |n (k:Nat)
 |up (i:Id)
 |nw (d:Nat) (i:Id)
 |ix (i:Id) (k:Nat)
 |it (k:Nat)
 deriving DecidableEq
def Id.isUp:Id→Bool
 | .up _=>true
 |_=>false
def Id.isIt:Id→Bool
 | .it _=>true
 | .up i=>i.isIt
 | .nw _ i=>i.isIt
 |_=>false
def Id.isNw (d:Nat):Id→Bool
 | .nw d' i=>d'==d&&!i.isUp
 |_=>false
def Id.inn (d:Nat) (i:Id):Id:=match i with
 | .nw d' j=>if d'=d∧j.isUp=false then j else .up (.nw d' j)
 |i=> .up i
inductive MK where
 |s (l:List UInt8)
 |i (k:IntKind) (n:Int)
 deriving DecidableEq
inductive AV where
 |undef
 |int (k:IntKind) (n:Int)
 |bool (b:Bool)
 |str (s:List UInt8)
 |nils
 |sl (rows:List (List AV))
 |pin (cs:List AV)
 |ptr (d:Id) (off:Nat)
 |ms (d:Id) (off n sz:Nat)
 |fn (f:Nat) (caps:List AV)
 |itr (s:List UInt8) (pos:Nat)
 |itp (d:Nat)
 |mref (d:Id)
 |mpv (es:List (MK×MK))
 |nilp
 |nilT (d:Id) (T n:Nat)
 |agg (cs:List AV)
 |tup (vs:List AV)
 |ifc (T:Nat) (v:AV)
 |nili
 deriving Inhabited

inductive FK where
 |b|i|s
 deriving DecidableEq

inductive X where
 |s (t:Nat)
 |c (v:AV)

inductive Pl where
 |s (t:Nat)
 |t (s i:Nat)
 |b (d:Id) (off:Nat)
 deriving DecidableEq

structure St where
 e:List (Nat×AV)
 bx:List (Id×List AV)
 pm:List (Pl×Nat)

def lk:List (Nat×AV)→Nat→AV
 |[],_=> .undef
 |(k,v)::r,t=>if k=t then v else lk r t
def lkB:List (Id×List AV)→Id→Option (List AV)
 |[],_=>none
 |(k,v)::r,t=>if k=t then some v else lkB r t
def stB:List (Id×List AV)→Id→List AV→List (Id×List AV)
 |[],_,_=>[]
 |(k,v)::r,d,cs=>if k=d then (k,cs)::r else (k,v)::stB r d cs
def lkP:List (Pl×Nat)→Pl→Option Nat
 |[],_=>none
 |(q,k)::r,p=>if q=p then some k else lkP r p
mutual
def AV.ids:AV→List Id
 | .ptr d _=>[d]
 | .ms d _ _ _=>[d]
 | .itp d=>[.it d]
 | .mref d=>[d]
 | .nilT d _ _=>[d]
 | .fn _ cs=>idsL cs
 | .agg cs=>idsL cs
 | .tup cs=>idsL cs
 | .ifc _ v=>v.ids
 |_=>[]
def idsL:List AV→List Id
 |[]=>[]
 |v::r=>v.ids++idsL r
end
def Pl.ids:Pl→List Id
 | .b d _=>[d]
 |_=>[]

def dl:List (Pl×Nat)→Pl→List (Pl×Nat)
 |[],_=>[]
 |(q,k)::r,p=>if q=p then dl r p else (q,k)::dl r p

def dlr:List (Pl×Nat)→Id→Nat→Nat→List (Pl×Nat)
 |[],_,_,_=>[]
 |(.b e o,k)::r,d,off,n=>if e=d∧off≤o∧o<off+n then dlr r d off n else (.b e o,k)::dlr r d off n
 |(.s t,k)::r,d,off,n=>(.s t,k)::dlr r d off n
 |(.t t i,k)::r,d,off,n=>(.t t i,k)::dlr r d off n
def dlS:List (Pl×Nat)→Nat→List (Pl×Nat)
 |[],_=>[]
 |(.s t,k)::r,d=>if t=d then dlS r d else (.s t,k)::dlS r d
 |(.t t i,k)::r,d=>if t=d then dlS r d else (.t t i,k)::dlS r d
 |(.b e o,k)::r,d=>(.b e o,k)::dlS r d
def Pl.lt (b:Id) (n:Nat):Pl→Prop
 | .b e o=>e=b→o<n
 |_=>True
def purE (l:List (Nat×AV)) (b:Id):List (Nat×AV):=l.map fun p=>(p.1,if b∈p.2.ids then .undef else p.2)
def purC (b:Id) (cs:List AV):List AV:=cs.map fun v=>if b∈v.ids then .undef else v
def purB (l:List (Id×List AV)) (b:Id):List (Id×List AV):=l.map fun p=>(p.1,purC b p.2)
def rnP:List (Pl×Nat)→Id→Id→List (Pl×Nat)
 |[],_,_=>[]
 |(.b e o,k)::r,d,d'=>(.b (if e=d then d' else e) o,k)::rnP r d d'
 |(.s t,k)::r,d,d'=>(.s t,k)::rnP r d d'
 |(.t t i,k)::r,d,d'=>(.t t i,k)::rnP r d d'
def rmB:List (Id×List AV)→Id→List (Id×List AV)
 |[],_=>[]
 |(k,v)::r,d=>if k=d then rmB r d else (k,v)::rmB r d
def dlB:List (Pl×Nat)→Id→List (Pl×Nat)
 |[],_=>[]
 |(.b e o,k)::r,d=>if e=d then dlB r d else (.b e o,k)::dlB r d
 |(.s t,k)::r,d=>(.s t,k)::dlB r d
 |(.t t i,k)::r,d=>(.t t i,k)::dlB r d

def St.v (σ:St):X→AV
 | .s t=>lk σ.e t
 | .c v=>v
def St.put (σ:St) (d:Nat) (v:AV):St:=⟨(d,v)::σ.e,σ.bx,dlS σ.pm d⟩
def St.puto (σ:St) (d:Nat) (v:AV) (k:Nat):St:=⟨(d,v)::σ.e,σ.bx,(.s d,k)::dlS σ.pm d⟩

inductive AOp where
 |mv (d:Nat) (x:X)
 |mo (d s:Nat)
 |pk (d:Nat) (c a b:X)
 |bi (d:Nat) (op:BinOp) (x y:X)
 |bb (d:Nat) (neg:Bool) (x y:X)
 |ea (d:Nat) (neg:Bool) (ks:List FK) (x y:X)
 |un (d:Nat) (op:UnOp) (x:X)
 |pn (d:Nat) (neg:Bool) (x:X)
 |bq (d:Nat) (x:X)
 |cv (d:Nat) (k:IntKind) (x:X)
 |ln (d:Nat) (x:X)
 |lns (d:Nat) (x:X)
 |slc (d:Nat) (sz:Nat) (x:X) (lo hi:Option X)
 |sls (d:Nat) (x:X) (lo hi:Option X)
 |fa (d:Nat) (x:X) (off:Nat)
 |ia (d sz:Nat) (x i:X)
 |iaa (d sz n:Nat) (x i:X)
 |lds (d:Nat) (x:X)
 |ldf (d:Nat) (x:X)
 |lda (d n:Nat) (x:X)
 |st (n:Nat) (x v:X)
 |lo (d:Nat) (x:X)
 |so (x:X) (s:Nat)
 |al (d:Nat) (z:List AV)
 |alT (d T off:Nat) (z:List AV)
 |bxT (d T off:Nat) (x:X)
 |bx (d:Nat) (x:X)
 |bd (d:Nat) (z:List AV) (ps:List (Nat×Nat×X))
 |bs (d sz:Nat) (ps:List X)
 |bsn (d sz:Nat) (ps:List X)
 |fls (d off:Nat) (x:X)
 |fla (d off n:Nat) (x:X)
 |ixs (d:Nat) (x i:X)
 |ex (d:Nat) (x:X) (i:Nat)
 |exq (d:Nat) (x:X) (i:Nat)
 |cl (d f:Nat) (xs:List X)
 |cd (d:Nat) (x:X) (xs:List X)
 |mf (d f:Nat) (xs:List X)
 |mkm (d sz bytes:Nat) (z:List AV) (l c:X)
 |bsm (d sz:Nat) (ps:List X)
 |ca (d f:Nat) (s:Option X) (ps:List X)
 |apm (d sz bytes:Nat) (s:X) (y:X)
 |ce (d f:Nat) (xs:List X)
 |b2s (d:Nat) (x:X)
 |i2s (d:Nat) (x:X)
 |inl (d:Nat) (neg:Bool) (x:X)
 |s2b (d:Nat) (x:X)
 |aps (d:Nat) (s y:X)
 |rs (d:Nat) (x:X)
 |nx (d:Nat) (x:X)
 |ixa (d sz n:Nat) (agg:Bool) (x i:X)
 |mkp (d:Nat)
 |mpl (d:Nat) (x:X)
 |mpe (d:Nat) (q:FK) (z:MK) (m k:X)
 |mes (m s v:X)
 |mup (q:FK) (m k v:X)
 |mlk (d:Nat) (q:FK) (z:MK) (m k:X) (ok:Bool)
 |sla (d:Nat) (n:Nat) (x:X) (lo hi:Option X)
 |ap (d sz bytes:Nat) (s:X) (y:X)
 |mk (d sz bytes:Nat) (z:List AV) (l c:X)
 |mn (d:Nat) (x y:X)
 |mx (d:Nat) (x y:X)
 |nc (d:Nat) (x:X)
 |mi (d T:Nat) (x:X)
 |ta (d T:Nat) (z:AV) (x:X) (ok:Bool)
 |no
 |clr (sz:Nat) (z:List AV) (x:X)
 |cr (d f:Nat) (xs:List X)
 |cq (d f:Nat) (xs:List X) (fr:List Nat)
 |gd (s:Nat) (b:Bool) (d:Nat) (o:AOp)

def AV.cs:AV→Option (List AV)
 | .undef=>none
 | .tup _=>none
 | .itr _ _=>none
 | .itp _=>none
 | .mpv _=>none
 | .agg cs=>some cs
 |v=>some [v]

mutual
def shut:AV→Option AV
 | .undef=>none
 | .nils=>some (.sl [])
 | .ptr _ _=>none
 | .nilT _ _ _=>some .nilp
 | .ms _ _ _ _=>none
 | .fn f cs=>(shutL cs).map (.fn f)
 | .itr _ _=>none
 | .itp _=>none
 | .mref _=>none
 | .mpv _=>none
 | .agg cs=>(shutL cs).map .agg
 | .tup cs=>(shutL cs).map .tup
 | .ifc T v=>(shut v).map (.ifc T)
 |v=>some v
def shutL:List AV→Option (List AV)
 |[]=>some []
 |v::r=>match shut v,shutL r with
  |some v',some r'=>some (v'::r')
  |_,_=>none
end

mutual
def shutN:AV→Option AV
 | .nils=>some .nils
 | .agg cs=>(shutNL cs).map .agg
 | .tup cs=>(shutNL cs).map .tup
 |v=>shut v
def shutNL:List AV→Option (List AV)
 |[]=>some []
 |v::r=>match shutN v,shutNL r with
  |some v',some r'=>some (v'::r')
  |_,_=>none
end
def bin (op:BinOp):AV→AV→Option AV
 | .int k a,.int k' b=>
  match op with
  | .add=>if k=k' then some (.int k (k.wrap (a+b))) else none
  | .sub=>if k=k' then some (.int k (k.wrap (a - b))) else none
  | .mul=>if k=k' then some (.int k (k.wrap (a*b))) else none
  | .quo=>if k=k'∧b≠0 then some (.int k (k.wrap (a.tdiv b))) else none
  | .rem=>if k=k'∧b≠0 then some (.int k (a.tmod b)) else none
  | .shl=>if 0≤b then some (.int k (k.wrap (a*2^(min b.toNat k.bits)))) else none
  | .shr=>if 0≤b then some (.int k (a.fdiv (2^(min b.toNat k.bits)))) else none
  | .eql=>if k=k' then some (.bool (a==b)) else none
  | .neq=>if k=k' then some (.bool (a !=b)) else none
  | .lss=>if k=k' then some (.bool (decide (a<b))) else none
  | .leq=>if k=k' then some (.bool (decide (a≤b))) else none
  | .gtr=>if k=k' then some (.bool (decide (b<a))) else none
  | .geq=>if k=k' then some (.bool (decide (b≤a))) else none
  |op=>if k=k' then some (.int k (bits op k a b)) else none
 | .str a,.str b=>
  match op with
  | .add=>if a.length+b.length≤9223372036854775807 then some (.str (a++b)) else none
  | .eql=>some (.bool (a==b))
  | .neq=>some (.bool (!(a==b)))
  | .lss=>some (.bool (Op.bytesLess a b))
  | .leq=>some (.bool (Op.bytesLess a b||a==b))
  | .gtr=>some (.bool (!(Op.bytesLess a b||a==b)))
  | .geq=>some (.bool (!(Op.bytesLess a b)))
  |_=>none
 |_,_=>none

def cellEq:FK→AV→AV→Option Bool
 | .i,.int k a,.int k' b=>if k=k' then some (a==b) else none
 | .b,.bool a,.bool b=>some (a==b)
 | .s,.str a,.str b=>some (a==b)
 |_,_,_=>none
def cellsEq:List FK→List AV→List AV→Option Bool
 |[],[],[]=>some true
 |k::ks,a::r,b::s=>match cellEq k a b,cellsEq ks r s with
  |some x,some y=>some (x&&y)
  |_,_=>none
 |_,_,_=>none

def fillA (z:List AV) (off:Nat) (vs:List AV):List AV:=z.take off++vs++z.drop (off+vs.length)

def buildA (σ:St):List (Nat×Nat×X)→List AV→Option (List AV)
 |[],z=>some z
 |(off,n,x)::r,z=>match (σ.v x).cs with
  |some cs=>if cs.length=n∧off+n≤z.length then buildA σ r (fillA z off cs) else none
  |none=>none

def rowsOf (σ:St) (sz:Nat):List X→Option (List (List AV))
 |[]=>some []
 |x::r=>match (σ.v x).cs with
  |some cs=>match shutL cs,rowsOf σ sz r with
   |some cs,some rs=>if cs.length=sz then some (cs::rs) else none
   |_,_=>none
  |none=>none

def rowsI (σ:St) (sz:Nat):List X→Option (List (List AV))
 |[]=>some []
 |x::r=>match (σ.v x).cs,rowsI σ sz r with
  |some cs,some rs=>if cs.length=sz then some (cs::rs) else none
  |_,_=>none

def rowsN (σ:St) (sz:Nat):List X→Option (List (List AV))
 |[]=>some []
 |x::r=>match (σ.v x).cs with
  |some cs=>match shutNL cs,rowsN σ sz r with
   |some cs,some rs=>if cs.length=sz then some (cs::rs) else none
   |_,_=>none
  |none=>none

def loadS (bx:List (Id×List AV)):AV→Option AV
 | .ptr d off=>match lkB bx d with
  |some cs=>cs[off]?
  |none=>none
 | .pin cs=>cs[0]?
 |_=>none
def loadN (bx:List (Id×List AV)) (n:Nat):AV→Option AV
 | .ptr d off=>match lkB bx d with
  |some cs=>if off+n≤cs.length then some (.agg ((cs.drop off).take n)) else none
  |none=>none
 | .pin cs=>if n≤cs.length then some (.agg (cs.take n)) else none
 |_=>none

def byteCells:List AV→Option (List UInt8)
 |[]=>some []
 | .int .u8 n::r=>match byteCells r with
  |some s=>some (UInt8.ofNat n.toNat::s)
  |none=>none
 |_::_=>none
def rowBytes:List (List AV)→Option (List UInt8)
 |[]=>some []
 |[.int .u8 n]::r=>match rowBytes r with
  |some s=>some (UInt8.ofNat n.toNat::s)
  |none=>none
 |_::_=>none
def bytesA (bx:List (Id×List AV)):AV→Option (List UInt8)
 | .nils=>some []
 | .sl rows=>rowBytes rows
 | .ms d o n sz=>match lkB bx d with
  |some cs=>if sz=1∧o+n≤cs.length then byteCells ((cs.drop o).take n) else none
  |none=>none
 |_=>none
def byteRows (s:List UInt8):List (List AV):=s.map fun b=>[.int .u8 b.toNat]
def runeAt (s:List UInt8) (pos:Nat):Int×Nat:=let p:=Utf8.decode ⟨s.toArray⟩ pos;((p.1:Int),p.2)

def MK.av:MK→AV
 | .s l=> .str l
 | .i k n=> .int k n
def AV.mk:AV→Option MK
 | .str l=>some (.s l)
 | .int k n=>some (.i k n)
 |_=>none
def AV.mkk:FK→AV→Option MK
 | .s,.str l=>some (.s l)
 | .i,.int k n=>some (.i k n)
 |_,_=>none
def MK.same:MK→MK→Option Bool
 | .s a,.s b=>some (a==b)
 | .i k a,.i l b=>if k=l then some (a==b) else none
 |_,_=>none
def mfind (k:MK):List (MK×MK)→Nat→Option (Option (Nat×MK))
 |[],_=>some none
 |(k',v)::r,i=>match k.same k' with
  |some true=>some (some (i,v))
  |some false=>mfind k r (i+1)
  |none=>none
def mapOf (bx:List (Id×List AV)) (v:AV):Option (Id×List (MK×MK)):=match v with
 | .mref d=>match lkB bx d with
  |some [.mpv es]=>some (d,es)
  |_=>none
 |_=>none
def mset (es:List (MK×MK)) (i:Nat) (v:MK):List (MK×MK):=es.modify i fun p=>(p.1,v)
def ev (σ:St):AOp→Option (Nat×AV)
 | .mv d x=>some (d,σ.v x)
 | .pk d c a b=>match σ.v c with
  | .bool t=>some (d,if t=true then σ.v a else σ.v b)
  |_=>none
 | .bi d op x y=>match bin op (σ.v x) (σ.v y) with
  |some v=>some (d,v)
  |none=>none
 | .bb d neg x y=>match σ.v x,σ.v y with
  | .bool a,.bool b=>some (d,.bool (if neg=true then a !=b else a==b))
  |_,_=>none
 | .ea d neg ks x y=>match σ.v x,σ.v y with
  | .agg a,.agg b=>match cellsEq ks a b with
   |some t=>some (d,.bool (if neg=true then !t else t))
   |none=>none
  |_,_=>none
 | .pn d neg x=>match σ.v x with
  | .ptr _ _=>some (d,.bool neg)
  | .pin _=>some (d,.bool neg)
  | .nilp=>some (d,.bool (!neg))
  |_=>none
 | .bq d x=>match bytesA [] (σ.v x) with
  |some s=>some (d,.str s)
  |none=>none
 | .un d op x=>match op,σ.v x with
  | .not,.bool b=>some (d,.bool (!b))
  | .neg,.int k n=>some (d,.int k (k.wrap (0 - n)))
  |_,_=>none
 | .cv d k x=>match σ.v x with
  | .int _ n=>some (d,.int k (k.wrap n))
  |_=>none
 | .lns d x=>match σ.v x with
  | .str s=>some (d,.int .i64 s.length)
  |_=>none
 | .ln d x=>match σ.v x with
  | .sl rows=>some (d,.int .i64 rows.length)
  | .nils=>some (d,.int .i64 0)
  | .ms _ _ n _=>some (d,.int .i64 n)
  |_=>none
 | .fa d x off=>match σ.v x with
  | .ptr b o=>some (d,.ptr b (o+off))
  | .pin cs=>some (d,.pin (cs.drop off))
  |_=>none
 | .ia d sz x i=>match σ.v x,σ.v i with
  | .sl rows,.int _ n=>
   if 0≤n then match rows[n.toNat]? with
    |some row=>if row.length=sz then some (d,.pin row) else none
    |none=>none
   else none
  | .ms b o n k,.int _ i=>if 0≤i∧i<n∧k=sz then some (d,.ptr b (o+i.toNat*sz)) else none
  |_,_=>none
 | .iaa d sz n x i=>match σ.v x,σ.v i with
  | .ptr b o,.int _ i=>if 0≤i∧i<n then some (d,.ptr b (o+i.toNat*sz)) else none
  | .pin cs,.int _ i=>if 0≤i∧i<n then some (d,.pin (cs.drop (i.toNat*sz))) else none
  |_,_=>none
 | .ldf d x=>match loadS σ.bx (σ.v x) with
  |some v=>some (d,v)
  |none=>none
 | .lds d x=>match loadS σ.bx (σ.v x) with
  |some v=>some (d,v)
  |none=>none
 | .lda d n x=>match loadN σ.bx n (σ.v x) with
  |some v=>some (d,v)
  |none=>none
 | .bd d z ps=>match buildA σ ps z with
  |some cs=>some (d,.agg cs)
  |none=>none
 | .fls d off x=>match σ.v x with
  | .agg cs=>match cs[off]? with
   |some v=>some (d,v)
   |none=>none
  |_=>none
 | .fla d off n x=>match σ.v x with
  | .agg cs=>if off+n≤cs.length then some (d,.agg ((cs.drop off).take n)) else none
  |_=>none
 | .ixs d x i=>match σ.v x,σ.v i with
  | .str s,.int _ n=>if 0≤n then match s[n.toNat]? with
    |some b=>some (d,.int .u8 b.toNat)
    |none=>none
   else none
  |_,_=>none
 | .ixa d sz n agg x i=>match σ.v x,σ.v i with
  | .agg cs,.int _ i=>if 0≤i∧i<n∧n*sz≤cs.length then
    (if agg=true then some (d,.agg ((cs.drop (i.toNat*sz)).take sz)) else match cs[i.toNat*sz]? with
     |some v=>some (d,v)
     |none=>none)
   else none
  |_,_=>none
 | .exq d x i=>match σ.v x with
  | .tup vs=>match vs[i]? with
   |some v=>some (d,v)
   |none=>none
  |_=>none
 | .mf d f xs=>some (d,.fn f (xs.map σ.v))
 | .i2s d x=>match σ.v x with
  | .int _ n=>some (d,.str (Utf8.encode n).data.toList)
  |_=>none
 | .inl d neg x=>match σ.v x with
  | .nili=>some (d,.bool (!neg))
  | .ifc _ _=>some (d,.bool neg)
  |_=>none
 | .b2s d x=>match bytesA σ.bx (σ.v x) with
  |some s=>some (d,.str s)
  |none=>none
 | .mpl d x=>match mapOf σ.bx (σ.v x) with
  |some (_,es)=>some (d,.int .i64 es.length)
  |none=>none
 | .mlk d q z m k ok=>match mapOf σ.bx (σ.v m),(σ.v k).mkk q with
  |some (_,es),some k=>match mfind k es 0 with
   |some (some (_,v))=>some (d,if ok=true then .tup [v.av,.bool true] else v.av)
   |some none=>some (d,if ok=true then .tup [z.av,.bool false] else z.av)
   |none=>none
  |_,_=>none
 | .mn d x y=>match σ.v x,σ.v y with
  | .int k a,.int _ b=>some (d,.int k (if b<a then b else a))
  |_,_=>none
 | .mx d x y=>match σ.v x,σ.v y with
  | .int k a,.int _ b=>some (d,.int k (if a<b then b else a))
  |_,_=>none
 | .nc d x=>match σ.v x with
  | .ptr b o=>some (d,.ptr b o)
  | .pin cs=>some (d,.pin cs)
  |_=>none
 | .mi d T x=>some (d,.ifc T (σ.v x))
 | .ta d T z x ok=>match σ.v x with
  | .ifc t v=>if t=T then some (d,if ok=true then .tup [v,.bool true] else v) else if ok=true then some (d,.tup [z,.bool false]) else none
  | .nili=>if ok=true then some (d,.tup [z,.bool false]) else none
  |_=>none
 |_=>none

def lim:Nat:=140737488355328

def bnd (σ:St) (dflt:Nat):Option X→Option Int
 |none=>some dflt
 |some x=>match σ.v x with
  | .int _ n=>some n
  |_=>none

def wk (v u:AV):Prop:=v=u∨(v= .nils∧u= .sl [])
def wkL:List AV→List AV→Prop
 |[],[]=>True
 |v::r,u::s=>wk v u∧wkL r s
 |_,_=>False
def wkB (l:List (Id×List AV)) (d:Id) (cs:List AV):Prop:=
 match lkB l d with
 |some cs'=>wkL cs' cs
 |none=>False
def nilAt (σ:St):Pl→Prop
 | .s t=>lk σ.e t= .nils
 | .t _ _=>False
 | .b d off=>match lkB σ.bx d with
  |some cs=>cs[off]?=some .nils
  |none=>False

structure In where
 vs:List AV
 bx:List (Id×List AV)
 pm:List (Pl×Nat)
structure Out where
 r:AV
 bx:List (Id×List AV)
 pm:List (Pl×Nat)

def rmBs:List (Id×List AV)→List (Id×List AV)→List (Id×List AV)
 |l,[]=>l
 |l,(d,_)::r=>rmBs (rmB l d) r
def dlBs:List (Pl×Nat)→List (Id×List AV)→List (Pl×Nat)
 |l,[]=>l
 |l,(d,_)::r=>dlBs (dlB l d) r
def dlXs (xs:List X):List (Pl×Nat)→List (Pl×Nat)→List (Pl×Nat)
 |l,[]=>l
 |l,(.s i,_)::r=>match xs[i]? with
  |some (.s t)=>dlXs xs (dl l (.s t)) r
  |_=>dlXs xs l r
 |l,_::r=>dlXs xs l r
def retP (d:Nat):List (Pl×Nat)→List (Pl×Nat)
 |[]=>[]
 |(.s _,k)::r=>(.s d,k)::retP d r
 |(.t _ i,k)::r=>(.t d i,k)::retP d r
 |(.b i o,k)::r=>(.b i o,k)::retP d r
def pmIn (σ:St) (xs:List X) (I:In):Pl×Nat→Prop
 |(.s i,k)=>match xs[i]? with
  |some (.s t)=>lkP σ.pm (.s t)=some k∨lk σ.e t= .nils
  |some (.c v)=>v= .nils
  |_=>False
 |(.t _ _,_)=>False
 |(.b d off,k)=>(lkB I.bx d).isSome∧(lkP σ.pm (.b d off)=some k∨nilAt σ (.b d off))
def pmOne (xs:List X):List (Pl×Nat)→Prop
 |[]=>True
 |(.s i,_)::r=>(∀p∈r,∀j,p.1= .s j→j≠i→xs[j]?≠xs[i]?)∧pmOne xs r
 |_::r=>pmOne xs r
structure CallOk (d:Nat) (σ:St) (xs:List X) (I:In) (O:Out):Prop where
 vs:wkL (xs.map σ.v) I.vs
 bx: ∀p∈I.bx,wkB σ.bx p.1 p.2
 pm: ∀p∈I.pm,pmIn σ xs I p
 one:pmOne xs I.pm
 kept: ∀p∈I.bx,(lkB O.bx p.1).isSome
 new: ∀p∈O.bx,(lkB I.bx p.1).isSome∨(p.1.isNw d=true∧p.1.isIt=false)
 free: ∀p∈σ.bx,p.1.isNw d=false
def callSt (d:Nat) (σ:St) (xs:List X) (I:In) (O:Out):St:=
 ⟨(d,O.r)::σ.e,O.bx++rmBs σ.bx I.bx,retP d O.pm++dlS (dlXs xs (dlBs σ.pm I.bx) I.pm) d⟩

inductive Bx where
 |one (b:Id)
 |fr (l:List Nat)
 |cel (b:Id) (off:Nat) (v:AV)
def inF (l:List Nat):Id→Bool
 | .n k=>l.contains k
 | .nw k _=>l.contains k
 |_=>false
def djB:Bx→Bx→Prop
 | .cel _ _ _,_=>True
 |_,.cel _ _ _=>False
 | .one a,.one b=>a≠b
 | .one a,.fr l=>inF l a=true
 | .fr l,.one b=>inF l b=true
 | .fr _,.fr _=>False
def Bx.tch:Bx→Id→Prop
 | .one b,i=>b=i
 | .fr l,i=>inF l i=false
 | .cel _ _ _,_=>False
def tchO:Option Bx→Id→Prop
 |some x,i=>x.tch i
 |none,_=>False
theorem djB_no {x y:Bx} {i:Id} (h:djB x y) (h1:x.tch i) (h2:y.tch i):False:=by
 cases x<;>cases y<;>simp only [djB,Bx.tch] at h h1 h2
 ·exact h (h1.trans h2.symm)
 ·rw [h1,h2] at h;cases h
 ·rw [h2,h1] at h;cases h
def Pl.isB:Pl→Bool
 | .b _ _=>true
 |_=>false
def Pl.isF (fr:List Nat):Pl→Bool
 | .b e _=>!inF fr e
 |_=>false
theorem Pl.isF_isB {fr:List Nat} {p:Pl} (h:p.isF fr=true):p.isB=true:=by cases p<;>first|rfl|cases h
structure CqOk (fr:List Nat) (I:In) (O:Out):Prop where
 ip: ∀p∈I.pm,p.1.isB=true
 op: ∀p∈O.pm,p.1.isF fr=true
 fo: ∀p∈O.bx,inF fr p.1=false
def gdv:AV→Bool→Option Bool
 | .bool t,b=>some (t==b)
 | .tup [],_=>some false
 |_,_=>none
theorem gdv_true {v:AV} {b:Bool} (h:gdv v b=some true):v= .bool b:=by
 unfold gdv at h
 split at h
 ·simp at h;rw [h]
 ·cases h
 ·cases h
theorem gdv_false {v:AV} {b:Bool} (h:gdv v b=some false):v= .bool (!b)∨v= .tup []:=by
 unfold gdv at h
 split at h
 ·rename_i t b';left;cases t<;>cases b'<;>simp_all
 ·right;rfl
 ·cases h
section
variable (S:Nat→Nat→In→Out→Prop)
def pureS (f:Nat) (l:List AV) (r:AV):Prop:= ∀d,S f d ⟨l,[],[]⟩ ⟨r,[],[]⟩
def wpC (f d:Nat) (xs:List X) (K:St→Prop) (σ:St):Prop:= ∃I O,S f d I O∧CallOk d σ xs I O∧K (callSt d σ xs I O)
def appS (f:Nat) (v:Option (List (List AV))) (k:Nat) (l:List AV) (out:List (List AV)):Prop:=
 ∀e,S f e ⟨(match v with |some rows=> .sl rows::l|none=>l),[],(match v with |some _=>[(.s 0,k)]|none=>[])⟩ ⟨.sl out,[],[(.s 0,k)]⟩
def caS (f:Nat) (σ:St) (s:Option X) (ps:List X) (k:Nat) (out:List (List AV)):Prop:=match s with
 |none=>appS S f none k (ps.map σ.v) out
 |some (.c v)=>v= .nils∧appS S f (some []) k (ps.map σ.v) out
 |some (.s t)=>(∃rows,lk σ.e t= .sl rows∧lkP σ.pm (.s t)=some k∧appS S f (some rows) k (ps.map σ.v) out)∨(lk σ.e t= .nils∧appS S f (some []) k (ps.map σ.v) out)
def caSt (d:Nat) (s:Option X) (v:AV) (k:Nat) (σ:St):St:=match s with
 |some (.s t)=>⟨(d,v)::σ.e,σ.bx,(.s d,k)::dlS (dl σ.pm (.s t)) d⟩
 |_=>σ.puto d v k
def wp1:AOp→(St→Prop)→St→Prop
 | .mo d s,K,σ=>match lkP σ.pm (.s s) with
  |some k=>K ⟨(d,lk σ.e s)::σ.e,σ.bx,(.s d,k)::dlS (dl σ.pm (.s s)) d⟩
  |none=>K (σ.put d (lk σ.e s))
 | .al d z,K,σ=>match lkB σ.bx (.n d) with
  |none=>K ⟨(d,.ptr (.n d) 0)::σ.e,(.n d,z)::σ.bx,dlS σ.pm d⟩
  |some _=>False
 | .alT d T off z,K,σ=>match lkB σ.bx (.n d) with
  |none=>K ⟨(d,.ptr (.n d) 0)::σ.e,(.n d,z.set off (.nilT (.n d) T z.length))::σ.bx,dlS σ.pm d⟩
  |some _=>False
 | .bx d x,K,σ=>match lkB σ.bx (.n d) with
  |none=>match (σ.v x).cs with
   |some cs=>K ⟨(d,.ptr (.n d) 0)::σ.e,(.n d,cs)::σ.bx,dlS σ.pm d⟩
   |none=>False
  |some _=>False
 | .bxT d T off x,K,σ=>match lkB σ.bx (.n d) with
  |none=>match (σ.v x).cs with
   |some cs=>match cs[off]? with
    |some .nilp=>K ⟨(d,.ptr (.n d) 0)::σ.e,(.n d,cs.set off (.nilT (.n d) T cs.length))::σ.bx,dlS σ.pm d⟩
    |_=>False
   |none=>False
  |some _=>False
 | .rs d x,K,σ=>match lkB σ.bx (.it d) with
  |none=>match σ.v x with
   | .str s=>K ⟨(d,.itp d)::σ.e,(.it d,[.itr s 0])::σ.bx,dlS σ.pm d⟩
   |_=>False
  |some _=>False
 | .nx d x,K,σ=>match σ.v x with
  | .itp i=>match lkB σ.bx (.it i) with
   |some [.itr s pos]=>if pos<s.length then
     K ⟨(d,.tup [.bool true,.int .i64 pos,.int .i32 (runeAt s pos).1])::σ.e,stB σ.bx (.it i) [.itr s (pos+(runeAt s pos).2)],dlS σ.pm d⟩
    else K (σ.put d (.tup [.bool false]))
   |_=>False
  |_=>False
 | .mkp d,K,σ=>match lkB σ.bx (.it d) with
  |none=>K ⟨(d,.mref (.it d))::σ.e,(.it d,[.mpv []])::σ.bx,dlS σ.pm d⟩
  |some _=>False
 | .mpe d q z m k,K,σ=>match mapOf σ.bx (σ.v m),(σ.v k).mkk q with
  |some (b,es),some k=>match mfind k es 0 with
   |some (some (i,v))=>K (σ.put d (.tup [v.av,.int .i64 i]))
   |some none=>K ⟨(d,.tup [z.av,.int .i64 es.length])::σ.e,stB σ.bx b [.mpv (es++[(k,z)])],dlS σ.pm d⟩
   |none=>False
  |_,_=>False
 | .mes m s v,K,σ=>match mapOf σ.bx (σ.v m),σ.v s,(σ.v v).mk with
  |some (b,es),.int _ i,some v=>0≤i∧i<es.length∧K ⟨σ.e,stB σ.bx b [.mpv (mset es i.toNat v)],σ.pm⟩
  |_,_,_=>False
 | .mup q m k v,K,σ=>match mapOf σ.bx (σ.v m),(σ.v k).mkk q,(σ.v v).mk with
  |some (b,es),some k,some v=>match mfind k es 0 with
   |some (some (i,_))=>K ⟨σ.e,stB σ.bx b [.mpv (mset es i v)],σ.pm⟩
   |some none=>K ⟨σ.e,stB σ.bx b [.mpv (es++[(k,v)])],σ.pm⟩
   |none=>False
  |_,_,_=>False
 | .bs d sz ps,K,σ=>match rowsOf σ sz ps with
  |some rows=>K (σ.puto d (.sl rows) sz)
  |none=>False
 | .bsn d sz ps,K,σ=>match rowsN σ sz ps with
  |some rows=>K (σ.puto d (.sl rows) sz)
  |none=>False
 | .st n x v,K,σ=>match σ.v x with
  | .ptr d off=>match lkB σ.bx d with
   |some cs=>match (σ.v v).cs with
    |some vs=>vs.length=n∧off+n≤cs.length∧K ⟨σ.e,stB σ.bx d (fillA cs off vs),dlr σ.pm d off n⟩
    |none=>False
   |none=>False
  |_=>False
 | .lo d x,K,σ=>match σ.v x with
  | .ptr b off=>match lkB σ.bx b with
   |some cs=>match cs[off]? with
    |some v=>match lkP σ.pm (.b b off) with
     |some k=>K ⟨(d,v)::σ.e,σ.bx,(.s d,k)::dlS (dl σ.pm (.b b off)) d⟩
     |none=>K (σ.put d v)
    |none=>False
   |none=>False
  | .pin cs=>match cs[0]? with
   |some v=>K (σ.put d v)
   |none=>False
  |_=>False
 | .so x s,K,σ=>match σ.v x with
  | .ptr d off=>match lkB σ.bx d with
   |some cs=>match lkP σ.pm (.s s) with
    |some k=>off<cs.length∧K ⟨σ.e,stB σ.bx d (cs.set off (lk σ.e s)),(.b d off,k)::dl (dl σ.pm (.s s)) (.b d off)⟩
    |none=>match (lk σ.e s).cs with
     |some vs=>vs.length=1∧off+1≤cs.length∧K ⟨σ.e,stB σ.bx d (fillA cs off vs),dlr σ.pm d off 1⟩
     |none=>False
   |none=>False
  |_=>False
 | .ex d x i,K,σ=>match σ.v x with
  | .tup vs=>match vs[i]? with
   |some v=>match x with
    | .s t=>match lkP σ.pm (.t t i) with
     |some k=>K ⟨(d,v)::σ.e,σ.bx,(.s d,k)::dlS (dl σ.pm (.t t i)) d⟩
     |none=>K (σ.put d v)
    |_=>K (σ.put d v)
   |none=>False
  |_=>False
 | .ap d sz bytes s y,K,σ=>match shut (σ.v y) with
  |some (.sl news)=>(match σ.v s,s with
   | .sl rows,.s t=>lkP σ.pm (.s t)=some sz∧(rows.length+news.length)*bytes≤lim∧(∀r∈rows,r.length=sz)∧(∀r∈news,r.length=sz)∧K ⟨(d,.sl (rows++news))::σ.e,σ.bx,(.s d,sz)::dlS (dl σ.pm (.s t)) d⟩
   | .nils,_=>news.length*bytes≤lim∧(∀r∈news,r.length=sz)∧K (σ.puto d (.sl news) sz)
   |_,_=>False)
  |_=>False
 | .s2b d x,K,σ=>match σ.v x with
  | .str l=>K (σ.put d (.sl (byteRows l)))
  |_=>False
 | .aps d s y,K,σ=>match σ.v y with
  | .str l=>(match σ.v s,s with
   | .sl rows,.s t=>lkP σ.pm (.s t)=some 1∧rows.length+l.length≤lim∧(∀r∈rows,r.length=1)∧K ⟨(d,.sl (rows++byteRows l))::σ.e,σ.bx,(.s d,1)::dlS (dl σ.pm (.s t)) d⟩
   | .nils,_=>l.length≤lim∧K (σ.puto d (.sl (byteRows l)) 1)
   |_,_=>False)
  |_=>False
 | .mk d sz bytes z l c,K,σ=>match σ.v l,σ.v c with
  | .int _ l,.int _ c=>0≤l∧l≤c∧c*bytes≤lim∧K (σ.puto d (.sl (List.replicate l.toNat z)) sz)
  |_,_=>False
 | .bsm d sz ps,K,σ=>match lkB σ.bx (.n d),rowsN σ sz ps with
  |none,some rows=>K ⟨(d,.ms (.n d) 0 rows.length sz)::σ.e,(.n d,rows.flatten)::σ.bx,dlS σ.pm d⟩
  |none,none=>match rowsI σ sz ps with
   |some rows=>K ⟨(d,.ms (.n d) 0 rows.length sz)::σ.e,(.n d,rows.flatten)::σ.bx,dlS σ.pm d⟩
   |none=>False
  |_,_=>False
 | .mkm d sz bytes z l c,K,σ=>match lkB σ.bx (.n d),σ.v l,σ.v c with
  |none,.int _ l,.int _ c=>0≤l∧l≤c∧c*bytes≤lim∧K ⟨(d,.ms (.n d) 0 l.toNat sz)::σ.e,(.n d,(List.replicate l.toNat z).flatten)::σ.bx,dlS σ.pm d⟩
  |_,_,_=>False
 | .apm d sz bytes s y,K,σ=>match shutN (σ.v y) with
  |some (.sl news)=>(match σ.v s with
   | .nils=>match lkB σ.bx (.n d) with
    |none=>news.length*bytes≤lim∧0<news.length∧(∀r∈news,r.length=sz)∧K ⟨(d,.ms (.n d) 0 news.length sz)::σ.e,(.n d,news.flatten)::σ.bx,dlS σ.pm d⟩
    |some _=>False
   | .ms b 0 n k=>match lkB σ.bx b with
    |some cs=>k=sz∧cs.length=n*sz∧b.isUp=false∧lkB (rmB σ.bx b) (.n d)=none∧(∀p∈rmB σ.bx b,b∉idsL p.2)∧b∉idsL cs∧(∀p∈σ.pm,p.1.lt b cs.length)∧b.isIt=false∧
      (n+news.length)*bytes≤lim∧(∀r∈news,r.length=sz)∧K ⟨(d,.ms (.n d) 0 (n+news.length) sz)::purE σ.e b,(.n d,cs++news.flatten)::rmB σ.bx b,rnP (dlS σ.pm d) b (.n d)⟩
    |none=>False
   |_=>False)
  |_=>match σ.v y with
   | .ms b2 0 m k2=>match lkB σ.bx b2 with
    |some ds=>match σ.v s with
     | .nils=>match lkB σ.bx (.n d) with
      |none=>k2=sz∧ds.length=m*sz∧b2.isIt=false∧m*bytes≤lim∧0<m∧K ⟨(d,.ms (.n d) 0 m sz)::σ.e,(.n d,ds)::σ.bx,dlS σ.pm d⟩
      |some _=>False
     | .ms b 0 n k=>match lkB σ.bx b with
      |some cs=>k2=sz∧ds.length=m*sz∧b2.isIt=false∧k=sz∧cs.length=n*sz∧b.isUp=false∧lkB (rmB σ.bx b) (.n d)=none∧b∉idsL cs∧b∉idsL ds∧(∀p∈σ.pm,p.1.lt b cs.length)∧b.isIt=false∧b2≠b∧
        (n+m)*bytes≤lim∧K ⟨(d,.ms (.n d) 0 (n+m) sz)::purE σ.e b,(.n d,cs++ds)::rmB (purB σ.bx b) b,rnP (dlS σ.pm d) b (.n d)⟩
      |none=>False
     |_=>False
    |none=>False
   |_=>False
 | .sls d x lo hi,K,σ=>match σ.v x with
  | .str s=>match bnd σ 0 lo,bnd σ s.length hi with
   |some l,some h=>0≤l∧l≤h∧h≤s.length∧K (σ.put d (.str ((s.take h.toNat).drop l.toNat)))
   |_,_=>False
  |_=>False
 | .slc d sz x lo hi,K,σ=>match σ.v x with
  | .sl rows=>match bnd σ 0 lo,bnd σ rows.length hi with
   |some l,some h=>0≤l∧l≤h∧h≤rows.length∧(∀r∈rows,r.length=sz)∧K (σ.put d (.sl ((rows.take h.toNat).drop l.toNat)))
   |_,_=>False
  |_=>False
 | .sla d n x lo hi,K,σ=>match σ.v x with
  | .ptr b o=>match lkB σ.bx b,bnd σ 0 lo,bnd σ n hi with
   |some cs,some l,some h=>0≤l∧l≤h∧h≤n∧l<n∧o+n≤cs.length∧n≤4294967296∧b.isIt=false∧K (σ.put d (.ms b (o+l.toNat) (h - l).toNat 1))
   |_,_,_=>False
  |_=>False
 | .cl d f xs,K,σ=>match shutL (xs.map σ.v) with
  |some l=> ∃r,pureS S f l r∧K (σ.put d r)
  |none=>False
 | .ce d f xs,K,σ=>wpC S f d xs K σ
 | .cd d x xs,K,σ=>match σ.v x with
  | .fn f caps=>wpC S f d (xs++caps.map X.c) K σ
  |_=>False
 | .ca d f s ps,K,σ=> ∃k out,caS S f σ s ps k out∧K (caSt d s (.sl out) k σ)
 | .clr sz z x,K,σ=>match σ.v x with
  | .ms b o n k=>match lkB σ.bx b with
   |some cs=>k=sz∧0<n∧o+n*sz≤cs.length∧K ⟨σ.e,stB σ.bx b (fillA cs o (List.replicate n z).flatten),dlr σ.pm b o (n*sz)⟩
   |none=>False
  |_=>False
 | .cr d f xs,K,σ=>match xs.map σ.v with
  | .ptr b o::r=>match lkB σ.bx b with
   |some cs=> ∃v,(∀e,b.isNw e=false→S f e ⟨.ptr b o::r,[(b,cs)],[]⟩ ⟨v,[(b,cs)],[]⟩)∧K ⟨(d,v)::σ.e,σ.bx,dlS (dlB σ.pm b) d⟩
   |none=>False
  |_=>False
 | .cq d f xs fr,K,σ=> ∃I O,S f d I O∧CallOk d σ xs I O∧(CqOk fr I O∧fr.contains d=false)∧K (callSt d σ xs I O)
 | .gd s b d o,K,σ=>match gdv (lk σ.e s) b with
  |some true=>wp1 o K σ
  |some false=>K (σ.put d (.tup []))
  |none=>False
 |o,K,σ=>match ev σ o with
  |some (d,v)=>K (σ.put d v)
  |none=>False

def wpL:List AOp→(St→Prop)→St→Prop
 |[],K,σ=>K σ
 |o::r,K,σ=>wp1 S o (wpL r K) σ

def bid (σ:St):AOp→Option Bx
 | .lds _ x=>match σ.v x with | .ptr b _=>some (.one b)|_=>none
 | .ldf _ x=>match σ.v x with | .ptr b off=>(match loadS σ.bx (.ptr b off) with |some v=>some (.cel b off v)|none=>none)|_=>none
 | .lda _ _ x=>match σ.v x with | .ptr b _=>some (.one b)|_=>none
 | .st _ x _=>match σ.v x with | .ptr b _=>some (.one b)|_=>none
 | .lo _ x=>match σ.v x with | .ptr b _=>some (.one b)|_=>none
 | .so x _=>match σ.v x with | .ptr b _=>some (.one b)|_=>none
 | .al d _=>some (.one (.n d))
 | .mlk _ _ _ m _ _=>match σ.v m with | .mref b=>some (.one b)|_=>none
 | .alT d _ _ _=>some (.one (.n d))
 | .bx d _=>some (.one (.n d))
 | .cr _ _ xs=>match xs.map σ.v with | .ptr b _::_=>some (.one b)|_=>none
 | .cq _ _ _ fr=>some (.fr fr)
 | .gd s b _ o=>match lk σ.e s with
  | .bool t=>if t=b then bid σ o else none
  |_=>none
 |_=>none
def offH:List (Nat×Bx)→List Nat→Bx→Prop
 |[],_,_=>True
 |(i,b')::h,u,b=>(i∈u→djB b' b)∧offH h u b
def offO (h:List (Nat×Bx)) (u:List Nat):Option Bx→Prop
 |none=>True
 |some b=>offH h u b
def addH (h:List (Nat×Bx)) (j:Nat):Option Bx→List (Nat×Bx)
 |none=>h
 |some b=>(j,b)::h
def Bx.kept:Bx→St→Prop
 | .cel b off v,σ=>loadS σ.bx (.ptr b off)=some v
 |_,_=>True
def kpK:List (Nat×Bx)→List Nat→(St→Prop)→St→Prop
 |[],_,K=>K
 |(i,.cel b off v)::h,u,K=>fun σ=>(i∈u→loadS σ.bx (.ptr b off)=some v)∧kpK h u K σ
 |_::h,u,K=>kpK h u K
theorem kpK_iff {K:St→Prop} {σ:St}: ∀ {h:List (Nat×Bx)} {u:List Nat},kpK h u K σ↔(∀p∈h,p.1∈u→p.2.kept σ)∧K σ
 |[],u=>by simp [kpK]
 |(i,.cel b off v)::h,u=>by
  have:=kpK_iff (K:=K) (σ:=σ) (h:=h) (u:=u)
  simp only [kpK,this,List.mem_cons,forall_eq_or_imp,Bx.kept]
  exact and_assoc.symm
 |(i,.one b)::h,u=>by
  have:=kpK_iff (K:=K) (σ:=σ) (h:=h) (u:=u)
  simp only [kpK,this,List.mem_cons,forall_eq_or_imp,Bx.kept,implies_true,true_and]
 |(i,.fr l)::h,u=>by
  have:=kpK_iff (K:=K) (σ:=σ) (h:=h) (u:=u)
  simp only [kpK,this,List.mem_cons,forall_eq_or_imp,Bx.kept,implies_true,true_and]
def wpLd:List (List Nat)→List AOp→Nat→List (Nat×Bx)→(St→Prop)→St→Prop
 |u::us,o::r,j,h,K,σ=>offO h u (bid σ o)∧wp1 S o (kpK h u (wpLd us r (j+1) (addH h j (bid σ o)) K)) σ
 |[],[],_,_,K,σ=>K σ
 |_,_,_,_,_,_=>False

inductive AC where
 |sk
 |rg (l:List AOp)
 |rd (us:List (List Nat)) (l:List AOp)
 |sq (a b:AC)
 |cd (x:X) (a b:AC)
 |bl (i:Nat) (a:AC)
 |lp (a:AC)
 |ex (i:Nat)
 |rt
 |sc (a:AC)
 |lb
 |no

inductive AE where
 |n
 |x (i:Nat)
 |r

structure Weak (σ τ:St):Prop where
 e: ∀p∈τ.e,wk (lk σ.e p.1) p.2
 b: ∀p∈τ.bx,wkB σ.bx p.1 p.2
 p: ∀p∈τ.pm,lkP σ.pm p.1=some p.2∨nilAt σ p.1
 ei: ∀p∈τ.e,∀d∈p.2.ids,(lkB τ.bx d).isSome∨d.isUp=true
 bi: ∀p∈τ.bx,∀d∈idsL p.2,(lkB τ.bx d).isSome∨d.isUp=true
 pi: ∀p∈τ.pm,∀d∈p.1.ids,(lkB τ.bx d).isSome

mutual
def AV.mp (f:Id→Id):AV→AV
 | .ptr d o=> .ptr (f d) o
 | .ms d o n sz=> .ms (f d) o n sz
 | .itp _=> .undef
 | .mref d=> .mref (f d)
 | .nilT d T n=> .nilT (f d) T n
 | .fn g cs=> .fn g (mpL f cs)
 | .agg cs=> .agg (mpL f cs)
 | .tup cs=> .tup (mpL f cs)
 | .ifc T v=> .ifc T (v.mp f)
 |v=>v
def mpL (f:Id→Id):List AV→List AV
 |[]=>[]
 |v::r=>v.mp f::mpL f r
end
def Pl.mp (f:Id→Id):Pl→Pl
 | .b d o=> .b (f d) o
 |p=>p
def mpB (f:Id→Id):List (Id×List AV)→List (Id×List AV)
 |[]=>[]
 |(d,cs)::r=>(f d,mpL f cs)::mpB f r
def mpP (f:Id→Id):List (Pl×Nat)→List (Pl×Nat)
 |[]=>[]
 |(p,k)::r=>(p.mp f,k)::mpP f r
def St.rn (σ:St) (f:Id→Id):St:=⟨σ.e.map fun p=>(p.1,p.2.mp f),mpB f σ.bx,mpP f σ.pm⟩
structure RnOk (f g:Id→Id):Prop where
 gf: ∀d,g (f d)=d
 fg: ∀d,f (g d)=d
 up: ∀d,d.isUp=true→f d=d
 it: ∀d,d.isIt=true→f d=d
def WeakR (σ τ:St):Prop:=Weak σ τ∨ ∃f g,RnOk f g∧Weak (σ.rn f) τ
def swp (a b x:Id):Id:=if x=a then b else if x=b then a else x
theorem RnOk.comp {f g f' g':Id→Id} (h:RnOk f g) (h':RnOk f' g'):RnOk (fun d=>f' (f d)) (fun d=>g (g' d)):=
 ⟨fun d=>by simp only [h'.gf,h.gf],fun d=>by simp only [h.fg,h'.fg],fun d hd=>by simp only [h.up d hd,h'.up d hd],fun d hd=>by simp only [h.it d hd,h'.it d hd]⟩
def AE.sq (B:St→Prop) (Q:AE→St→Prop):AE→St→Prop
 | .n,σ=>B σ
 | .x i,σ=>Q (.x i) σ
 | .r,σ=>Q .r σ
def AE.bl (i:Nat) (Q:AE→St→Prop):AE→St→Prop
 | .n,σ=>Q .n σ
 | .x j,σ=>if j=i then Q .n σ else Q (.x j) σ
 | .r,σ=>Q .r σ

def itA (F:(AE→St→Prop)→St→Prop) (Q:AE→St→Prop):Nat→St→Prop
 |0,_=>False
 |n+1,σ=> ∃τ,WeakR σ τ∧F (AE.sq (itA F Q n) Q) τ

def wpA:AC→(AE→St→Prop)→St→Prop
 | .sk,Q,σ=>Q .n σ
 | .rg l,Q,σ=>wpL S l (Q .n) σ
 | .rd us l,Q,σ=>wpLd S us l 0 [] (Q .n) σ
 | .sq a b,Q,σ=>wpA a (AE.sq (wpA b Q) Q) σ
 | .cd x a b,Q,σ=>match σ.v x with
  | .bool t=>if t=true then wpA a Q σ else wpA b Q σ
  |_=>False
 | .bl i a,Q,σ=>wpA a (AE.bl i Q) σ
 | .lp a,Q,σ=> ∃n,itA (wpA a) Q n σ
 | .ex i,Q,σ=>Q (.x i) σ
 | .rt,Q,σ=>Q .r σ
 | .sc a,Q,σ=>wpA a Q σ
 | .lb,Q,σ=>Q .n σ
 | .no,_,_=>False
end
end Go.Ai
