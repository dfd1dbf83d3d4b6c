/- A part of a proof. Its conditions: none. -/
import Derived.WalkKit
import Derived.DeepKeys3
import Derived.Orders
import Derived.Laws.CopyOwn
import Derived.Laws.BytesArg
set_option linter.all false
namespace Go.AM
inductive AObj where
 | dead
 | cells (cs:List Value) (ty:TypeId) (own:Bool)
 | map (es:List MapEntry) (clock:Nat) (kt:TypeId)
 | rows (cs:List Value) (ty:TypeId) (last:Bool)
 | frz (xs:List Int) (ty:TypeId)
 | iter (m:Nat) (since:Nat) (seen:List Nat) (last:Nat)
instance : Inhabited AObj := ⟨.dead⟩
abbrev Heap:=Nat→AObj
def hset(H:Heap)(x:Nat)(o:AObj):Heap:=fun y=>cond (Nat.beq y x) o (H y)
abbrev Fr:=Nat→Value
def fset(f:Fr)(d:Nat)(v:Value):Fr:=fun t=>cond (Nat.beq t d) v (f t)
def fput(f:Fr)(d:Option Nat)(v:Value):Fr:=match d with|some d=>fset f d v|none=>f
theorem nbeq(y x:Nat):Nat.beq y x=decide (y=x):=by
 cases h:Nat.beq y x
 ·symm;simp only[decide_eq_false_iff_not];intro e;subst e;simp at h
 ·symm;simp only[decide_eq_true_eq];exact Nat.eq_of_beq_eq_true h
theorem hset_apply(H:Heap)(x:Nat)(o:AObj)(y:Nat):hset H x o y=if y=x then o else H y:=by
 unfold hset
 rw[nbeq]
 by_cases h:y=x <;> simp[h]
theorem fset_apply(f:Fr)(d:Nat)(v:Value)(t:Nat):fset f d v t=if t=d then v else f t:=by
 unfold fset
 rw[nbeq]
 by_cases h:t=d <;> simp[h]
def ngl(P:Program):Nat:=P.globals.size
def nanV:Value:=.complex .f64 0 0
def isNaNw(b:Nat):Prop:=b<18446744073709551616∧(Ieee.double.read b).isNaN=true
def evalA(f:Fr):Operand→Value
 | .tmp t=>f t
 | .const v=>v
 | .global g=>.pointer (some ⟨g,0,none⟩)
 | .func g=>.func (.func g) #[] #[]
def pureRun(P:Program){α:Type}:Sem α→Option α
 | .pure a=>some a
 | .program k=>pureRun P (k P)
 | _=>none
theorem pureRun_run{P:Program}{α:Type}:∀(s:Sem α) {a:α},pureRun P s=some a→∀w,s.run P w=.ok a w
 | .pure _,_,h,w=>by simp[pureRun]at h;subst h;rfl
 | .program k,_,h,w=>by simp only[pureRun]at h;exact pureRun_run (k P) h w
 | .load ..,_,h,_|.store ..,_,h,_|.new ..,_,h,_|.shape ..,_,h,_|.freeze ..,_,h,_|.frozen ..,_,h,_
 | .getObj ..,_,h,_|.setObj ..,_,h,_|.choose ..,_,h,_|.sys ..,_,h,_|.mark ..,_,h,_|.halt ..,_,h,_=>by simp[pureRun]at h
def flat1:Value→Bool
 | .bool _|.int ..|.float ..|.string _|.nilFunc|.nilIface|.pointer none|.map none=>true
 | _=>false
def flat:Value→Bool
 | .agg cs=>cs.toList.all flat1
 | .tuple cs=>cs.toList.all flat1
 | v=>flat1 v
def still1:Value→Bool
 | .slice none 0 0=>true
 | v=>flat1 v
def still:Value→Bool
 | .agg cs=>cs.toList.all still1
 | .tuple cs=>cs.toList.all still1
 | v=>still1 v
def one:Value→Bool
 | .agg _|.tuple _=>false
 | _=>true
def vcells(v:Value):List Value:=v.cells.toList
def aggT(P:Program)(t:TypeId):Option Bool :=
 match P.underlying t with
 | some (.struct _)|some (.array _ _)=>some true
 | some _=>some false
 | none=>none
structure Res where
 v:Value
 news:List AObj:=[]
 wr:Option (Nat × AObj):=none
 rd:List Nat:=[]
def Res.heap(r:Res)(n:Nat)(H:Heap):Heap :=
 let H1:=match r.wr with|some (x,o)=>hset H x o|none=>H
 match r.news with
 | []=>H1
 | o::_=>hset H1 n o
def Res.next(r:Res)(n:Nat):Nat:=match r.news with|[]=>n|_::_=>n+1
def splice(cs:List Value)(k:Nat):List Value→List Value
 | []=>cs
 | v::vs=>splice (cs.set k v) (k+1) vs
def aload(P:Program)(t:TypeId)(H:Heap):Value→Option Res
 | .pointer (some ⟨x,k,none⟩) =>
  match H x with
  | .cells cs _ _ =>
   match aggT P t with
   | some true=>if k+P.cellsOf t≤cs.length then some { v:=.agg ((cs.drop k).take (P.cellsOf t)).toArray,rd:=[x] } else none
   | some false=>match cs[k]? with
    | some v=>some { v:=v,rd:=[x] }
    | none=>none
   | none=>none
  | .rows cs _ _ =>
   match aggT P t with
   | some true=>if k+P.cellsOf t≤cs.length then some { v:=.agg ((cs.drop k).take (P.cellsOf t)).toArray,rd:=[x] } else none
   | some false=>match cs[k]? with
    | some v=>some { v:=v,rd:=[x] }
    | none=>none
   | none=>none
  | _=>none
 | _=>none
def astore(P:Program)(t:TypeId)(H:Heap)(a v:Value):Option Res :=
 match a with
 | .pointer (some ⟨x,k,none⟩) =>
  match H x with
  | .cells cs ty true=>match P.info? t with
   | some j=>if(vcells v).length=j.size∧(vcells v).all one=true∧k+(vcells v).length≤cs.length then
    some { v:=undef,wr:=some (x,.cells (splice cs k (vcells v)) ty true) } else none
   | none=>none
  | _=>none
 | _=>none
def abox(n:Nat)(t:TypeId)(v:Value):Option Res :=
 if(vcells v).all one=true then some { v:=.pointer (some ⟨n,0,none⟩),news:=[.cells (vcells v) t true] } else none
def aalloc(P:Program)(n:Nat)(t:TypeId):Option Res :=
 match(P.info? t).bind (·.zero)with
 | some z=>if still z=true then abox n t z else none
 | none=>none
def afill(place:Nat→Option (Nat × Nat))(cs:List Value):List (Nat × Value)→Option (List Value)
 | []=>some cs
 | (i,v)::rest =>
  match place i with
  | none=>none
  | some (off,size)=>if(vcells v).length≠size∨off+size>cs.length∨(vcells v).all one≠true then none else afill place (splice cs off (vcells v)) rest
def zeroCellsOf(P:Program)(t:TypeId):Option (List Value) :=
 match(P.info? t).bind (·.zero)with
 | some z=>if(vcells z).all still1=true then some (vcells z) else none
 | none=>none
def fplaces(P:Program):List Field→Option (List (Nat × Nat))
 | []=>some []
 | f::fs=>match P.info? f.type,fplaces P fs with
  | some j,some l=>some ((f.offset,j.size)::l)
  | _,_=>none
def abuild(P:Program)(t:TypeId)(parts:List (Nat × Value)):Option Value :=
 match P.underlying t,zeroCellsOf P t with
 | some (.struct fields),some zs=>match fplaces P fields.toList with
  | some places=>(afill (fun i=>places[i]?) zs parts).map fun cs=>.agg cs.toArray
  | none=>none
 | some (.array _ elem),some zs=>match P.info? elem with
  | some j=>(afill (fun i=>some (i*j.size,j.size)) zs parts).map fun cs=>.agg cs.toArray
  | none=>none
 | _,_=>none
def rep(n:Nat)(z:List Value):List Value:=match n with|0=>[]|n+1=>z++rep n z
def abuildSlice(P:Program)(n:Nat)(t:TypeId)(len:Nat)(parts:List (Nat × Value)):Option Res :=
 match P.underlying t with
 | some (.slice elem) =>
  match P.info? elem,zeroCellsOf P elem with
  | some j,some zs =>
   if len*j.size>16777216∨len>1048576∨zs.length≠j.size∨j.size=0 then none else
   (afill (fun i=>some (i*j.size,j.size)) (rep len zs) parts).map fun cs=>{ v:=.slice (some ⟨n,0,none⟩) len len,news:=[.cells cs elem true] }
  | _,_=>none
 | _=>none
def bigN:Nat:=34359738368
def amakeSlice(P:Program)(n:Nat)(t:TypeId)(len cap:Value):Option Res :=
 match P.underlying t,len,cap with
 | some (.slice elem),.int _ l,.int _ c =>
  match P.info? elem,zeroCellsOf P elem with
  | some j,some zs =>
   if 0≤l∧l≤c∧c≤bigN∧j.bytes≤4096∧zs.length=j.size∧j.size≠0 then
    some { v:=.slice (some ⟨n,0,none⟩) l.toNat l.toNat,news:=[.cells (rep l.toNat zs) elem true] } else none
  | _,_=>none
 | _,_,_=>none
def bound(x:Option Value)(d:Nat):Option Nat :=
 match x with
 | none=>some d
 | some (.int _ i)=>if 0≤i then some i.toNat else none
 | some _=>none
def aslice(P:Program)(H:Heap)(t:TypeId)(x:Value)(lo hi:Option Value):Option Res :=
 match P.underlying t,x with
 | some (.slice elem),.slice (some ⟨y,k,none⟩) len _ =>
  match P.info? elem,bound lo 0,bound hi len,H y with
  | some j,some l,some h,.cells _ ty own =>
   if l≤h∧h≤len∧(own=true→P.cellsOf ty=j.size) then some { v:=.slice (some ⟨y,k+l*j.size,none⟩) (h - l) (h - l),rd:=[y] } else none
  | _,_,_,_=>none
 | some (.slice elem),.slice none 0 0 =>
  match P.info? elem,bound lo 0,bound hi 0 with
  | some _,some 0,some 0=>some { v:=.slice none 0 0 }
  | _,_,_=>none
 | some (.array N elem),.pointer (some ⟨y,k,none⟩) =>
  match P.info? elem,bound lo 0,bound hi N with
  | some j,some l,some h=>if l≤h∧h≤N∧N≤maxLen then some { v:=.slice (some ⟨y,k+l*j.size,some 0⟩) (h - l) (h - l) } else none
  | _,_,_=>none
 | some (.slice elem),.slice (some ⟨y,k,some 0⟩) len _ =>
  match P.info? elem,bound lo 0,bound hi len with
  | some j,some l,some h=>if l≤h∧h≤len then some { v:=.slice (some ⟨y,k+l*j.size,some 0⟩) (h - l) (h - l) } else none
  | _,_,_=>none
 | _,_=>none
def afieldAddr(P:Program)(t:TypeId)(x:Value)(i:Nat):Option Value :=
 match P.underlying t,x with
 | some (.struct fields),.pointer (some ⟨y,k,none⟩) =>
  match fields[i]? with
  | some f=>match P.info? f.type with
   | some j=>if j.size=0 then none else some (.pointer (some ⟨y,k+f.offset,none⟩))
   | none=>none
  | none=>none
 | _,_=>none
def aindexAddr(P:Program)(t:TypeId)(x i:Value):Option Value :=
 match P.underlying t,x,i with
 | some (.slice elem),.slice (some ⟨y,k,none⟩) len _,.int _ i =>
  match P.info? elem with
  | some j=>if 0≤i∧i<len then some (.pointer (some ⟨y,k+i.toNat*j.size,none⟩)) else none
  | none=>none
 | some (.slice elem),.slice (some ⟨y,k,some 0⟩) len _,.int _ i =>
  match P.info? elem with
  | some j=>if 0≤i∧i<len then some (.pointer (some ⟨y,k+i.toNat*j.size,none⟩)) else none
  | none=>none
 | some (.array len elem),.pointer (some ⟨y,k,none⟩),.int _ i =>
  match P.info? elem with
  | some j=>if 0≤i∧i<len then some (.pointer (some ⟨y,k+i.toNat*j.size,none⟩)) else none
  | none=>none
 | _,_,_=>none
def apart(P:Program)(t:TypeId)(cs:List Value)(off:Nat):Option Value :=
 match P.info? t with
 | some j=>match aggT P t with
  | some true=>if off+j.size≤cs.length then some (.agg ((cs.drop off).take j.size).toArray) else none
  | some false=>cs[off]?
  | none=>none
 | none=>none
def afield(P:Program)(t:TypeId)(x:Value)(i:Nat):Option Value :=
 match P.underlying t,x with
 | some (.struct fields),.agg cs=>match fields[i]? with
  | some f=>apart P f.type cs.toList f.offset
  | none=>none
 | _,_=>none
def aindex(P:Program)(t:TypeId)(x i:Value):Option Value :=
 match P.underlying t,x,i with
 | some (.array len elem),.agg cs,.int _ i=>match P.info? elem with
  | some j=>if 0≤i∧i<len then apart P elem cs.toList (i.toNat*j.size) else none
  | none=>none
 | _,_,_=>none
def asrc(H:Heap)(size:Nat):Value→Option (List Value × List Nat × Nat)
 | .slice none 0 0=>some ([],[],0)
 | .slice (some ⟨y,k,none⟩) m _ =>
  match H y with
  | .cells cs _ _=>if k+m*size≤cs.length then some ((cs.drop k).take (m*size),[y],m) else none
  | _=>none
 | .slice (some ⟨y,k,some _⟩) m _ =>
  match H y with
  | .cells cs _ _=>if k+m*size≤cs.length then some ((cs.drop k).take (m*size),[y],m) else none
  | _=>none
 | .string s=>if size=1 then some (s.data.toList.map fun b=>.int .u8 b.toNat,[],s.size) else none
 | _=>none
def srcT:TypeDesc→Bool|.slice _|.string=>true|_=>false
def aappend(P:Program)(n:Nat)(H:Heap)(ts:Array TypeId)(s x:Value):Option Res :=
 match ts[0]?,ts[1]? with
 | some t,some u =>
  match P.underlying t with
  | some (.slice elem) =>
   match P.info? elem,zeroCellsOf P elem,P.underlying u with
   | some j,some zs,some du =>
    if j.bytes>4096∨j.size=0∨zs.length≠j.size∨srcT du=false then none else
    match asrc H j.size x with
    | some (ys,rd,m) =>
     match s with
     | .slice none 0 0=>if m>bigN then none else if m=0 then some { v:=.slice none 0 0,rd:=rd } else some { v:=.slice (some ⟨n,0,none⟩) m m,news:=[.cells ys elem true],rd:=rd }
     | .slice (some ⟨y,k,none⟩) len _ =>
      match H y with
      | .cells cs ty true =>
       if len+m≤bigN∧k+len*j.size≤cs.length∧ty=elem∧rd.contains y=false then
        some { v:=.slice (some ⟨n,0,none⟩) (len+m) (len+m),news:=[.cells ((cs.drop k).take (len*j.size)++ys) elem true],wr:=some (y,.dead),rd:=rd } else none
      | _=>none
     | _=>none
    | none=>none
   | _,_,_=>none
  | _=>none
 | _,_=>none
def growNames : List String := ["chart.item"]
def growT(P:Program)(ts:Array TypeId):Bool :=
 match ts[0]? with
 | some t=>match P.underlying t with
  | some (.slice elem)=>match P.info? elem with
   | some j=>growNames.contains j.str
   | none=>false
  | _=>false
 | none=>false
def agrow(P:Program)(n:Nat)(H:Heap)(ts:Array TypeId)(s x:Value):Option Res :=
 match ts[0]?,ts[1]? with
 | some t,some u =>
  match P.underlying t with
  | some (.slice elem) =>
   match P.info? elem,zeroCellsOf P elem,P.underlying u with
   | some j,some zs,some du =>
    if j.bytes>4096∨j.size=0∨zs.length≠j.size∨srcT du=false then none else
    match asrc H j.size x with
    | some (ys,rd,m) =>
     match s with
     | .slice none 0 0=>if m>bigN∨m=0 then none else some { v:=.slice (some ⟨n,0,none⟩) m m,news:=[.rows ys elem true],rd:=rd }
     | .slice (some ⟨y,0,none⟩) len _ =>
      match H y with
      | .rows cs ty true =>
       if len+m≤bigN∧len*j.size=cs.length∧len≠0∧m≠0∧ty=elem∧rd.contains y=false then
        some { v:=.slice (some ⟨n,0,none⟩) (len+m) (len+m),news:=[.rows (cs++ys) elem true],wr:=some (y,.rows cs ty false),rd:=rd } else none
      | _=>none
     | _=>none
    | none=>none
   | _,_,_=>none
  | _=>none
 | _,_=>none
def alen(P:Program)(H:Heap)(ts:Array TypeId)(x:Value):Option Res :=
 match(ts[0]?).bind P.underlying,x with
 | some (.slice _),.slice _ m _=>some { v:=.int .i64 m }
 | some .string,.string s=>some { v:=.int .i64 s.size }
 | some (.map _ _),.map none=>some { v:=.int .i64 0 }
 | some (.map _ _),.map (some y)=>match H y with
  | .map es _ _=>some { v:=.int .i64 es.length,rd:=[y] }
  | _=>none
 | _,_=>none
def aeqNil(P:Program)(t:TypeId)(x y:Value):Option Bool :=
 match P.underlying t,x,y with
 | some (.pointer _),.pointer (some _),.pointer none|some (.pointer _),.pointer none,.pointer (some _)=>some false
 | some (.pointer e),.pointer (some ⟨x,k,none⟩),.pointer (some ⟨y,l,none⟩)=>match P.info? e with
  | some j=>if x=y∧j.size≠0 then some (decide (k=l)) else none
  | none=>none
 | _,_,_=>none
def bytesOf:List Value→Option (List Int)
 | []=>some []
 | .int .u8 n::r=>(bytesOf r).map (n :: ·)
 | _=>none
def strNums(xs:List Int):ByteArray:=⟨(xs.map fun n=>UInt8.ofNat n.toNat).toArray⟩
def astring(P:Program)(s d:TypeId)(H:Heap)(x:Value):Option Res :=
 match P.underlying s,P.underlying d with
 | some (.slice e),some .string =>
  match P.underlying e,x with
  | some (.int .u8),.slice none 0 0=>some { v:=.string (strNums []) }
  | some (.int .u8),.slice (some ⟨y,k,none⟩) m _ =>
   match H y with
   | .cells cs _ _=>if k+m≤cs.length then(bytesOf ((cs.drop k).take m)).map fun l=>{ v:=.string (strNums l),rd:=[y] } else none
   | _=>none
  | some (.int .u8),.slice (some ⟨y,k,some 0⟩) m _ =>
   match H y with
   | .cells cs _ _=>if k+m≤cs.length then(bytesOf ((cs.drop k).take m)).map fun l=>{ v:=.string (strNums l),rd:=[y] } else none
   | _=>none
  | _,_=>none
 | _,_=>none
def aunsafe(P:Program)(s d:TypeId)(H:Heap)(y k:Nat):Option Res :=
 match P.underlying s,P.underlying d with
 | some (.pointer t),some .unsafePointer=>match H y,P.info? t with
  | .cells cs _ _,some j=>if j.size≠0∧k<cs.length then some { v:=.pointer (some ⟨y,k,none⟩),rd:=[y] } else none
  | _,_=>none
 | some .unsafePointer,some (.pointer u)=>match H y,P.info? u with
  | .cells cs ty true,some j=>if ty=u∧j.size≠0∧k % j.size=0∧k+j.size≤cs.length then some { v:=.pointer (some ⟨y,k,none⟩),rd:=[y] } else none
  | _,_=>none
 | _,_=>none
def aunstr (P : Program) (H : Heap) (ts : Array TypeId) (x n : Value) : Option Res :=
  match x, n, (ts[0]?).bind P.underlying with
  | .pointer (some ⟨y, k, none⟩), .int .i64 n, some (.pointer e) => match H y, P.info? e with
    | .cells cs ty true, some j => if ty = e ∧ j.size = 1 ∧ 0 < n ∧ n ≤ bigN ∧ k + n.toNat ≤ cs.length then
        (bytesOf cs).map fun l => { v := .string (strNums ((l.drop k).take n.toNat)), wr := some (y, .frz l ty), rd := [y] } else none
    | .frz l ty, some j => if ty = e ∧ j.size = 1 ∧ 0 < n ∧ n ≤ bigN ∧ k + n.toNat ≤ l.length then
        some { v := .string (strNums ((l.drop k).take n.toNat)), wr := some (y, .frz l ty), rd := [y] } else none
    | _, _ => none
  | _, _, _ => none
def aggK(P:Program)(kt:TypeId):Bool:=P.keyTypeAt 8 kt && P.tiled 8 kt && (match P.underlying kt with|some (.array _ _)|some (.struct _)=>true|_=>false)
def baseK(P:Program)(kt:TypeId):Bool:=match P.underlying kt with|some (.int _)|some .string=>true|_=>false
def wideK(P:Program)(kt:TypeId):Bool:=aggK P kt || baseK P kt
def veq1:Value→Value→Bool
 | .int j a,.int k b=>j == k && a == b
 | .bool a,.bool b=>a == b
 | .string a,.string b=>a.data == b.data
 | _,_=>false
def veqs:List Value→List Value→Bool
 | [],[]=>true
 | a::l,b::k=>veq1 a b && veqs l k
 | _,_=>false
def veq:Value→Value→Bool
 | .agg a,.agg b=>veqs a.toList b.toList
 | a,b=>veq1 a b
def afind(P:Program)(kt:TypeId)(k:Value)(es:List MapEntry):Option (Option Nat) :=
 if wideK P kt=true∧flat k=true∧(keyOf P kt k).isSome=true then some (es.findIdx? fun e=>veq e.key k) else none
def alookup(P:Program)(t:TypeId)(H:Heap)(x k:Value)(ok:Bool):Option Res :=
 match P.underlying t,x with
 | some (.map kt et),.map (some y)=>match H y with
  | .map es _ kt'=>if kt'=kt then match afind P kt k es with
   | some (some i)=>match es[i]? with
    | some e=>some { v:=if ok then .tuple #[e.val,.bool true] else e.val,rd:=[y] }
    | none=>none
   | some none=>match(P.info? et).bind (·.zero)with
    | some z=>if still z=true then some { v:=if ok then .tuple #[z,.bool false] else z,rd:=[y] } else none
    | none=>none
   | none=>none
   else none
  | _=>none
 | _,_=>none
def amapset(P:Program)(t:TypeId)(H:Heap)(m k v:Value):Option Res :=
 match P.underlying t,m with
 | some (.map kt _),.map (some y)=>match H y with
  | .map es clock kt'=>if kt'=kt then match afind P kt k es with
   | some (some i)=>some { v:=undef,wr:=some (y,.map (es.modify i fun e=>{ e with val:=v }) clock kt) }
   | some none=>some { v:=undef,wr:=some (y,.map (es++[⟨k,v,clock⟩]) (clock+1) kt) }
   | none=>none
   else none
  | _=>none
 | _,_=>none
def isF:Value→Bool
 | .float .f64 _=>true
 | .complex .f64 0 0=>true
 | _=>false
def fop(op:BinOp)(x y:Nat):Option (Option Nat) :=
 match op with
 | .add=>some (Ieee.double.add x y)
 | .sub=>some (Ieee.double.sub x y)
 | .mul=>some (Ieee.double.mul x y)
 | .quo=>some (Ieee.double.div x y)
 | _=>none
def anan(P:Program)(op:BinOp)(t:TypeId)(x y:Value):Option Value :=
 match P.underlying t with
 | some (.float .f64) =>
  match x,y with
  | .float .f64 a,.float .f64 b=>match fop op a b with
   | some none=>some nanV
   | _=>none
  | x,y=>if isF x && isF y && (fop op 0 0).isSome then some nanV else none
 | _=>none
def opFlat(ρ:Operand→Value)(o:Oper):Bool:=o.op.operands.all fun x=>flat (ρ x)
def asnil(P:Program)(ρ:Operand→Value)(o:Op):Option Res:=match o with
 | .binOp op t x (.const (.slice none 0 0)) _=>match P.underlying t,ρ x with
  | some (.slice _),.slice (some ⟨_,_,_⟩) _ _=>match op with
   | .eql=>some { v:=.bool false }
   | .neq=>some { v:=.bool true }
   | _=>none
  | some (.slice _),.slice none 0 0=>match op with
   | .eql=>some { v:=.bool true }
   | .neq=>some { v:=.bool false }
   | _=>none
  | _,_=>none
 | _=>none
def aflat(P:Program)(ρ:Operand→Value)(o:Oper):Option Res :=
 if opFlat ρ o then
  match pureRun P (execOp ρ o)with
  | some (.value v)=>if flat v then some { v:=v } else none
  | _=>none
 else asnil P ρ o.op
def indexB(s:ByteArray)(c:Int):Int:=match(List.range s.size).find? fun i=>s[i]! == UInt8.ofNat c.toNat with
 | some i=>(i:Int)
 | none=>-1
def aclear(P:Program)(H:Heap)(ts:Array TypeId)(x:Value):Option Res :=
 match ts[0]?,x with
 | some t,.slice (some ⟨y,k,none⟩) (m+1) _ =>
  match P.underlying t,H y with
  | some (.slice elem),.cells cs ty true =>
   match P.info? elem,zeroCellsOf P elem with
   | some j,some zs=>if zs.length=j.size∧k+(rep (m+1) zs).length≤cs.length then some { v:=.tuple #[],wr:=some (y,.cells (splice cs k (rep (m+1) zs)) ty true) } else none
   | _,_=>none
  | _,_=>none
 | _,_=>none
def aext(P:Program)(g:FuncId)(args:List Value):Option Value :=
 match P.funcs[g]? with
 | some fn =>
  if fn.body.isNone && fn.origin == "" then
   match args with
   | [.float .f64 b] => if fn.name == "math.Float64bits" || fn.name == "internal/strconv.float64bits" then some (.int .u64 b) else none
   | [.int .u64 b] => if fn.name == "math.Float64frombits" then some (.float .f64 b.toNat) else none
   | [.pointer (some ⟨y, k, none⟩)] => if fn.name == "internal/abi.NoEscape" then some (.pointer (some ⟨y, k, none⟩)) else none
   | [.string s, .int .u8 c] => if fn.name == "internal/bytealg.IndexByteString" then some (.int .i64 (indexB s c)) else none
   | _=>none
  else none
 | none=>none
def ok(v:Option Value):Option Res:=v.map fun v=>{ v:=v }
def aop(P:Program)(ρ:Operand→Value)(n:Nat)(H:Heap)(o:Oper):Option Res :=
 match o.op with
 | .move x|.assign x=>some { v:=ρ x }
 | .pick c a b=>match ρ c with
  | .bool t=>some { v:=cond t (ρ a) (ρ b) }
  | _=>none
 | .alloc t=>aalloc P n t
 | .box t x=>abox n t (ρ x)
 | .build t ps=>ok (abuild P t (ps.toList.map fun(i,x)=>(i,ρ x)))
 | .buildSlice t len ps=>abuildSlice P n t len (ps.toList.map fun(i,x)=>(i,ρ x))
 | .load t a=>aload P t H (ρ a)
 | .store t a x=>astore P t H (ρ a) (ρ x)
 | .nilCheck x=>match ρ x with
  | .pointer (some a)=>some { v:=.pointer (some a) }
  | .func (.func g) a b=>some { v:=.func (.func g) a b }
  | _=>none
 | .binOp op t x y _=>match aeqNil P t (ρ x) (ρ y)with
  | some b=>match op with
   | .eql=>some { v:=.bool b }
   | .neq=>some { v:=.bool (!b) }
   | _=>none
  | none=>match anan P op t (ρ x) (ρ y)with
   | some v=>some { v:=v }
   | none=>aflat P ρ o
 | .makeFunc (.func g) first captured=>some { v:=.func (.func g) (first.toList.map ρ).toArray (captured.toList.map ρ).toArray }
 | .makeSlice t l c=>amakeSlice P n t (ρ l) (ρ c)
 | .slice t x lo hi none=>match ρ x with
  | .slice a b c=>aslice P H t (.slice a b c) (lo.map ρ) (hi.map ρ)
  | .pointer a=>aslice P H t (.pointer a) (lo.map ρ) (hi.map ρ)
  | _=>aflat P ρ o
 | .fieldAddr t x i=>ok (afieldAddr P t (ρ x) i)
 | .field t x i=>ok (afield P t (ρ x) i)
 | .indexAddr t x i=>ok (aindexAddr P t (ρ x) (ρ i))
 | .index t x i=>match ρ x with
  | .agg cs=>ok (aindex P t (.agg cs) (ρ i))
  | _=>aflat P ρ o
 | .extract x i=>match ρ x with
  | .tuple vs=>ok (vs.toList[i]?)
  | _=>none
 | .call { callee:=.builtin .len,args,argTypes }=>match args.toList with
  | [x]=>alen P H argTypes (ρ x)
  | _=>none
 | .call { callee:=.builtin .append,args,argTypes }=>match args.toList with
  | [s,x]=>match growT P argTypes with
   | false=>aappend P n H argTypes (ρ s) (ρ x)
   | true=>agrow P n H argTypes (ρ s) (ρ x)
  | _=>none
 | .call { callee:=.builtin .clear,args,argTypes }=>match args.toList with
  | [x]=>aclear P H argTypes (ρ x)
  | _=>none
 | .call { callee:=.builtin .unsafeSliceData,args,.. }=>match args.toList with
  | [x]=>match ρ x with
   | .slice (some ⟨y,k,none⟩) (_+1) _=>some { v:=.pointer (some ⟨y,k,none⟩) }
   | _=>none
  | _=>none
 | .call { callee:=.builtin .unsafeString,args,argTypes }=>match args.toList with
  | [x,n]=>aunstr P H argTypes (ρ x) (ρ n)
  | _=>none
 | .call { callee:=.value g,args,.. }=>match ρ g with
  | .func (.func g) first captured=>if first.isEmpty && captured.isEmpty then ok (aext P g (args.toList.map ρ)) else none
  | _=>none
 | .call { callee:=.invoke ..,.. }=>none
 | .convert s d x=>match ρ x with
  | .slice a b c=>astring P s d H (.slice a b c)
  | .pointer (some ⟨y,k,none⟩)=>aunsafe P s d H y k
  | _=>aflat P ρ o
 | .lookup t x k ok=>alookup P t H (ρ x) (ρ k) ok
 | .mapUpdate t m k x|.insert t m k x=>amapset P t H (ρ m) (ρ k) (ρ x)
 | .makeMap t none=>match P.underlying t with
  | some (.map kt _)=>some { v:=.map (some n),news:=[.map [] 0 kt] }
  | _=>none
 | .unOp ..|.call { callee:=.builtin .min,.. }|.call { callee:=.builtin .max,.. }=>aflat P ρ o
 | _=>none
def acallee(ρ:Operand→Value)(o:Oper):Option (FuncId × List Value) :=
 match o.op with
 | .call { callee:=.value g,args,.. }=>match ρ g with
  | .func (.func g) first captured=>some (g,first.toList++args.toList.map ρ++captured.toList)
  | _=>none
 | _=>none
end Go.AM
namespace Go.AM
open Go.RowKit
structure Tgt where
 block:Nat
 off:Nat
 own:Bool
 esz:Nat
 bsize:Nat
abbrev Inj:=Nat→Option Tgt
def Inj.le(ι κ:Inj):Prop:=∀x t,ι x=some t→κ x=some t
theorem Inj.le_refl(ι:Inj):Inj.le ι ι:=fun _ _ h=>h
theorem Inj.le_trans{a b c:Inj}(h:Inj.le a b)(k:Inj.le b c):Inj.le a c:=fun x t e=>k x t (h x t e)
inductive VR (ι : Inj) : Value → Value → Prop where
  | bool (b : Bool) : VR ι (.bool b) (.bool b)
  | int (k : IntKind) (n : Int) : VR ι (.int k n) (.int k n)
  | float (k : FloatKind) (b : Nat) : VR ι (.float k b) (.float k b)
  | string (s : ByteArray) : VR ι (.string s) (.string s)
  | nilFunc : VR ι .nilFunc .nilFunc
  | nilIface : VR ι .nilIface .nilIface
  | ptrNil : VR ι (.pointer none) (.pointer none)
  | ptr (x k : Nat) (t : Tgt) (h : ι x = some t) : VR ι (.pointer (some ⟨x, k, none⟩)) (.pointer (some ⟨t.block, t.off + k, none⟩))
  | sliceNil : VR ι (.slice none 0 0) (.slice none 0 0)
  | sliceE (x k : Nat) (a : Addr) (t : Tgt) (h : ι x = some t) (hown : t.own = false) : VR ι (.slice (some ⟨x, k, none⟩) 0 0) (.slice (some a) 0 0)
  | slice (x k m o c : Nat) (t : Tgt) (h : ι x = some t) (ho : m ≠ 0 → o = t.off + k) (hc : m ≤ c) (hm : c ≤ maxLen) (hown : t.own = true → o + c * t.esz ≤ t.bsize ∧ o % t.esz = 0) :
      VR ι (.slice (some ⟨x, k, none⟩) m m) (.slice (some ⟨t.block, o, none⟩) m c)
  | sliceA (x k m o c : Nat) (t : Tgt) (h : ι x = some t) (ho : m ≠ 0 → o = t.off + k) (hc : m ≤ c) (hm : c ≤ maxLen) : VR ι (.slice (some ⟨x, k, some 0⟩) m m) (.slice (some ⟨t.block, o, none⟩) m c)
  | nan (b : Nat) (h : isNaNw b) : VR ι nanV (.float .f64 b)
  | mapNil : VR ι (.map none) (.map none)
  | map (x : Nat) (t : Tgt) (h : ι x = some t) : VR ι (.map (some x)) (.map (some t.block))
  | func (g : FuncId) (a b a' b' : Array Value) (ha : a.size = a'.size) (hb : b.size = b'.size)
      (hra : ∀ (i : Nat) (v v' : Value), a[i]? = some v → a'[i]? = some v' → VR ι v v') (hrb : ∀ (i : Nat) (v v' : Value), b[i]? = some v → b'[i]? = some v' → VR ι v v') :
      VR ι (.func (.func g) a b) (.func (.func g) a' b')
  | agg (a a' : Array Value) (ha : a.size = a'.size) (hra : ∀ (i : Nat) (v v' : Value), a[i]? = some v → a'[i]? = some v' → VR ι v v') : VR ι (.agg a) (.agg a')
  | tuple (a a' : Array Value) (ha : a.size = a'.size) (hra : ∀ (i : Nat) (v v' : Value), a[i]? = some v → a'[i]? = some v' → VR ι v v') : VR ι (.tuple a) (.tuple a')
def VRs(ι:Inj)(l l':List Value):Prop:=l.length=l'.length∧∀(i:Nat) (v v':Value),l[i]? = some v→l'[i]? = some v'→VR ι v v'
theorem VR.mono{ι κ:Inj}(h:Inj.le ι κ){v v':Value}(r:VR ι v v'):VR κ v v':=by
 induction r with
 | bool b=>exact .bool b
 | int k n=>exact .int k n
 | float k b=>exact .float k b
 | string s=>exact .string s
 | nilFunc=>exact .nilFunc
 | nilIface=>exact .nilIface
 | ptrNil=>exact .ptrNil
 | ptr x k t e=>exact .ptr x k t (h x t e)
 | sliceNil=>exact .sliceNil
 | sliceE x k a t e ho=>exact .sliceE x k a t (h x t e) ho
 | slice x k m o c t e ho hc hm hown=>exact .slice x k m o c t (h x t e) ho hc hm hown
 | sliceA x k m o c t e ho hc hm=>exact .sliceA x k m o c t (h x t e) ho hc hm
 | nan b h=>exact .nan b h
 | mapNil=>exact .mapNil
 | map x t e=>exact .map x t (h x t e)
 | func g a b a' b' ha hb _ _ iha ihb=>exact .func g a b a' b' ha hb iha ihb
 | agg a a' ha _ iha=>exact .agg a a' ha iha
 | tuple a a' ha _ iha=>exact .tuple a a' ha iha
theorem VRs.mono{ι κ:Inj}(h:Inj.le ι κ){l l':List Value}(r:VRs ι l l'):VRs κ l l':=⟨r.1,fun i v v' e e'=>(r.2 i v v' e e').mono h⟩
theorem VRs.nil(ι:Inj):VRs ι [] []:=⟨rfl,fun i v v' e=>by simp at e⟩
theorem VRs.cons{ι:Inj}{v v':Value}{l l':List Value}(r:VR ι v v')(h:VRs ι l l'):VRs ι (v::l) (v'::l'):=by
 refine⟨by simp[h.1],fun i u u' e e'=>?_⟩
 cases i with
 | zero=>simp at e e';subst e;subst e';exact r
 | succ i=>simp at e e';exact h.2 i u u' e e'
theorem VRs.cons_inv{ι:Inj}{v:Value}{l l':List Value}(h:VRs ι (v::l) l'):∃v' k,l'=v'::k∧VR ι v v'∧VRs ι l k:=by
 cases l' with
 | nil=>simp[VRs]at h
 | cons v' k =>
  refine⟨v',k,rfl,h.2 0 v v' (by simp) (by simp),by have:=h.1;simp at this;exact this,fun i u u' e e'=>h.2 (i+1) u u' (by simpa using e) (by simpa using e')⟩
theorem VRs.nil_inv{ι:Inj}{l':List Value}(h:VRs ι [] l'):l'=[]:=by
 cases l' with
 | nil=>rfl
 | cons=>simp[VRs]at h
theorem VRs.append{ι:Inj}{a a' b b':List Value}(h:VRs ι a a')(k:VRs ι b b'):VRs ι (a++b) (a'++b'):=by
 induction a generalizing a' with
 | nil=>rw[h.nil_inv];exact k
 | cons v a ih =>
  obtain⟨v',c,rfl,r,t⟩:=h.cons_inv
  exact .cons r (ih t)
theorem VRs.get{ι:Inj}{l l':List Value}(h:VRs ι l l'){i:Nat}{v:Value}(e:l[i]? = some v):∃v',l'[i]? = some v'∧VR ι v v':=by
 have hi:i<l.length:=by
  rcases Nat.lt_or_ge i l.length with g|g
  ·exact g
  ·rw[List.getElem?_eq_none g]at e;cases e
 have hi':i<l'.length:=h.1 ▸ hi
 exact⟨l'[i],List.getElem?_eq_getElem hi',h.2 i v _ e (List.getElem?_eq_getElem hi')⟩
theorem VRs.take{ι:Inj}{l l':List Value}(h:VRs ι l l')(n:Nat):VRs ι (l.take n) (l'.take n):=by
 refine⟨by simp[h.1],fun i v v' e e'=>?_⟩
 rw[List.getElem?_take]at e e'
 split at e
 ·rename_i hi;simp only[hi,if_true]at e';exact h.2 i v v' e e'
 ·cases e
theorem VRs.drop{ι:Inj}{l l':List Value}(h:VRs ι l l')(n:Nat):VRs ι (l.drop n) (l'.drop n):=by
 refine⟨by simp[h.1],fun i v v' e e'=>?_⟩
 rw[List.getElem?_drop]at e e'
 exact h.2 _ v v' e e'
theorem VRs.set{ι:Inj}{l l':List Value}(h:VRs ι l l')(n:Nat){u u':Value}(r:VR ι u u'):VRs ι (l.set n u) (l'.set n u'):=by
 refine⟨by simp[h.1],fun i v v' e e'=>?_⟩
 rw[List.getElem?_set]at e e'
 by_cases hn:n=i
 ·subst hn
  simp only[if_true]at e e'
  by_cases hl:n<l.length
  ·have hl':n<l'.length:=h.1 ▸ hl
   simp only[hl,hl',if_true,Option.some.injEq]at e e'
   subst e;subst e';exact r
  ·simp only[hl,if_false]at e;cases e
 ·simp only[hn,if_false]at e e';exact h.2 i v v' e e'
theorem VRs.splice{ι:Inj}{vs vs':List Value}:∀{l l':List Value} (k:Nat),VRs ι l l'→VRs ι vs vs'→VRs ι (splice l k vs) (AM.splice l' k vs'):=by
 induction vs generalizing vs' with
 | nil=>intro l l' k h hv;rw[hv.nil_inv];exact h
 | cons v vs ih =>
  intro l l' k h hv
  obtain⟨v',c,rfl,r,t⟩:=hv.cons_inv
  exact ih (k+1) (h.set k r) t
theorem VRs.of_arrays{ι:Inj}{a a':Array Value}(ha:a.size=a'.size)(hra:∀(i:Nat) (v v':Value),a[i]? = some v→a'[i]? = some v'→VR ι v v'):VRs ι a.toList a'.toList :=
 ⟨by simpa using ha,fun i v v' e e'=>hra i v v' (by simpa using e) (by simpa using e')⟩
theorem VRs.agg{ι:Inj}{l l':List Value}(h:VRs ι l l'):VR ι (.agg l.toArray) (.agg l'.toArray) :=
 .agg _ _ (by simpa using h.1) fun i v v' e e'=>h.2 i v v' (by simpa using e) (by simpa using e')
theorem VRs.tuple{ι:Inj}{l l':List Value}(h:VRs ι l l'):VR ι (.tuple l.toArray) (.tuple l'.toArray) :=
 .tuple _ _ (by simpa using h.1) fun i v v' e e'=>h.2 i v v' (by simpa using e) (by simpa using e')
theorem VR.cells{ι:Inj}{v v':Value}(r:VR ι v v'):VRs ι (vcells v) v'.cells.toList:=by
 cases r with
 | agg a a' ha hra=>exact VRs.of_arrays ha hra
 | ptr x k t e=>exact .cons (.ptr x k t e) (.nil ι)
 | slice x k m o c t e ho hc hm hown=>exact .cons (.slice x k m o c t e ho hc hm hown) (.nil ι)
 | sliceA x k m o c t e ho hc hm=>exact .cons (.sliceA x k m o c t e ho hc hm) (.nil ι)
 | nan b h=>exact .cons (.nan b h) (.nil ι)
 | map x t e=>exact .cons (.map x t e) (.nil ι)
 | func g a b a' b' ha hb hra hrb=>exact .cons (.func g a b a' b' ha hb hra hrb) (.nil ι)
 | tuple a a' ha hra=>exact .cons (.tuple a a' ha hra) (.nil ι)
 | bool b=>exact .cons (.bool b) (.nil ι)
 | int k n=>exact .cons (.int k n) (.nil ι)
 | float k b=>exact .cons (.float k b) (.nil ι)
 | string s=>exact .cons (.string s) (.nil ι)
 | nilFunc=>exact .cons .nilFunc (.nil ι)
 | nilIface=>exact .cons .nilIface (.nil ι)
 | ptrNil=>exact .cons .ptrNil (.nil ι)
 | sliceNil=>exact .cons .sliceNil (.nil ι)
 | sliceE x k a t e ho=>exact .cons (.sliceE x k a t e ho) (.nil ι)
 | mapNil=>exact .cons .mapNil (.nil ι)
theorem VR.one{ι:Inj}{v v':Value}(r:VR ι v v'):v'.oneCell'=AM.one v:=by cases r <;> rfl
theorem VRs.all_one{ι:Inj}{l l':List Value}(h:VRs ι l l')(h1:l.all AM.one=true):∀u∈l',u.oneCell'=true:=by
 intro u hu
 obtain⟨i,hi,rfl⟩:=List.getElem_of_mem hu
 have hi':i<l.length:=h.1 ▸ hi
 have r:=h.2 i l[i] l'[i] (List.getElem?_eq_getElem hi') (List.getElem?_eq_getElem hi)
 rw[r.one]
 exact List.all_eq_true.1 h1 _ (List.getElem_mem hi')
theorem flat1_eq{ι:Inj}{v v':Value}(h:flat1 v=true)(r:VR ι v v'):v'=v:=by
 cases r <;> first|rfl|(simp[flat1,nanV]at h)
theorem flat1_refl(ι:Inj){v:Value}(h:flat1 v=true):VR ι v v:=by
 cases v with
 | bool b=>exact .bool b
 | int k n=>exact .int k n
 | float k b=>exact .float k b
 | string s=>exact .string s
 | nilFunc=>exact .nilFunc
 | nilIface=>exact .nilIface
 | pointer a=>cases a with|none=>exact .ptrNil|some a=>simp[flat1]at h
 | map a=>cases a with|none=>exact .mapNil|some a=>simp[flat1]at h
 | _=>simp[flat1]at h
theorem all_flat1_eq{ι:Inj}{l l':List Value}(h:l.all flat1=true)(r:VRs ι l l'):l'=l:=by
 induction l generalizing l' with
 | nil=>exact r.nil_inv
 | cons v l ih =>
  obtain⟨v',k,rfl,r1,r2⟩:=r.cons_inv
  simp only[List.all_cons,Bool.and_eq_true]at h
  rw[flat1_eq h.1 r1,ih h.2 r2]
theorem all_flat1_refl(ι:Inj){l:List Value}(h:l.all flat1=true):VRs ι l l:=by
 induction l with
 | nil=>exact .nil ι
 | cons v l ih=>simp only[List.all_cons,Bool.and_eq_true]at h;exact .cons (flat1_refl ι h.1) (ih h.2)
theorem flat_eq{ι:Inj}{v v':Value}(h:flat v=true)(r:VR ι v v'):v'=v:=by
 cases r with
 | agg a a' ha hra =>
  have:=all_flat1_eq (ι:=ι) (l:=a.toList) (l':=a'.toList) h (VRs.of_arrays ha hra)
  rw[Array.toList_inj.1 this]
 | tuple a a' ha hra =>
  have:=all_flat1_eq (ι:=ι) (l:=a.toList) (l':=a'.toList) h (VRs.of_arrays ha hra)
  rw[Array.toList_inj.1 this]
 | _=>first|rfl|(simp[flat,flat1,nanV]at h)
theorem flat_refl(ι:Inj){v:Value}(h:flat v=true):VR ι v v:=by
 cases v with
 | agg a=>have:=(all_flat1_refl ι (l:=a.toList) h).agg;simpa using this
 | tuple a=>have:=(all_flat1_refl ι (l:=a.toList) h).tuple;simpa using this
 | bool b=>exact .bool b
 | int k n=>exact .int k n
 | float k b=>exact .float k b
 | string s=>exact .string s
 | nilFunc=>exact .nilFunc
 | nilIface=>exact .nilIface
 | pointer a=>cases a with|none=>exact .ptrNil|some a=>simp[flat,flat1]at h
 | map a=>cases a with|none=>exact .mapNil|some a=>simp[flat,flat1]at h
 | _=>simp[flat,flat1]at h
theorem still1_refl(ι:Inj){v:Value}(h:still1 v=true):VR ι v v:=by
 unfold still1 at h
 split at h
 ·exact .sliceNil
 ·exact flat1_refl ι h
theorem all_still1_refl(ι:Inj){l:List Value}(h:l.all still1=true):VRs ι l l:=by
 induction l with
 | nil=>exact .nil ι
 | cons v l ih=>simp only[List.all_cons,Bool.and_eq_true]at h;exact .cons (still1_refl ι h.1) (ih h.2)
theorem still_refl(ι:Inj){v:Value}(h:still v=true):VR ι v v:=by
 cases v with
 | agg a=>have:=(all_still1_refl ι (l:=a.toList) h).agg;simpa using this
 | tuple a=>have:=(all_still1_refl ι (l:=a.toList) h).tuple;simpa using this
 | _=>exact still1_refl ι h
theorem undef_refl(ι:Inj):VR ι undef undef:=flat_refl ι rfl
def ObjOK (P : Program) (ι : Inj) (w : World) (x : Nat) : AObj → Prop
  | .dead => True
  | .cells cs ty own => ∃ t, ι x = some t ∧ t.own = own ∧
      (∀ (i : Nat) (v : Value), cs[i]? = some v → ∃ v', w.cell? ⟨t.block, t.off + i, none⟩ = some v' ∧ VR ι v v' ∧ one v = true) ∧
      (own = true → t.esz = P.cellsOf ty ∧ (t.off + cs.length ≤ t.bsize ∧ t.off % t.esz = 0) ∧ ∃ cur, w.heap[t.block]? = some (.cells cur ty (0, 0)) ∧ cur.size = t.bsize)
  | .map es clock kt => ∃ t es', ι x = some t ∧ t.own = true ∧ w.heap[t.block]? = some (.map es' clock) ∧
      VRs ι (es.map (·.key)) (es'.toList.map (·.key)) ∧ VRs ι (es.map (·.val)) (es'.toList.map (·.val)) ∧ es.map (·.born) = es'.toList.map (·.born) ∧ es.all (fun e => flat e.key) = true ∧ (∀ e ∈ es, (keyOf P kt e.key).isSome = true) ∧ (es.map (·.key)).Nodup
  | .rows cs ty _ => ∃ t, ι x = some t ∧ t.own = true ∧
      (∀ (i : Nat) (v : Value), cs[i]? = some v → ∃ v', w.cell? ⟨t.block, t.off + i, none⟩ = some v' ∧ VR ι v v' ∧ one v = true) ∧
      (t.esz = P.cellsOf ty ∧ (t.off + cs.length ≤ t.bsize ∧ t.off % t.esz = 0) ∧ ∃ cur, w.heap[t.block]? = some (.cells cur ty (0, 0)) ∧ cur.size = t.bsize)
  | .frz xs ty => ∃ t, ι x = some t ∧ t.own = true ∧ (∀ (i : Nat) (z : Int), xs[i]? = some z → w.cell? ⟨t.block, t.off + i, none⟩ = some (.int .u8 z)) ∧
      t.off + xs.length ≤ t.bsize ∧ ∃ cur fr, w.heap[t.block]? = some (.cells cur ty fr) ∧ cur.size = t.bsize
  | .iter m since seen last => ∃ t u, ι x = some t ∧ t.own = true ∧ t.off = 0 ∧ ι m = some u ∧ w.heap[t.block]? = some (.mapIter (some u.block) since seen.toArray last)
def isRows:AObj→Prop
 | .rows ..=>True
 | _=>False
structure HR(P:Program)(base:Nat)(ι:Inj)(C:Heap)(w:World):Prop where
 obj:∀x,ObjOK P ι w x (C x)
 inj:∀x y t u,C x≠.dead→C y≠.dead→ι x=some t→ι y=some u→t.own=true→t.block=u.block→x=y∨(isRows (C x)∧isRows (C y))
 rng:∀x t,ι x=some t→t.block<w.heap.size∧(t.own=true→base≤t.block)∧(t.own=false→t.block<base)
 size:base≤w.heap.size
 gl:∀g,g<ngl P→ι g=some ⟨g,0,false,0,0⟩
 last:∀x y t u cs ty b ds ty',C x=.rows cs ty b→C y=.rows ds ty' true→ι x=some t→ι y=some u→t.block=u.block→x=y∨(b=false∧t.off+cs.length≤u.off+ds.length)
theorem ObjOK.tgt{P:Program}{ι:Inj}{w:World}{x:Nat}{o:AObj}(h:ObjOK P ι w x o)(hd:o≠.dead):∃t,ι x=some t:=by
 cases o with
 | dead=>exact absurd rfl hd
 | cells cs ty own=>obtain⟨t,h,_⟩:=h;exact⟨t,h⟩
 | map es clock kt=>obtain⟨t,_,h,_⟩:=h;exact⟨t,h⟩
 | rows cs ty b=>obtain⟨t,h,_⟩:=h;exact⟨t,h⟩
 | frz xs ty=>obtain⟨t,h,_⟩:=h;exact⟨t,h⟩
 | iter m since seen last=>obtain⟨t,_,h,_⟩:=h;exact⟨t,h⟩
theorem ObjOK.carry{P:Program}{ι κ:Inj}{w w':World}{x:Nat}{o:AObj}(h:ObjOK P ι w x o)(hle:Inj.le ι κ)
  (hb:∀t,ι x=some t→w'.heap[t.block]? = w.heap[t.block]?):ObjOK P κ w' x o:=by
 cases o with
 | dead=>trivial
 | cells cs ty own =>
  obtain⟨t,ht,ho,hc,hw⟩:=h
  have hb':=hb t ht
  refine⟨t,hle x t ht,ho,fun i v e=>?_,fun e=>?_⟩
  ·obtain⟨v',h1,h2,h3⟩:=hc i v e
   exact⟨v',by rw[World.cell?_of_block (w:=w) hb'];exact h1,h2.mono hle,h3⟩
  ·obtain⟨a,b,cur,c,d⟩:=hw e
   exact⟨a,b,cur,by rw[hb'];exact c,d⟩
 | map es clock kt =>
  obtain⟨t,es',ht,ho,hw,hk,hv,r⟩:=h
  exact⟨t,es',hle x t ht,ho,by rw[hb t ht];exact hw,hk.mono hle,hv.mono hle,r⟩
 | rows cs ty bb =>
  obtain⟨t,ht,ho,hc,a,b,cur,c,d⟩:=h
  have hb':=hb t ht
  refine⟨t,hle x t ht,ho,fun i v e=>?_,a,b,cur,by rw[hb'];exact c,d⟩
  obtain⟨v',h1,h2,h3⟩:=hc i v e
  exact⟨v',by rw[World.cell?_of_block (w:=w) hb'];exact h1,h2.mono hle,h3⟩
 | frz xs ty =>
  obtain⟨t,ht,ho,hc,hb1,cur,fr,hcur,hsz⟩:=h
  have hb':=hb t ht
  exact⟨t,hle x t ht,ho,fun i z e=>by rw[World.cell?_of_block (w:=w) hb'];exact hc i z e,hb1,cur,fr,by rw[hb'];exact hcur,hsz⟩
 | iter m since seen last =>
  obtain⟨t,u,ht,ho,h0,hu,hw⟩:=h
  exact⟨t,u,hle x t ht,ho,h0,hle m u hu,by rw[hb t ht];exact hw⟩
noncomputable def patch(C H H':Heap):Heap:=fun x=>open Classical in if H' x=H x then C x else H' x
theorem patch_eq{C H H':Heap}{x:Nat}(h:H' x=H x):patch C H H' x=C x:=by unfold patch;rw[if_pos h]
theorem patch_ne{C H H':Heap}{x:Nat}(h:H' x≠H x):patch C H H' x=H' x:=by unfold patch;rw[if_neg h]
theorem patch_same(C H:Heap):patch C H H=C:=by funext x;exact patch_eq rfl
def iset(ι:Inj)(n:Nat)(t:Tgt):Inj:=fun x=>if x=n then some t else ι x
theorem iset_le{ι:Inj}{n:Nat}(t:Tgt)(h:ι n=none):Inj.le ι (iset ι n t):=fun x u e=>by
 unfold iset;split
 ·rename_i hx;subst hx;rw[h]at e;cases e
 ·exact e
theorem iset_same(ι:Inj)(n:Nat)(t:Tgt):iset ι n t n=some t:=by simp[iset]
theorem iset_other(ι:Inj){n x:Nat}(t:Tgt)(h:x≠n):iset ι n t x=ι x:=by simp[iset,h]
theorem hset_same(H:Heap)(x:Nat)(o:AObj):hset H x o x=o:=by rw[hset_apply,if_pos rfl]
theorem hset_other(H:Heap){x y:Nat}(o:AObj)(h:y≠x):hset H x o y=H y:=by rw[hset_apply,if_neg h]
theorem patch_set{C H:Heap}{x:Nat}{o:AObj}(h:C x=H x∨o≠H x):patch C H (hset H x o)=hset C x o:=by
 funext y
 by_cases hy:y=x
 ·subst hy
  rw[hset_same]
  by_cases e:o=H y
  ·rw[patch_eq (by rw[hset_same];exact e),e]
   rcases h with h|h
   ·exact h
   ·exact absurd e h
  ·rw[patch_ne (by rw[hset_same];exact e),hset_same]
 ·rw[hset_other _ _ hy,patch_eq (hset_other _ _ hy)]
theorem patch_set2{C H:Heap}{x n:Nat}{o u:AObj}(hxn:x≠n)(h:C x=H x∨o≠H x)(k:u≠H n):patch C H (hset (hset H x o) n u)=hset (hset C x o) n u:=by
 funext y
 by_cases hn:y=n
 ·subst hn
  rw[hset_same,patch_ne (by rw[hset_same];exact k),hset_same]
 ·rw[hset_other _ _ hn]
  by_cases hy:y=x
  ·subst hy
   rw[hset_same]
   by_cases e:o=H y
   ·rw[patch_eq (by rw[hset_other _ _ hn,hset_same];exact e),e]
    rcases h with h|h
    ·exact h
    ·exact absurd e h
   ·rw[patch_ne (by rw[hset_other _ _ hn,hset_same];exact e),hset_other _ _ hn,hset_same]
  ·rw[hset_other _ _ hy,patch_eq (by rw[hset_other _ _ hn,hset_other _ _ hy])]
section
variable {P:Program} {base:Nat} {ι:Inj} {C:Heap} {w:World}
theorem HR.same(h:HR P base ι C w){w':World}(hb:w'.heap=w.heap):HR P base ι C w' :=
 ⟨fun x=>(h.obj x).carry (Inj.le_refl ι) fun t _=>by rw[hb],h.inj,fun x t e=>by rw[hb];exact h.rng x t e,by rw[hb];exact h.size,h.gl,h.last⟩
theorem HR.kill(h:HR P base ι C w)(x:Nat):HR P base ι (hset C x .dead) w:=by
 refine⟨fun y=>?_,fun y z t u hy hz=>?_,h.rng,h.size,h.gl,fun y z t u cs ty b ds ty' hy hz=>?_⟩
 ·rw[hset_apply];split
  ·trivial
  ·exact h.obj y
 ·rw[hset_apply]at hy hz ⊢
  rw[hset_apply]
  split at hy
  ·exact absurd rfl hy
  ·split at hz
   ·exact absurd rfl hz
   ·rename_i h1 h2
    rw[if_neg h1,if_neg h2]
    exact h.inj y z t u hy hz
 ·rw[hset_apply]at hy hz
  split at hy
  ·cases hy
  ·split at hz
   ·cases hz
   ·exact h.last y z t u cs ty b ds ty' hy hz
theorem HR.update(h:HR P base ι C w){κ:Inj}{w':World}{n:Nat}{o:AObj}{t:Tgt}(hle:Inj.le ι κ)(hκ:κ n=some t)(hother:∀x,x≠n→κ x=ι x)
  (hsz:w.heap.size≤w'.heap.size) (hblk:∀k,k<w.heap.size→k≠t.block→w'.heap[k]? = w.heap[k]?)
  (hfree:∀y u,y≠n→C y≠.dead→ι y=some u→u.block≠t.block)
  (hown:t.own=true) (hb:base≤t.block) (hlt:t.block<w'.heap.size) (ho:ObjOK P κ w' n o):HR P base κ (hset C n o) w':=by
 refine⟨fun y=>?_,fun y z u v hy hz eu ev hou hbl=>?_,fun y u e=>?_,Nat.le_trans h.size hsz,fun g hg=>hle g _ (h.gl g hg),fun y z u v cs ty b ds ty' hy hz eu ev hbl=>?_⟩
 ·rw[hset_apply];split
  ·rename_i e;subst e;exact ho
  ·rename_i hne
   by_cases hd:C y=.dead
   ·rw[hd];trivial
   ·exact(h.obj y).carry hle fun u e=>hblk _ (h.rng y u e).1 (hfree y u hne hd e)
 ·rw[hset_apply]at hy hz
  by_cases e1:y=n
  ·by_cases e2:z=n
   ·exact .inl (by rw[e1,e2])
   ·simp only[e2,if_false]at hz
    rw[e1,hκ]at eu
    cases eu
    rw[hother z e2]at ev
    exact absurd hbl.symm (hfree z v e2 hz ev)
  ·simp only[e1,if_false]at hy
   rw[hother y e1]at eu
   by_cases e2:z=n
   ·rw[e2,hκ]at ev
    cases ev
    exact absurd hbl (hfree y u e1 hy eu)
   ·simp only[e2,if_false]at hz
    rw[hother z e2]at ev
    rw[hset_other _ _ e1,hset_other _ _ e2]
    exact h.inj y z u v hy hz eu ev hou hbl
 ·by_cases e1:y=n
  ·rw[e1,hκ]at e
   cases e
   exact⟨hlt,fun _=>hb,fun k=>by rw[hown]at k;cases k⟩
  ·rw[hother y e1]at e
   obtain⟨a,b⟩:=h.rng y u e
   exact⟨Nat.lt_of_lt_of_le a hsz,b⟩
 ·by_cases e1:y=n
  ·by_cases e2:z=n
   ·exact .inl (by rw[e1,e2])
   ·rw[hset_other _ _ e2]at hz
    rw[hother z e2]at ev
    rw[e1,hκ]at eu
    cases eu
    exact absurd hbl.symm (hfree z v e2 (by rw[hz];intro e;cases e) ev)
  ·rw[hset_other _ _ e1]at hy
   rw[hother y e1]at eu
   by_cases e2:z=n
   ·rw[e2,hκ]at ev
    cases ev
    exact absurd hbl (hfree y u e1 (by rw[hy];intro e;cases e) eu)
   ·rw[hset_other _ _ e2]at hz
    rw[hother z e2]at ev
    exact h.last y z u v cs ty b ds ty' hy hz eu ev hbl
theorem HR.uniq(h:HR P base ι C w){x y:Nat}{t u:Tgt}(hx:C x≠.dead)(hr:¬isRows (C x))(hy:C y≠.dead)(ex:ι x=some t)(ey:ι y=some u)(ho:t.own=true)(hb:t.block=u.block):x=y:=by
 rcases h.inj x y t u hx hy ex ey ho hb with e|e
 ·exact e
 ·exact absurd e.1 hr
theorem HR.alloc(h:HR P base ι C w){n:Nat}(hn:ι n=none){cs:List Value}{cur:Array Value}{ty:TypeId}
  (hc:∀(i:Nat) (v:Value),cs[i]? = some v→∃v',cur[i]? = some v'∧VR ι v v'∧one v=true) (hl:cs.length≤cur.size) :
  HR P base (iset ι n ⟨w.heap.size,0,true,P.cellsOf ty,cur.size⟩) (hset C n (.cells cs ty true)) (w.alloc (.cells cur ty)):=by
 refine h.update (t:=⟨w.heap.size,0,true,P.cellsOf ty,cur.size⟩) (iset_le _ hn) (iset_same _ _ _) (fun x hx=>iset_other _ _ hx) (by simp) (fun k hk _=>Go.heap_alloc_old w _ hk) ?_ rfl h.size (by simp) ?_
 ·intro y u hy hd e
  have:=(h.rng y u e).1
  exact Nat.ne_of_lt this
 ·refine⟨_,iset_same _ _ _,rfl,fun i v e=>?_,fun _=>⟨rfl,⟨by simpa using hl,Nat.zero_mod _⟩,cur,heap_alloc_new w _,rfl⟩⟩
  obtain⟨v',h1,h2,h3⟩:=hc i v e
  refine⟨v',?_,h2.mono (iset_le _ hn),h3⟩
  rw[cell_of_row _ _ _ _ _ _ (heap_alloc_new w _)]
  simpa using h1
end
end Go.AM
namespace Go.AM
open Go.RowKit
def Good(P:Program)(base:Nat)(ι:Inj)(C H:Heap)(n:Nat)(r:Res)(w:World)(res:Result Next):Prop :=
 ∃nx w' κ v',res=.ok nx w'∧(nx=.value v'∨(nx=.skip∧v'=undef))∧VR κ r.v v'∧Inj.le ι κ∧(∀x,x≠n∨r.news=[]→κ x=ι x) ∧
  HR P base κ (patch C H (r.heap n H)) w'∧Below base w w'∧(∀x o,r.wr=some (x,o)→ι x≠none)∧(r.news≠[]→κ n≠none)
section
variable {P:Program} {base:Nat} {ι:Inj} {C H:Heap} {n:Nat} {w:World}
theorem heap_pure(v:Value)(rd:List Nat):(Res.mk v [] none rd).heap n H=H:=rfl
theorem good_value{v v':Value}{rd:List Nat}{res:Result Next}(hR:HR P base ι C w)(hr:res=.ok (.value v') w)(hv:VR ι v v') :
  Good P base ι C H n { v:=v,rd:=rd } w res :=
 ⟨_,w,ι,v',hr,.inl rfl,hv,Inj.le_refl ι,fun _ _=>rfl,by rw[heap_pure,patch_same];exact hR,Below.refl _ _,fun _ _ e=>by(cases e),fun e=>absurd rfl e⟩
theorem run_value{s:Sem Value}{v:Value}{w':World}(h:s.run P w=.ok v w'):(do pure (Next.value (←s)):Sem Next).run P w=.ok (.value v) w':=by
 simp[h]
theorem run_skip{s:Sem Unit}{w':World}(h:s.run P w=.ok () w'):(do s;pure Next.skip:Sem Next).run P w=.ok .skip w':=by
 simp[h]
theorem run_isAgg{t:TypeId}{b:Bool}(h:aggT P t=some b):(isAgg t).run P w=.ok b w:=by
 unfold aggT at h
 cases hd:P.underlying t with
 | none=>simp[hd]at h
 | some d=>cases d <;> simp[hd]at h <;> subst h <;> simp[isAgg,run_underlying hd]
theorem info_of_underlying{t:TypeId}{d:TypeDesc}(h:P.underlying t=some d):∃i,P.info? t=some i:=by
 unfold Program.underlying at h
 cases hi:P.info? t with
 | none=>simp[hi]at h
 | some i=>exact⟨i,rfl⟩
theorem info_of_agg{t:TypeId}{b:Bool}(h:aggT P t=some b):∃i,P.info? t=some i∧P.cellsOf t=i.size:=by
 unfold aggT at h
 cases hd:P.underlying t with
 | none=>simp[hd]at h
 | some d=>obtain⟨i,hi⟩:=info_of_underlying hd;exact⟨i,hi,by simp[Program.cellsOf,hi]⟩
theorem add_lit(b o i:Nat):(⟨b,o,none⟩:Addr).add i=⟨b,o+i,none⟩:=by
 unfold Addr.add;split <;> simp_all
theorem cells_list{t:Tgt}{cs:List Value}
  (hc:∀(i:Nat) (v:Value),cs[i]? = some v→∃v',w.cell? ⟨t.block,t.off+i,none⟩=some v'∧VR ι v v'∧one v=true) (k m:Nat) (hk:k+m≤cs.length) :
  ∃l:List Value,l.length=m∧VRs ι ((cs.drop k).take m) l∧∀j v,l[j]? = some v→w.cell? ((⟨t.block,t.off+k,none⟩:Addr).add j)=some v:=by
 induction m generalizing k with
 | zero=>exact⟨[],rfl,by simpa using VRs.nil ι,fun j v e=>by simp at e⟩
 | succ m ih =>
  obtain⟨l,hl,hv,hcell⟩:=ih (k+1) (by omega)
  have hk':k<cs.length:=by omega
  obtain⟨v',h1,h2,_⟩:=hc k cs[k] (List.getElem?_eq_getElem hk')
  refine⟨v'::l,by simp[hl],?_,fun j v e=>?_⟩
  ·rw[List.drop_eq_getElem_cons hk',List.take_succ_cons]
   exact .cons h2 hv
  ·cases j with
   | zero=>simp at e;subst e;rw[add_lit];exact h1
   | succ j =>
    have:=hcell j v (by simpa using e)
    rw[add_lit]at this ⊢
    rw[show t.off+k+(j+1)=t.off+(k+1)+j by omega]
    exact this
theorem one_list{t:Tgt}{cs:List Value}
  (hc:∀(i:Nat) (v:Value),cs[i]? = some v→∃v',w.cell? ⟨t.block,t.off+i,none⟩=some v'∧VR ι v v'∧one v=true):cs.all one=true:=by
 rw[List.all_eq_true]
 intro v hv
 obtain⟨i,hi,rfl⟩:=List.getElem_of_mem hv
 obtain⟨_,_,_,h⟩:=hc i _ (List.getElem?_eq_getElem hi)
 exact h
theorem all_take_drop{cs:List Value}(h:cs.all one=true)(k m:Nat):((cs.drop k).take m).all one=true:=by
 rw[List.all_eq_true]at *
 exact fun x hx=>h x (List.mem_of_mem_drop (List.mem_of_mem_take hx))
theorem load_run (hR : HR P base ι C w) {t : TypeId} {a a' : Value} {r : Res} (h : aload P t H a = some r) (ha : VR ι a a') (hrd : ∀ x ∈ r.rd, ι x ≠ none → C x = H x) :
    ∃ v' ad, a' = .pointer (some ad) ∧ (loadVar t ad).run P w = .ok v' w ∧ VR ι r.v v' ∧ r = { v := r.v, rd := r.rd } := by
  unfold aload at h
  split at h
  case h_2 => cases h
  rename_i x k
  split at h
  · rename_i cs ty own hx
    have key : ∀ r' : Res, r'.rd = [x] → (∀ y ∈ r'.rd, ι y ≠ none → C y = H y) → ∃ t', ι x = some t' ∧ a' = .pointer (some ⟨t'.block, t'.off + k, none⟩) ∧
        ∀ (i : Nat) (v : Value), cs[i]? = some v → ∃ v', w.cell? ⟨t'.block, t'.off + i, none⟩ = some v' ∧ VR ι v v' ∧ one v = true := by
      intro r' hr hrd
      cases ha with
      | ptr _ _ t' ht =>
        have hC := hrd x (by simp [hr]) (by simp [ht])
        have ho := hR.obj x
        rw [hC, hx] at ho
        obtain ⟨t2, h2, _, hc, _⟩ := ho
        rw [ht] at h2
        cases h2
        exact ⟨t', ht, rfl, hc⟩
    split at h
    · rename_i hagg
      split at h
      case isFalse => cases h
      rename_i hk
      cases h
      obtain ⟨t', ht, rfl, hc⟩ := key _ rfl hrd
      obtain ⟨i, hi, hsz⟩ := info_of_agg hagg
      obtain ⟨l, hl, hv, hcell⟩ := cells_list hc k (P.cellsOf t) hk
      have hrun := run_loadCells_list (P := P) w ⟨t'.block, t'.off + k, none⟩ l hcell
      rw [hl, hsz] at hrun
      exact ⟨_, _, rfl, by simp [loadVar, run_isAgg hagg, sizeOf, typeInfo, hi, hrun], hv.agg, rfl⟩
    · rename_i hagg
      split at h
      case h_2 => cases h
      rename_i v hv
      cases h
      obtain ⟨t', ht, rfl, hc⟩ := key _ rfl hrd
      obtain ⟨v', h1, h2, _⟩ := hc k _ hv
      exact ⟨v', _, rfl, by simp [loadVar, run_isAgg hagg, h1], h2, rfl⟩
    · cases h
  · rename_i cs ty own hx
    have key : ∀ r' : Res, r'.rd = [x] → (∀ y ∈ r'.rd, ι y ≠ none → C y = H y) → ∃ t', ι x = some t' ∧ a' = .pointer (some ⟨t'.block, t'.off + k, none⟩) ∧
        ∀ (i : Nat) (v : Value), cs[i]? = some v → ∃ v', w.cell? ⟨t'.block, t'.off + i, none⟩ = some v' ∧ VR ι v v' ∧ one v = true := by
      intro r' hr hrd
      cases ha with
      | ptr _ _ t' ht =>
        have hC := hrd x (by simp [hr]) (by simp [ht])
        have ho := hR.obj x
        rw [hC, hx] at ho
        obtain ⟨t2, h2, _, hc, _⟩ := ho
        rw [ht] at h2
        cases h2
        exact ⟨t', ht, rfl, hc⟩
    split at h
    · rename_i hagg
      split at h
      case isFalse => cases h
      rename_i hk
      cases h
      obtain ⟨t', ht, rfl, hc⟩ := key _ rfl hrd
      obtain ⟨i, hi, hsz⟩ := info_of_agg hagg
      obtain ⟨l, hl, hv, hcell⟩ := cells_list hc k (P.cellsOf t) hk
      have hrun := run_loadCells_list (P := P) w ⟨t'.block, t'.off + k, none⟩ l hcell
      rw [hl, hsz] at hrun
      exact ⟨_, _, rfl, by simp [loadVar, run_isAgg hagg, sizeOf, typeInfo, hi, hrun], hv.agg, rfl⟩
    · rename_i hagg
      split at h
      case h_2 => cases h
      rename_i v hv
      cases h
      obtain ⟨t', ht, rfl, hc⟩ := key _ rfl hrd
      obtain ⟨v', h1, h2, _⟩ := hc k _ hv
      exact ⟨v', _, rfl, by simp [loadVar, run_isAgg hagg, h1], h2, rfl⟩
    · cases h
  · cases h
theorem load_sound(hR:HR P base ι C w){t:TypeId}{a a':Value}{r:Res}(h:aload P t H a=some r)(ha:VR ι a a')(hrd:∀x∈r.rd,ι x≠none→C x=H x) :
  Good P base ι C H n r w ((do pure (Next.value (←Instr.loadAt t a')):Sem Next).run P w):=by
 obtain⟨v',ad,rfl,h1,h2,h3⟩:=load_run hR h ha hrd
 rw[h3]
 exact good_value hR (run_value (by simp[Instr.loadAt,Instr.sureAddr,h1])) h2
theorem splice_length(vs:List Value):∀(cs:List Value) (k:Nat),(splice cs k vs).length=cs.length:=by
 induction vs with
 | nil=>intro cs k;rfl
 | cons v vs ih=>intro cs k;simp[splice,ih]
theorem splice_get(vs:List Value):∀(cs:List Value) (k:Nat),k+vs.length≤cs.length→∀i,(splice cs k vs)[i]? = if k≤i∧i<k+vs.length then vs[i - k]? else cs[i]?:=by
 induction vs with
 | nil=>intro cs k _ i;rw[if_neg (by simp only[List.length_nil];omega)];rfl
 | cons v vs ih =>
  intro cs k hk i
  simp only[List.length_cons]at hk
  simp only[splice]
  rw[ih (cs.set k v) (k+1) (by simp;omega) i,List.getElem?_set]
  by_cases h1:k+1≤i∧i<k+1+vs.length
  ·rw[if_pos h1,if_pos (by simp;omega)]
   rw[show i - k=(i - (k+1))+1 by omega,List.getElem?_cons_succ]
  ·rw[if_neg h1]
   by_cases h2:k=i
   ·subst h2
    rw[if_pos rfl,if_pos (by omega),if_pos (by simp)]
    simp
   ·rw[if_neg h2,if_neg (by simp;omega)]
theorem row_get(cur vs:List Value)(o:Nat)(h:o+vs.length≤cur.length)(i:Nat) :
  (cur.take o++vs++cur.drop (o+vs.length))[i]? = if o≤i∧i<o+vs.length then vs[i - o]? else cur[i]?:=by
 have h1:(cur.take o).length=o:=by simp;omega
 by_cases ha:i<o
 ·rw[if_neg (by omega),List.append_assoc,List.getElem?_append_left (by omega),List.getElem?_take,if_pos ha]
 ·by_cases hb:i<o+vs.length
  ·rw[if_pos (by omega),List.append_assoc,List.getElem?_append_right (by omega),h1,List.getElem?_append_left (by omega)]
  ·rw[if_neg (by omega),List.getElem?_append_right (by simp;omega),List.getElem?_drop]
   congr 1
   simp only[List.length_append,h1]
   omega
theorem heap_wr(v:Value)(x:Nat)(o:AObj)(rd:List Nat):(Res.mk v [] (some (x,o)) rd).heap n H=hset H x o:=rfl
theorem heap_new(v:Value)(o:AObj)(rd:List Nat):(Res.mk v [o] none rd).heap n H=hset H n o:=rfl
theorem setRow_size(w:World)(g:Nat)(cs:Array Value):(w.setRow g cs).heap.size=w.heap.size:=by simp
theorem store_sound (hR : HR P base ι C w) {t : TypeId} {a a' v v' : Value} {r : Res} (h : astore P t H a v = some r) (ha : VR ι a a') (hv : VR ι v v')
    (hwr : ∀ x o, r.wr = some (x, o) → ι x ≠ none → C x = H x) :
    Good P base ι C H n r w ((do Instr.storeAt t a' v'; pure Next.skip : Sem Next).run P w) := by
  unfold astore at h
  split at h
  case h_2 => cases h
  rename_i x k
  split at h
  case h_2 => cases h
  rename_i cs ty hx
  split at h
  case h_2 => cases h
  rename_i i hi
  split at h
  case isFalse => cases h
  rename_i hcond
  obtain ⟨hlen, hone, hfit⟩ := hcond
  cases h
  cases ha with
  | ptr _ _ t' ht =>
    have hC := hwr x _ rfl (by simp [ht])
    have ho := hR.obj x
    rw [hC, hx] at ho
    obtain ⟨t2, h2, hown, hc, hw⟩ := ho
    rw [ht] at h2
    cases h2
    obtain ⟨hesz, ⟨hbs, hal⟩, cur, hcur, hcsz⟩ := hw rfl
    have hcells := hv.cells
    have hlen' : v'.cells.toList.length = (vcells v).length := hcells.1.symm
    have hone' := hcells.all_one hone
    have hs : v'.cells.size = i.size := by rw [← hlen, ← hlen']; simp
    have hst := run_storeCells_at (P := P) t'.block (t'.off + k) ty v'.cells.toList 0 cur w hcur (by omega) hone'
    simp only [Nat.add_zero] at hst
    have hrun : (Instr.storeAt t (.pointer (some ⟨t'.block, t'.off + k, none⟩)) v').run P w =
        .ok () (w.setRow t'.block (cur.toList.take (t'.off + k) ++ v'.cells.toList ++ cur.toList.drop (t'.off + k + v'.cells.toList.length)).toArray) := by
      simp [Instr.storeAt, Instr.sureAddr, storeVar, sizeOf, typeInfo, hi, hs, hst]
    clear hst hs
    generalize v'.cells.toList = vs at *
    have hnc : C x ≠ .dead := by rw [hC, hx]; intro e; cases e
    refine ⟨_, _, ι, undef, run_skip hrun, .inr ⟨rfl, rfl⟩, undef_refl ι, Inj.le_refl ι, fun _ _ => rfl, ?_, ?_, fun z ob e => by (cases e; simp [ht]), fun e => absurd rfl e⟩
    · rw [heap_wr, patch_set (.inl hC)]
      have hL : (cur.toList.take (t'.off + k) ++ vs ++ cur.toList.drop (t'.off + k + vs.length)).length = cur.size := by
        simp only [List.length_append, List.length_take, List.length_drop, Array.length_toList]; omega
      refine hR.update (κ := ι) (t := t') (Inj.le_refl ι) ht (fun _ _ => rfl) (by simp) (fun j _ hj => setRow_other w _ j _ hj) ?_ hown ((hR.rng x t' ht).2.1 hown) (by rw [setRow_size]; exact (hR.rng x t' ht).1) ?_
      · intro y u hy hd e hbl
        exact hy (hR.uniq (x := x) hnc (by rw [hC, hx]; exact id) hd ht e hown hbl.symm).symm
      · refine ⟨t', ht, hown, fun j u e => ?_, fun _ => ⟨hesz, ⟨by rw [splice_length]; exact hbs, hal⟩, _, setRow_heap w _ cur _ ty _ hcur, by rw [List.size_toArray, hL, hcsz]⟩⟩
        rw [splice_get _ _ _ hfit] at e
        rw [cell_of_row _ _ _ _ _ _ (setRow_heap w _ cur _ ty _ hcur)]
        have hrow := row_get cur.toList vs (t'.off + k) (by have := Array.length_toList (xs := cur); omega) (t'.off + j)
        simp only [List.getElem?_toArray]
        rw [hrow]
        by_cases hin : k ≤ j ∧ j < k + (vcells v).length
        · rw [if_pos hin] at e
          rw [if_pos (by omega), show t'.off + j - (t'.off + k) = j - k by omega]
          obtain ⟨u', h1, h2⟩ := hcells.get e
          exact ⟨u', h1, h2, List.all_eq_true.1 hone u (List.mem_of_getElem? e)⟩
        · rw [if_neg hin] at e
          rw [if_neg (by omega)]
          obtain ⟨u', h1, h2, h3⟩ := hc j u e
          rw [cell_of_row _ _ _ _ _ _ hcur] at h1
          exact ⟨u', by simpa using h1, h2, h3⟩
    · exact below_setRow (Below.refl _ _) ((hR.rng x t' ht).2.1 hown) _
theorem good_new(hR:HR P base ι C w){cs:List Value}{cur:Array Value}{ty:TypeId}{v v':Value}{rd:List Nat}{res:Result Next}{w1:World}(hw1:w1.heap=w.heap)(hb:Below base w w1)
  (hn:ι n=none) (hHn:H n=.dead)
  (hc:∀(i:Nat) (v:Value),cs[i]? = some v→∃v',cur[i]? = some v'∧VR ι v v'∧one v=true) (hl:cs.length≤cur.size)
  (hr:res=.ok (.value v') (w1.alloc (.cells cur ty))) (hv:VR (iset ι n ⟨w.heap.size,0,true,P.cellsOf ty,cur.size⟩) v v') :
  Good P base ι C H n { v:=v,news:=[.cells cs ty true],rd:=rd } w res:=by
 refine⟨_,_,_,v',hr,.inl rfl,hv,iset_le _ hn,fun x hx=>?_,?_,?_,fun _ _ e=>by(cases e),fun _=>by simp[iset_same]⟩
 ·rcases hx with hx|hx
  ·exact iset_other _ _ hx
  ·cases hx
 ·rw[heap_new,patch_set (.inr (by rw[hHn];intro e;cases e))]
  have h2:=(hR.same hw1).alloc hn hc hl (ty:=ty)
  rw[hw1]at h2
  exact h2
 ·exact hb.trans ((Below.refl _ _).alloc (by rw[hw1];exact hR.size) _)
theorem box_sound(hR:HR P base ι C w){t:TypeId}{v v':Value}{r:Res}(h:abox n t v=some r)(hv:VR ι v v')(hn:r.news≠[]→ι n=none∧H n=.dead){s:Sem Value}
  (hs:s.run P w=.ok (.pointer (some ⟨w.heap.size,0,none⟩)) (w.alloc (.cells v'.cells t))) :
  Good P base ι C H n r w ((do pure (Next.value (←s)):Sem Next).run P w):=by
 unfold abox at h
 split at h
 case isFalse=>cases h
 rename_i hone
 cases h
 obtain⟨h1,h2⟩:=hn (by simp)
 refine good_new hR rfl (Below.refl _ _) h1 h2 ?_ (by have:=hv.cells.1;simp at this;omega) (run_value hs) (.ptr n 0 _ (iset_same _ _ _))
 intro i u e
 obtain⟨u',e1,e2⟩:=hv.cells.get e
 exact⟨u',by simpa using e1,e2,List.all_eq_true.1 hone u (List.mem_of_getElem? e)⟩
theorem run_box(t:TypeId)(v:Value):(Instr.box t v).run P w=.ok (.pointer (some ⟨w.heap.size,0,none⟩)) (w.alloc (.cells v.cells t)):=by
 simp[Instr.box,newVar,newRow]
theorem alloc_sound(hR:HR P base ι C w){t:TypeId}{r:Res}(h:aalloc P n t=some r)(hn:r.news≠[]→ι n=none∧H n=.dead)(old:Value) :
  Good P base ι C H n r w ((do pure (Next.value (←Instr.alloc t true old)):Sem Next).run P w):=by
 unfold aalloc at h
 split at h
 case h_2=>cases h
 rename_i z hz
 split at h
 case isFalse=>cases h
 rename_i hf
 obtain⟨i,hi,hz'⟩:=Option.bind_eq_some_iff.1 hz
 refine box_sound hR h (still_refl ι hf) hn ?_
 simp[Instr.alloc,zeroValue,typeInfo,hi,hz',newVar,newRow]
theorem zero_spec{t:TypeId}{zs:List Value}(h:zeroCellsOf P t=some zs):∃i z,P.info? t=some i∧i.zero=some z∧zs=z.cells.toList∧zs.all still1=true:=by
 unfold zeroCellsOf at h
 split at h
 case h_2=>cases h
 rename_i z hz
 split at h
 case isFalse=>cases h
 rename_i hf
 cases h
 obtain⟨i,hi,hz'⟩:=Option.bind_eq_some_iff.1 hz
 exact⟨i,z,hi,hz',rfl,hf⟩
theorem still1_one{v:Value}(h:still1 v=true):one v=true:=by
 unfold still1 at h
 split at h
 ·rfl
 ·cases v <;> first|rfl|(simp[flat1]at h)
theorem all_still1_one{l:List Value}(h:l.all still1=true):l.all one=true:=by
 rw[List.all_eq_true]at *;exact fun x hx=>still1_one (h x hx)
theorem rep_length(n:Nat)(z:List Value):(rep n z).length=n*z.length:=by
 induction n with
 | zero=>simp[rep]
 | succ n ih=>simp[rep,ih,Nat.succ_mul];omega
theorem rep_get(z:List Value)(_hz:0<z.length):∀(n i:Nat),i<n*z.length→(rep n z)[i]? = z[i % z.length]?:=by
 intro n
 induction n with
 | zero=>intro i h;simp at h
 | succ n ih =>
  intro i h
  simp only[rep]
  by_cases hi:i<z.length
  ·rw[List.getElem?_append_left hi,Nat.mod_eq_of_lt hi]
  ·rw[List.getElem?_append_right (by omega),ih _ (by rw[Nat.succ_mul]at h;omega)]
   congr 1
   rw[←Nat.mod_eq_sub_mod (by omega)]
theorem made_get(z:Array Value)(hz:0<z.size)(n i:Nat)(h:i<n):((Array.range n).map (z[· % z.size]!))[i]? = z[i % z.size]?:=by
 have hlt:i % z.size<z.size:=Nat.mod_lt _ hz
 simp[h,hlt]
theorem makeSlice_sound(hR:HR P base ι C w){t:TypeId}{l c:Value}{l' c':Value}{r:Res}(h:amakeSlice P n t l c=some r)(hl:VR ι l l')(hc:VR ι c c')(hn:r.news≠[]→ι n=none∧H n=.dead) :
  Good P base ι C H n r w ((do pure (Next.value (←Instr.makeSlice t l' c')):Sem Next).run P w):=by
 unfold amakeSlice at h
 split at h
 case h_2=>cases h
 rename_i elem kl l kc c ht
 cases hl
 cases hc
 split at h
 case h_2=>cases h
 rename_i j zs hj hzs
 split at h
 case isFalse=>cases h
 rename_i hcond
 obtain⟨h0,hlc,hbig,hby,hzl,hsz⟩:=hcond
 cases h
 obtain⟨i,z,hi,hz,rfl,hf⟩:=zero_spec hzs
 rw[hj]at hi
 cases hi
 obtain⟨h1,h2⟩:=hn (by simp)
 have hzl':z.cells.size=j.size:=by simpa using hzl
 have hb1:(j.bytes:Int)*c≤4096*34359738368:=by
  have:c≤34359738368:=hbig
  exact Int.mul_le_mul (by omega) this (by omega) (by omega)
 have hrun:=run_make (P:=P) w t elem j z ht hj hz kl kc l c h0 hlc (by omega) (by have:c≤34359738368:=hbig;omega)
 have hlc':l.toNat≤c.toNat:=by omega
 have hsize:l.toNat*j.size≤c.toNat*j.size:=Nat.mul_le_mul_right _ hlc'
 refine good_new hR rfl (Below.refl _ _) h1 h2 ?_ ?_ (run_value hrun) (.slice n 0 l.toNat 0 c.toNat ⟨w.heap.size,0,true,P.cellsOf elem,(madeCells z.cells (c.toNat*j.size)).size⟩ (iset_same _ _ _) (fun _=>rfl) hlc' (by have:c≤34359738368:=hbig;unfold maxLen;omega) (fun _=>⟨?_,Nat.zero_mod _⟩))
 ·intro i u e
  have hi:i<l.toNat*j.size:=by
   rcases Nat.lt_or_ge i (l.toNat*j.size)with g|g
   ·exact g
   ·rw[List.getElem?_eq_none (by rw[rep_length,hzl];exact g)]at e;cases e
  rw[rep_get _ (by omega) _ _ (by rw[hzl];exact hi)]at e
  have hm:(madeCells z.cells (c.toNat*j.size))[i]? = z.cells[i % z.cells.size]?:=made_get z.cells (by omega) _ i (by omega)
  rw[hm]
  have e':z.cells[i % z.cells.size]? = some u:=by simpa using e
  have hu:still1 u=true:=List.all_eq_true.1 hf u (List.mem_of_getElem? e)
  exact⟨u,e',still1_refl ι hu,still1_one hu⟩
 ·rw[rep_length,size_madeCells,hzl];exact hsize
 ·simp only[size_madeCells,Program.cellsOf,hj,Option.map_some,Option.getD_some,Nat.zero_add]
  exact Nat.le_refl _
theorem all_rep{p:Value→Bool}{z:List Value}(h:z.all p=true):∀n,(rep n z).all p=true
 | 0=>rfl
 | n+1=>by rw[rep,List.all_append,h,all_rep h n];rfl
theorem zero_rep(z:Array Value)(n:Nat):(Builtin.zeroCells z n).toList=rep n z.toList:=by
 unfold Builtin.zeroCells
 by_cases hz:z.size=0
 ·rw[hz,Nat.mul_zero]
  have:z.toList=[]:=List.eq_nil_of_length_eq_zero (by simpa using hz)
  rw[this]
  have:∀n,rep n ([]:List Value)=[]:=fun n=>by induction n with
   | zero=>rfl
   | succ n ih=>rw[rep,ih];rfl
  rw[this];simp
 ·apply List.ext_getElem?
  intro i
  rw[Array.getElem?_toList]
  by_cases hi:i<n*z.size
  ·rw[made_get z (by omega) _ i hi,rep_get z.toList (by simp;omega) n i (by simpa using hi)]
   simp
  ·rw[Array.getElem?_eq_none (by simp;omega),List.getElem?_eq_none (by rw[rep_length];simp;omega)]
theorem clear_sound (hR : HR P base ι C w) {ts : Array TypeId} {ty0 : TypeId} {a a' : Value} {r : Res} (h : aclear P H ts a = some r) (ha : VR ι a a')
    (hwr : ∀ x o, r.wr = some (x, o) → ι x ≠ none → C x = H x) :
    Good P base ι C H n r w ((do pure (Next.value (← Builtin.clear_ ts ty0 #[a'])) : Sem Next).run P w) := by
  unfold aclear at h
  split at h
  case h_2 => cases h
  rename_i t x k m cc h0
  split at h
  case h_2 => cases h
  rename_i elem cs ty ht hx
  split at h
  case h_2 => cases h
  rename_i j zs hj hzs
  split at h
  case isFalse => cases h
  rename_i hcond
  obtain ⟨hzl, hfit⟩ := hcond
  cases h
  obtain ⟨i, z, hi, hz, rfl, hf⟩ := zero_spec hzs
  rw [hj] at hi
  cases hi
  have hstill : (rep (m + 1) z.cells.toList).all still1 = true := all_rep hf _
  have hone := all_still1_one hstill
  have hcells : VRs ι (rep (m + 1) z.cells.toList) (rep (m + 1) z.cells.toList) := all_still1_refl ι hstill
  cases ha with
  | slice _ _ _ o c t' ht' hoff hcc hm how =>
    have hC := hwr x _ rfl (by simp [ht'])
    have ho := hR.obj x
    rw [hC, hx] at ho
    obtain ⟨t2, h2, hown, hc, hw⟩ := ho
    rw [ht'] at h2
    cases h2
    obtain ⟨hesz, ⟨hbs, hal⟩, cur, hcur, hcsz⟩ := hw rfl
    have hzc : (Builtin.zeroCells z.cells (m + 1)).toList = rep (m + 1) z.cells.toList := zero_rep z.cells (m + 1)
    generalize hvs : rep (m + 1) z.cells.toList = vs0 at *
    have hst := run_storeCells_at (P := P) t'.block (t'.off + k) ty vs0 0 cur w hcur (by omega) (hcells.all_one hone)
    simp only [Nat.add_zero] at hst
    have hrun : (Builtin.clear_ ts ty0 #[.slice (some ⟨t'.block, o, none⟩) (m + 1) c]).run P w =
        .ok (.tuple #[]) (w.setRow t'.block (cur.toList.take (t'.off + k) ++ vs0 ++ cur.toList.drop (t'.off + k + vs0.length)).toArray) := by
      rw [hoff (by omega)]
      simp [Builtin.clear_, h0, run_underlying ht, zeroValue, typeInfo, hj, hz, hzc, hst]
    have hv := hcells
    have hnc : C x ≠ .dead := by rw [hC, hx]; intro e; cases e
    refine ⟨_, _, ι, .tuple #[], run_value hrun, .inl rfl, (VRs.nil ι).tuple, Inj.le_refl ι, fun _ _ => rfl, ?_, ?_, fun z ob e => by (cases e; simp [ht']), fun e => absurd rfl e⟩
    · rw [heap_wr, patch_set (.inl hC)]
      have hL : (cur.toList.take (t'.off + k) ++ vs0 ++ cur.toList.drop (t'.off + k + vs0.length)).length = cur.size := by
        simp only [List.length_append, List.length_take, List.length_drop, Array.length_toList]; omega
      refine hR.update (κ := ι) (t := t') (Inj.le_refl ι) ht' (fun _ _ => rfl) (by simp) (fun j _ hj => setRow_other w _ j _ hj) ?_ hown ((hR.rng x t' ht').2.1 hown) (by rw [setRow_size]; exact (hR.rng x t' ht').1) ?_
      · intro y u hy hd e hbl
        exact hy (hR.uniq (x := x) hnc (by rw [hC, hx]; exact id) hd ht' e hown hbl.symm).symm
      · refine ⟨t', ht', hown, fun j u e => ?_, fun _ => ⟨hesz, ⟨by rw [splice_length]; exact hbs, hal⟩, _, setRow_heap w _ cur _ ty _ hcur, by rw [List.size_toArray, hL, hcsz]⟩⟩
        rw [splice_get _ _ _ hfit] at e
        rw [cell_of_row _ _ _ _ _ _ (setRow_heap w _ cur _ ty _ hcur)]
        have hrow := row_get cur.toList vs0 (t'.off + k) (by have := Array.length_toList (xs := cur); omega) (t'.off + j)
        simp only [List.getElem?_toArray]
        rw [hrow]
        by_cases hin : k ≤ j ∧ j < k + vs0.length
        · rw [if_pos hin] at e
          rw [if_pos (by omega), show t'.off + j - (t'.off + k) = j - k by omega]
          obtain ⟨u', h1, h2⟩ := hv.get e
          exact ⟨u', h1, h2, List.all_eq_true.1 hone u (List.mem_of_getElem? e)⟩
        · rw [if_neg hin] at e
          rw [if_neg (by omega)]
          obtain ⟨u', h1, h2, h3⟩ := hc j u e
          rw [cell_of_row _ _ _ _ _ _ hcur] at h1
          exact ⟨u', by simpa using h1, h2, h3⟩
    · exact below_setRow (Below.refl _ _) ((hR.rng x t' ht').2.1 hown) _
theorem foldl_splice(vs:List Value):∀(cells:Array Value) (off j:Nat),
  ((vs.zipIdx j).foldl (fun cs (x:Value × Nat)=>cs.setIfInBounds (off+x.2) x.1) cells).toList=splice cells.toList (off+j) vs:=by
 induction vs with
 | nil=>intro cells off j;rfl
 | cons v vs ih =>
  intro cells off j
  simp only[List.zipIdx_cons,List.foldl_cons,splice]
  rw[ih,Array.toList_setIfInBounds]
  rfl
theorem fill_sound{place place':Nat→Option (Nat × Nat)}(hp:∀i,place i=place' i):∀(parts parts':List (Nat × Value)) (cs:List Value) (cells:Array Value) (out:List Value),
  afill place cs parts=some out→VRs ι cs cells.toList→parts.map (·.1)=parts'.map (·.1)→VRs ι (parts.map (·.2)) (parts'.map (·.2)) →
  ∃cells',Instr.fill place' cells parts'=some cells'∧VRs ι out cells'.toList:=by
 intro parts
 induction parts with
 | nil =>
  intro parts' cs cells out h hv h1 h2
  cases parts' with
  | nil=>simp only[afill]at h;cases h;exact⟨cells,rfl,hv⟩
  | cons=>simp at h1
 | cons p parts ih =>
  intro parts' cs cells out h hv h1 h2
  cases parts' with
  | nil=>simp at h1
  | cons p' parts' =>
   obtain⟨i,v⟩:=p
   obtain⟨i',v'⟩:=p'
   simp only[List.map_cons,List.cons.injEq]at h1
   obtain⟨rfl,h1⟩:=h1
   simp only[List.map_cons]at h2
   obtain⟨u',k,e,r1,r2⟩:=h2.cons_inv
   simp only[List.cons.injEq]at e
   obtain⟨rfl,rfl⟩:=e
   simp only[afill]at h
   split at h
   case h_1=>cases h
   rename_i off size hpl
   split at h
   case isTrue=>cases h
   rename_i hcond
   simp only[not_or,Decidable.not_not,Nat.not_lt]at hcond
   obtain⟨hs,ho,hone⟩:=hcond
   have hcl:=r1.cells.1
   have hsz:v'.cells.size=size:=by rw[←hs,hcl];simp
   have hcs:cells.size=cs.length:=by rw[hv.1];simp
   simp only[Instr.fill,←hp,hpl]
   rw[if_neg (by simp[hsz];omega)]
   refine ih parts' _ _ out h ?_ h1 r2
   have:=foldl_splice v'.cells.toList cells off 0
   rw[←Array.toList_zipIdx,Array.foldl_toList]at this
   rw[this]
   exact hv.splice _ r1.cells
theorem fplaces_mapM:∀(fs:List Field) (places:List (Nat × Nat)),fplaces P fs=some places→fs.mapM (fun f=>(P.info? f.type).map fun i=>(f.offset,i.size))=some places
 | [],places,h=>by simp only[fplaces]at h;cases h;rfl
 | f::fs,places,h=>by
  simp only[fplaces]at h
  split at h
  case h_2=>cases h
  rename_i j l hj hl
  cases h
  simp[List.mapM_cons,hj,fplaces_mapM fs l hl]
theorem build_sound(hR:HR P base ι C w){t:TypeId}{parts:List (Nat × Value)}{parts':Array (Nat × Value)}{v:Value}(h:abuild P t parts=some v)
  (h1:parts.map (·.1)=parts'.toList.map (·.1)) (h2:VRs ι (parts.map (·.2)) (parts'.toList.map (·.2))) :
  Good P base ι C H n { v:=v } w ((do pure (Next.value (←Instr.build t parts')):Sem Next).run P w):=by
 unfold abuild at h
 split at h
 ·rename_i fields zs ht hzs
  split at h
  case h_2=>cases h
  rename_i places hpl
  obtain⟨cs,hfill,rfl⟩:=Option.map_eq_some_iff.1 h
  obtain⟨i,z,hi,hz,rfl,hf⟩:=zero_spec hzs
  obtain⟨cells',hfill',hv⟩:=fill_sound (ι:=ι) (place':=fun i=>places[i]?) (fun i=>rfl) parts parts'.toList _ z.cells cs hfill (all_still1_refl ι hf) h1 h2
  refine good_value hR (run_value ?_) (hv.agg)
  have hm:=run_places (P:=P) w fields.toList places (fplaces_mapM _ _ hpl)
  simp[Instr.build,zeroValue,typeInfo,hi,hz,run_underlying ht,Array.mapM_eq_mapM_toList,hm,hfill']
 ·rename_i len elem zs ht hzs
  split at h
  case h_2=>cases h
  rename_i j hj
  obtain⟨cs,hfill,rfl⟩:=Option.map_eq_some_iff.1 h
  obtain⟨i,z,hi,hz,rfl,hf⟩:=zero_spec hzs
  obtain⟨cells',hfill',hv⟩:=fill_sound (ι:=ι) (place':=fun i=>some (i*j.size,j.size)) (fun i=>rfl) parts parts'.toList _ z.cells cs hfill (all_still1_refl ι hf) h1 h2
  refine good_value hR (run_value ?_) (hv.agg)
  simp[Instr.build,zeroValue,typeInfo,hi,hz,run_underlying ht,sizeOf,hj,hfill']
 ·cases h
theorem buildSlice_sound (hR : HR P base ι C w) {t : TypeId} {len : Nat} {parts : List (Nat × Value)} {parts' : Array (Nat × Value)} {r : Res} (h : abuildSlice P n t len parts = some r)
    (h1 : parts.map (·.1) = parts'.toList.map (·.1)) (h2 : VRs ι (parts.map (·.2)) (parts'.toList.map (·.2))) (hn : r.news ≠ [] → ι n = none ∧ H n = .dead) :
    Good P base ι C H n r w ((do pure (Next.value (← Instr.buildSlice t len parts')) : Sem Next).run P w) := by
  unfold abuildSlice at h
  split at h
  case h_2 => cases h
  rename_i elem ht
  split at h
  case h_2 => cases h
  rename_i j zs hj hzs
  split at h
  case isTrue => cases h
  rename_i hcond
  simp only [not_or, Nat.not_lt, Decidable.not_not] at hcond
  obtain ⟨hbig, hlen, hzl, hjs⟩ := hcond
  obtain ⟨cs, hfill, rfl⟩ := Option.map_eq_some_iff.1 h
  obtain ⟨i, z, hi, hz, rfl, hf⟩ := zero_spec hzs
  rw [hj] at hi
  cases hi
  have hzs' : z.cells.size = j.size := by simpa using hzl
  have hinit : VRs ι (rep len z.cells.toList) ((Array.range (len * j.size)).map (z.cells[· % z.cells.size]!)).toList := by
    refine ⟨by rw [rep_length, hzl]; simp, fun q u u' e e' => ?_⟩
    have hq : q < len * j.size := by
      rcases Nat.lt_or_ge q (len * j.size) with g | g
      · exact g
      · rw [List.getElem?_eq_none (by rw [rep_length, hzl]; exact g)] at e; cases e
    rw [rep_get _ (by omega) _ _ (by rw [hzl]; exact hq)] at e
    have hm := made_get z.cells (by omega) (len * j.size) q hq
    rw [Array.getElem?_toList, hm] at e'
    have e2 : z.cells[q % z.cells.size]? = some u := by simpa using e
    rw [e2] at e'
    cases e'
    exact still1_refl ι (List.all_eq_true.1 hf u (List.mem_of_getElem? e))
  obtain ⟨cells', hfill', hv⟩ := fill_sound (ι := ι) (place' := fun i => some (i * j.size, j.size)) (fun i => rfl) parts parts'.toList _ _ cs hfill hinit h1 h2
  obtain ⟨g1, g2⟩ := hn (by simp)
  have hrun : (Instr.buildSlice t len parts').run P w = .ok (.slice (some ⟨w.heap.size, 0, none⟩) len len) (w.alloc (.cells cells' elem)) := by
    by_cases h0 : len * j.size = 0
    · have hr0 : (Array.range (len * j.size)).map (z.cells[· % z.cells.size]!) = (Array.range (len * j.size)).map ((#[] : Array Value)[· % (#[] : Array Value).size]!) := by
        rw [h0]; simp [Array.range_zero']
      rw [hr0, h0] at hfill'
      simp [Instr.buildSlice, run_underlying ht, sizeOf, typeInfo, hj, newRow, h0] at hfill' ⊢
      simp [hfill']
    · simp [Instr.buildSlice, run_underlying ht, sizeOf, typeInfo, zeroValue, hj, hz, newRow, h0, hfill', hbig]
  refine good_new hR rfl (Below.refl _ _) g1 g2 ?_ (by rw [hv.1]; simp) (run_value hrun) ?_
  · intro q u e
    obtain ⟨u', e1, e2⟩ := hv.get e
    have h1' : cs.all one = true := by
      have key : ∀ (ps : List (Nat × Value)) (a b : List Value), a.all one = true → afill (fun i => some (i * j.size, j.size)) a ps = some b → b.all one = true := by
        intro ps
        induction ps with
        | nil => intro a b ha hb; simp only [afill] at hb; cases hb; exact ha
        | cons p ps ih =>
          intro a b ha hb
          obtain ⟨i, v⟩ := p
          simp only [afill] at hb
          split at hb
          case isTrue => cases hb
          rename_i hc
          simp only [not_or, Decidable.not_not, Nat.not_lt] at hc
          refine ih _ b ?_ hb
          rw [List.all_eq_true]
          intro x hx
          obtain ⟨k, hk, rfl⟩ := List.getElem_of_mem hx
          have := splice_get (vcells v) a (i * j.size) (by omega) k
          rw [List.getElem?_eq_getElem hk] at this
          split at this
          · exact List.all_eq_true.1 hc.2.2 _ (List.mem_of_getElem? this.symm)
          · exact List.all_eq_true.1 ha _ (List.mem_of_getElem? this.symm)
      refine key parts _ cs ?_ hfill
      have hrep : ∀ m, (rep m z.cells.toList).all one = true := by
        intro m
        induction m with
        | zero => rfl
        | succ m ih => simp only [rep, List.all_append, ih, all_still1_one hf, Bool.and_self]
      exact hrep len
    exact ⟨u', by simpa using e1, e2, List.all_eq_true.1 h1' u (List.mem_of_getElem? e)⟩
  · refine .slice n 0 len 0 len _ (iset_same _ _ _) (fun _ => rfl) (Nat.le_refl _) (by unfold maxLen; omega) (fun _ => ⟨?_, Nat.zero_mod _⟩)
    have hcs : cells'.size = len * j.size := by
      have : cs.length = len * j.size := by
        have key : ∀ (ps : List (Nat × Value)) (a b : List Value), afill (fun i => some (i * j.size, j.size)) a ps = some b → b.length = a.length := by
          intro ps
          induction ps with
          | nil => intro a b hb; simp only [afill] at hb; cases hb; rfl
          | cons p ps ih =>
            intro a b hb
            obtain ⟨i, v⟩ := p
            simp only [afill] at hb
            split at hb
            case isTrue => cases hb
            rw [ih _ b hb, splice_length]
        rw [key parts _ cs hfill, rep_length, hzl]
      rw [← this, hv.1]; simp
    simp only [Program.cellsOf, hj, Option.map_some, Option.getD_some, hcs, Nat.zero_add]
    exact Nat.le_refl _
theorem bound_spec{x x':Option Value}{d m:Nat}(h:bound x d=some m)(hx:(x=none∧x'=none)∨∃u u',x=some u∧x'=some u'∧VR ι u u') :
  (x'=none∧m=d)∨∃k i,x'=some (.int k i)∧0≤i∧m=i.toNat:=by
 unfold bound at h
 rcases hx with⟨rfl,rfl⟩|⟨u,u',rfl,rfl,r⟩
 ·simp at h;exact .inl ⟨rfl,h.symm⟩
 ·cases r <;> simp[nanV]at h
  rename_i k i
  exact .inr ⟨k,i,rfl,h.1,h.2.symm⟩
theorem slice_sound (hR : HR P base ι C w) {t : TypeId} {x x' : Value} {lo hi lo' hi' : Option Value} {r : Res} (h : aslice P H t x lo hi = some r) (hx : VR ι x x')
    (hlo : (lo = none ∧ lo' = none) ∨ ∃ u u', lo = some u ∧ lo' = some u' ∧ VR ι u u') (hhi : (hi = none ∧ hi' = none) ∨ ∃ u u', hi = some u ∧ hi' = some u' ∧ VR ι u u')
    (hrd : ∀ x ∈ r.rd, ι x ≠ none → C x = H x) :
    Good P base ι C H n r w ((do pure (Next.value (← Instr.sliceAt t x' lo' hi' none)) : Sem Next).run P w) := by
  unfold aslice at h
  split at h
  · rename_i elem y k len cc ht
    split at h
    case h_2 => cases h
    rename_i j l hh cs ty own hj hl hh' hy
    split at h
    case isFalse => cases h
    rename_i hcond
    obtain ⟨hlh, hhl, hown⟩ := hcond
    cases h
    cases hx with
    | slice _ _ _ o c t' ht' ho hc hm how =>
      have hbl := bound_spec hl hlo
      have hbh := bound_spec hh' hhi
      have hC := hrd y (by simp) (by simp [ht'])
      have hob := hR.obj y
      rw [hC, hy] at hob
      obtain ⟨t2, h2, hto, _, hw⟩ := hob
      rw [ht'] at h2
      cases h2
      have hrun : (Instr.sliceAt t (.slice (some ⟨t'.block, o, none⟩) len c) lo' hi' none).run P w =
          .ok (.slice (if c = l then some ⟨t'.block, o, none⟩ else some ⟨t'.block, o + l * j.size, none⟩) (hh - l) (c - l)) w := by
        have e1 : ∀ (q : Nat), (⟨t'.block, o, none⟩ : Addr).add q = ⟨t'.block, o + q, none⟩ := fun q => add_lit _ _ _
        have b1 : ∀ (k : IntKind) (i : Int) (d : Nat) (code : BoundsCode), 0 ≤ i → i.toNat ≤ d → (Instr.sliceBound (.int k i) d code).run P w = .ok i.toNat w := by
          intro k i d code h0 h1
          have : i ≤ (d : Int) := by omega
          simp [Instr.sliceBound, asIntOf, h0, this]
        have hsb : (Instr.sliceBounds true len c lo' hi' none).run P w = .ok (l, hh, c) w := by
          rcases hbl with ⟨rfl, rfl⟩ | ⟨k1, i1, rfl, h1, rfl⟩ <;> rcases hbh with ⟨rfl, rfl⟩ | ⟨k2, i2, rfl, h2, rfl⟩
          · simp [Instr.sliceBounds]
          · simp [Instr.sliceBounds, b1 _ _ c _ h2 (by omega)]
          · simp [Instr.sliceBounds, b1 _ _ _ _ h1 hlh]
          · simp [Instr.sliceBounds, b1 _ _ c _ h2 (by omega), b1 _ _ _ _ h1 hlh]
        simp [Instr.sliceAt, Instr.slice, run_underlying ht, hsb, sizeOf, typeInfo, hj, e1]
      by_cases hcl : c = l
      · rw [if_pos hcl] at hrun
        have hz : hh - l = 0 := by omega
        refine good_value hR (run_value hrun) ?_
        rw [hz]
        exact .slice y _ 0 o (c - l) t' ht' (fun e => absurd rfl e) (Nat.zero_le _) (by omega) (fun e => ⟨by
          have := (how e).1
          rw [hcl, Nat.sub_self, Nat.zero_mul, Nat.add_zero]; omega, (how e).2⟩)
      · rw [if_neg hcl] at hrun
        refine good_value hR (run_value hrun) ?_
        refine .slice y _ (hh - l) (o + l * j.size) (c - l) t' ht' (fun e => ?_) (by omega) (by omega) (fun e => ?_)
        · rw [ho (by omega)]; omega
        · have hw' := hw (hto ▸ e)
          have hs : t'.esz = j.size := by rw [hw'.1]; exact hown (hto ▸ e)
          obtain ⟨h1, h3⟩ := how e
          rw [hs] at h1 h3 ⊢
          have h2 : l * j.size + (c - l) * j.size = c * j.size := by rw [← Nat.add_mul, Nat.add_sub_cancel' (by omega)]
          exact ⟨by omega, by rw [Nat.add_mul_mod_self_right]; exact h3⟩
    | sliceE _ _ a t' ht' how =>
      have hbl := bound_spec hl hlo
      have hbh := bound_spec hh' hhi
      have hl0 : l = 0 := by omega
      have hh0 : hh = 0 := by omega
      subst hl0; subst hh0
      refine good_value hR (run_value ?_) (.sliceE y _ a t' ht' how)
      have hsb : (Instr.sliceBounds true 0 0 lo' hi' none).run P w = .ok (0, 0, 0) w := by
        have b1 : ∀ (k : IntKind) (i : Int) (code : BoundsCode), 0 ≤ i → 0 = i.toNat → (Instr.sliceBound (.int k i) 0 code).run P w = .ok 0 w := by
          intro k i code h0 h1
          have : i = 0 := by omega
          subst this
          simp [Instr.sliceBound, asIntOf]
        rcases hbl with ⟨rfl, _⟩ | ⟨k1, i1, rfl, h1, e1⟩ <;> rcases hbh with ⟨rfl, _⟩ | ⟨k2, i2, rfl, h2, e2⟩
        · simp [Instr.sliceBounds]
        · simp [Instr.sliceBounds, b1 _ _ _ h2 e2]
        · simp [Instr.sliceBounds, b1 _ _ _ h1 e1]
        · simp [Instr.sliceBounds, b1 _ _ _ h2 e2, b1 _ _ _ h1 e1]
      simp [Instr.sliceAt, Instr.slice, run_underlying ht, hsb, sizeOf, typeInfo, hj]
  · rename_i elem ht
    split at h
    case h_2 => cases h
    rename_i j hj hl hh
    cases h
    cases hx with
    | sliceNil =>
      have hbl := bound_spec hl hlo
      have hbh := bound_spec hh hhi
      refine good_value hR (run_value ?_) .sliceNil
      have hsb : (Instr.sliceBounds true 0 0 lo' hi' none).run P w = .ok (0, 0, 0) w := by
        have b1 : ∀ (k : IntKind) (i : Int) (code : BoundsCode), 0 ≤ i → 0 = i.toNat → (Instr.sliceBound (.int k i) 0 code).run P w = .ok 0 w := by
          intro k i code h0 h1
          have : i = 0 := by omega
          subst this
          simp [Instr.sliceBound, asIntOf]
        rcases hbl with ⟨rfl, _⟩ | ⟨k1, i1, rfl, h1, e1⟩ <;> rcases hbh with ⟨rfl, _⟩ | ⟨k2, i2, rfl, h2, e2⟩
        · simp [Instr.sliceBounds]
        · simp [Instr.sliceBounds, b1 _ _ _ h2 e2]
        · simp [Instr.sliceBounds, b1 _ _ _ h1 e1]
        · simp [Instr.sliceBounds, b1 _ _ _ h2 e2, b1 _ _ _ h1 e1]
      simp [Instr.sliceAt, Instr.slice, run_underlying ht, hsb, sizeOf, typeInfo, hj]
  · rename_i N elem y k ht
    split at h
    case h_2 => cases h
    rename_i j l hh hj hl hh'
    split at h
    case isFalse => cases h
    rename_i hcond
    obtain ⟨hlh, hhl, hN⟩ := hcond
    cases h
    cases hx with
    | ptr _ _ t' ht' =>
      have hbl := bound_spec hl hlo
      have hbh := bound_spec hh' hhi
      have b1 : ∀ (k : IntKind) (i : Int) (d : Nat) (code : BoundsCode), 0 ≤ i → i.toNat ≤ d → (Instr.sliceBound (.int k i) d code).run P w = .ok i.toNat w := by
        intro k i d code h0 h1
        have : i ≤ (d : Int) := by omega
        simp [Instr.sliceBound, asIntOf, h0, this]
      have hsb : (Instr.sliceBounds false N N lo' hi' none).run P w = .ok (l, hh, N) w := by
        rcases hbl with ⟨rfl, rfl⟩ | ⟨k1, i1, rfl, h1, rfl⟩ <;> rcases hbh with ⟨rfl, rfl⟩ | ⟨k2, i2, rfl, h2, rfl⟩
        · simp [Instr.sliceBounds]
        · simp [Instr.sliceBounds, b1 _ _ N _ h2 (by omega)]
        · simp [Instr.sliceBounds, b1 _ _ _ _ h1 hlh]
        · simp [Instr.sliceBounds, b1 _ _ N _ h2 (by omega), b1 _ _ _ _ h1 hlh]
      have hrun : (Instr.sliceAt t (.pointer (some ⟨t'.block, t'.off + k, none⟩)) lo' hi' none).run P w =
          .ok (.slice (some ⟨t'.block, if N = l then t'.off + k else t'.off + k + l * j.size, none⟩) (hh - l) (N - l)) w := by
        by_cases e : N = l
        · subst e; simp [Instr.sliceAt, run_underlying ht, Instr.sureAddr, hsb, sizeOf, typeInfo, hj]
        · simp [Instr.sliceAt, run_underlying ht, Instr.sureAddr, hsb, sizeOf, typeInfo, hj, e, add_lit]
      refine good_value hR (run_value hrun) (.sliceA y _ (hh - l) _ (N - l) t' ht' (fun e => ?_) (by omega) (by omega))
      rw [if_neg (by omega)]; omega
  · rename_i elem y k len cc ht
    split at h
    case h_2 => cases h
    rename_i j l hh hj hl hh'
    split at h
    case isFalse => cases h
    rename_i hcond
    obtain ⟨hlh, hhl⟩ := hcond
    cases h
    cases hx with
    | sliceA _ _ _ o c t' ht' ho hc hm =>
      have hbl := bound_spec hl hlo
      have hbh := bound_spec hh' hhi
      have b1 : ∀ (k : IntKind) (i : Int) (d : Nat) (code : BoundsCode), 0 ≤ i → i.toNat ≤ d → (Instr.sliceBound (.int k i) d code).run P w = .ok i.toNat w := by
        intro k i d code h0 h1
        have : i ≤ (d : Int) := by omega
        simp [Instr.sliceBound, asIntOf, h0, this]
      have hsb : (Instr.sliceBounds true len c lo' hi' none).run P w = .ok (l, hh, c) w := by
        rcases hbl with ⟨rfl, rfl⟩ | ⟨k1, i1, rfl, h1, rfl⟩ <;> rcases hbh with ⟨rfl, rfl⟩ | ⟨k2, i2, rfl, h2, rfl⟩
        · simp [Instr.sliceBounds]
        · simp [Instr.sliceBounds, b1 _ _ c _ h2 (by omega)]
        · simp [Instr.sliceBounds, b1 _ _ _ _ h1 hlh]
        · simp [Instr.sliceBounds, b1 _ _ c _ h2 (by omega), b1 _ _ _ _ h1 hlh]
      have hrun : (Instr.sliceAt t (.slice (some ⟨t'.block, o, none⟩) len c) lo' hi' none).run P w =
          .ok (.slice (some ⟨t'.block, if c = l then o else o + l * j.size, none⟩) (hh - l) (c - l)) w := by
        by_cases e : c = l
        · subst e; simp [Instr.sliceAt, Instr.slice, run_underlying ht, hsb, sizeOf, typeInfo, hj]
        · simp [Instr.sliceAt, Instr.slice, run_underlying ht, hsb, sizeOf, typeInfo, hj, e, add_lit]
      refine good_value hR (run_value hrun) (.sliceA y _ (hh - l) _ (c - l) t' ht' (fun e => ?_) (by omega) (by omega))
      rw [if_neg (by omega), ho (by omega)]; omega
  · cases h
theorem fieldAddr_sound(hR:HR P base ι C w){t:TypeId}{x x':Value}{i:Nat}{v:Value}(h:afieldAddr P t x i=some v)(hx:VR ι x x') :
  Good P base ι C H n { v:=v } w ((do pure (Next.value (←Instr.fieldAt t x' i)):Sem Next).run P w):=by
 unfold afieldAddr at h
 split at h
 case h_2=>cases h
 rename_i fields y k ht
 split at h
 case h_2=>cases h
 rename_i f hf
 split at h
 case h_2=>cases h
 rename_i j hj
 split at h
 case isTrue=>cases h
 rename_i hs
 cases h
 cases hx with
 | ptr _ _ t' ht' =>
  refine good_value hR (run_value (v:=.pointer (some ⟨t'.block,t'.off+(k+f.offset),none⟩)) ?_) (.ptr y (k+f.offset) t' ht')
  simp[Instr.fieldAt,run_underlying ht,hf,Instr.sureAddr,fieldPlace,sizeOf,typeInfo,hj,hs,add_lit,Nat.add_assoc]
theorem indexAddr_sound(hR:HR P base ι C w){t:TypeId}{x x' i i':Value}{v:Value}(h:aindexAddr P t x i=some v)(hx:VR ι x x')(hi:VR ι i i') :
  Good P base ι C H n { v:=v } w ((do pure (Next.value (←Instr.indexAt t x' i')):Sem Next).run P w):=by
 unfold aindexAddr at h
 split at h
 ·rename_i elem y k len cc kk i ht
  split at h
  case h_2=>cases h
  rename_i j hj
  split at h
  case isFalse=>cases h
  rename_i hb
  cases h
  cases hi
  cases hx with
  | slice _ _ _ o c t' ht' ho hc hm how =>
   have ho':=ho (by omega)
   refine good_value hR (run_value (v:=.pointer (some ⟨t'.block,t'.off+(k+i.toNat*j.size),none⟩)) ?_) (.ptr y _ t' ht')
   simp[Instr.indexAt,asIntOf,run_underlying ht,sizeOf,typeInfo,hj,hb.1,hb.2,add_lit,ho',Nat.add_assoc]
  | sliceE _ _ a t' ht' how=>omega
 ·rename_i elem y k len cc kk i ht
  split at h
  case h_2=>cases h
  rename_i j hj
  split at h
  case isFalse=>cases h
  rename_i hb
  cases h
  cases hi
  cases hx with
  | sliceA _ _ _ o c t' ht' ho hc hm =>
   have ho':=ho (by omega)
   refine good_value hR (run_value (v:=.pointer (some ⟨t'.block,t'.off+(k+i.toNat*j.size),none⟩)) ?_) (.ptr y _ t' ht')
   simp[Instr.indexAt,asIntOf,run_underlying ht,sizeOf,typeInfo,hj,hb.1,hb.2,add_lit,ho',Nat.add_assoc]
 ·rename_i len elem y k kk i ht
  split at h
  case h_2=>cases h
  rename_i j hj
  split at h
  case isFalse=>cases h
  rename_i hb
  cases h
  cases hi
  cases hx with
  | ptr _ _ t' ht' =>
   refine good_value hR (run_value (v:=.pointer (some ⟨t'.block,t'.off+(k+i.toNat*j.size),none⟩)) ?_) (.ptr y _ t' ht')
   simp[Instr.indexAt,asIntOf,run_underlying ht,Instr.sureAddr,sizeOf,typeInfo,hj,hb.1,hb.2,add_lit,Nat.add_assoc]
 ·cases h
theorem apart_run{t:TypeId}{cs:List Value}{cs':Array Value}{off:Nat}{v:Value}(h:apart P t cs off=some v)(hv:VRs ι cs cs'.toList) :
  ∃v',(part t cs' off).run P w=.ok v' w∧VR ι v v':=by
 unfold apart at h
 split at h
 case h_2=>cases h
 rename_i j hj
 split at h
 ·rename_i hagg
  split at h
  case isFalse=>cases h
  rename_i hk
  cases h
  refine⟨.agg (cs'.extract off (off+j.size)),by simp[part,run_isAgg hagg,sizeOf,typeInfo,hj],?_⟩
  have h1:=((hv.drop off).take j.size).agg
  have h2:((cs'.toList.drop off).take j.size).toArray=cs'.extract off (off+j.size):=by
   apply Array.ext'
   simp[Array.toList_extract,List.extract_eq_take_drop]
  rwa [h2]at h1
 ·rename_i hagg
  obtain⟨v',h1,h2⟩:=hv.get h
  refine⟨v',?_,h2⟩
  have h1':cs'[off]? = some v':=by simpa using h1
  simp[part,run_isAgg hagg,h1']
 ·cases h
theorem field_sound(hR:HR P base ι C w){t:TypeId}{x x':Value}{i:Nat}{v:Value}(h:afield P t x i=some v)(hx:VR ι x x') :
  Good P base ι C H n { v:=v } w ((do pure (Next.value (←Instr.field t x' i)):Sem Next).run P w):=by
 unfold afield at h
 split at h
 case h_2=>cases h
 rename_i fields cs ht
 split at h
 case h_2=>cases h
 rename_i f hf
 cases hx with
 | agg _ a' ha hra =>
  obtain⟨v',h1,h2⟩:=apart_run (w:=w) (cs':=a') h (VRs.of_arrays ha hra)
  refine good_value hR (run_value ?_) h2
  simp[Instr.field,run_underlying ht,hf,asAgg,h1]
theorem index_sound(hR:HR P base ι C w){t:TypeId}{x x' i i':Value}{v:Value}(h:aindex P t x i=some v)(hx:VR ι x x')(hi:VR ι i i') :
  Good P base ι C H n { v:=v } w ((do pure (Next.value (←Instr.index t x' i')):Sem Next).run P w):=by
 unfold aindex at h
 split at h
 case h_2=>cases h
 rename_i len elem cs kk i ht
 split at h
 case h_2=>cases h
 rename_i j hj
 split at h
 case isFalse=>cases h
 rename_i hb
 cases hi
 cases hx with
 | agg _ a' ha hra =>
  obtain⟨v',h1,h2⟩:=apart_run (w:=w) (cs':=a') h (VRs.of_arrays ha hra)
  refine good_value hR (run_value ?_) h2
  simp[Instr.index,asIntOf,run_underlying ht,sizeOf,typeInfo,hj,hb.1,hb.2,h1]
theorem bytesOf_spec:∀{l:List Value} {xs:List Int},bytesOf l=some xs→l=xs.map (Value.int .u8)
 | [],xs,h=>by simp only[bytesOf]at h;cases h;rfl
 | v::l,xs,h=>by
  cases v <;> try (simp[bytesOf]at h;done)
  rename_i kk n
  cases kk <;> try (simp[bytesOf]at h;done)
  simp only[bytesOf]at h
  obtain⟨ys,h1,rfl⟩:=Option.map_eq_some_iff.1 h
  rw[bytesOf_spec h1];rfl
theorem string_sound(hR:HR P base ι C w){s d:TypeId}{x x':Value}{r:Res}(h:astring P s d H x=some r)(hx:VR ι x x')(hrd:∀x∈r.rd,ι x≠none→C x=H x) :
  Good P base ι C H n r w ((do pure (Next.value (←convert s d x')):Sem Next).run P w):=by
 unfold astring at h
 split at h
 case h_2=>cases h
 rename_i e hs hd
 split at h
 ·rename_i he
  cases h
  cases hx with
  | sliceNil =>
   refine good_value hR (run_value ?_) (.string _)
   rw[run_convert_bytes_string w s d e none 0 0 hs he hd]
   simp[Conv.bytesToString,strNums];rfl
 ·rename_i y k m cc he
  split at h
  case h_2=>cases h
  rename_i cs ty own hy
  split at h
  case isFalse=>cases h
  rename_i hk
  obtain⟨xs,hxs,rfl⟩:=Option.map_eq_some_iff.1 h
  cases hx with
  | slice _ _ _ o c t' ht' ho hc hm how =>
   have hC:=hrd y (by simp) (by simp[ht'])
   have hob:=hR.obj y
   rw[hC,hy]at hob
   obtain⟨t2,h2,hto,hcell,hw⟩:=hob
   rw[ht']at h2
   cases h2
   obtain⟨l,hl,hv,hcl⟩:=cells_list hcell k m hk
   have hlx:=bytesOf_spec hxs
   have hle:l=xs.map (Value.int .u8):=by
    rw[←hlx]
    exact all_flat1_eq (ι:=ι) (by rw[hlx,List.all_eq_true];intro v hv;simp at hv;obtain⟨q,_,rfl⟩:=hv;rfl) hv
   refine good_value hR (run_value ?_) (.string _)
   have hload:(loadCells ⟨t'.block,o,none⟩ m).run P w=.ok (xs.map (Value.int .u8)).toArray w:=by
    by_cases hm0:m=0
    ·subst hm0
     have:xs=[]:=by
      have:(xs.map (Value.int .u8)).length=0:=by rw[←hle,hl]
      simpa using this
     subst this
     simp[loadCells,loadCellsFrom]
    ·rw[ho hm0,←hle]
     have:=run_loadCells_list (P:=P) w ⟨t'.block,t'.off+k,none⟩ l hcl
     rwa [hl]at this
   rw[run_convert_bytes_string w s d e _ m c hs he hd,run_bytesToString w _ m c xs hload,foldl_push_bytes]
   simp[strNums,ByteArray.empty,ByteArray.emptyWithCapacity]
   rfl
  | sliceE _ _ a t' ht' how =>
   have hx0:xs=[]:=by
    have:=congrArg List.length (bytesOf_spec hxs)
    simp at this
    exact List.eq_nil_of_length_eq_zero this.symm
   subst hx0
   refine good_value hR (run_value ?_) (.string _)
   rw[run_convert_bytes_string w s d e _ 0 0 hs he hd,run_bytesToString w a 0 0 [] (by simp[loadCells,loadCellsFrom])]
   rfl
 ·rename_i y k m cc he
  split at h
  case h_2=>cases h
  rename_i cs ty own hy
  split at h
  case isFalse=>cases h
  rename_i hk
  obtain⟨xs,hxs,rfl⟩:=Option.map_eq_some_iff.1 h
  cases hx with
  | sliceA _ _ _ o c t' ht' ho hc hm =>
   have hC:=hrd y (by simp) (by simp[ht'])
   have hob:=hR.obj y
   rw[hC,hy]at hob
   obtain⟨t2,h2,hto,hcell,hw⟩:=hob
   rw[ht']at h2
   cases h2
   obtain⟨l,hl,hv,hcl⟩:=cells_list hcell k m hk
   have hlx:=bytesOf_spec hxs
   have hle:l=xs.map (Value.int .u8):=by
    rw[←hlx]
    exact all_flat1_eq (ι:=ι) (by rw[hlx,List.all_eq_true];intro v hv;simp at hv;obtain⟨q,_,rfl⟩:=hv;rfl) hv
   refine good_value hR (run_value ?_) (.string _)
   have hload:(loadCells ⟨t'.block,o,none⟩ m).run P w=.ok (xs.map (Value.int .u8)).toArray w:=by
    by_cases hm0:m=0
    ·subst hm0
     have:xs=[]:=by
      have:(xs.map (Value.int .u8)).length=0:=by rw[←hle,hl]
      simpa using this
     subst this
     simp[loadCells,loadCellsFrom]
    ·rw[ho hm0,←hle]
     have:=run_loadCells_list (P:=P) w ⟨t'.block,t'.off+k,none⟩ l hcl
     rwa [hl]at this
   rw[run_convert_bytes_string w s d e _ m c hs he hd,run_bytesToString w _ m c xs hload,foldl_push_bytes]
   simp[strNums,ByteArray.empty,ByteArray.emptyWithCapacity]
   rfl
 ·cases h
theorem len_sound(hR:HR P base ι C w){ts:Array TypeId}{ty:TypeId}{x x':Value}{r:Res}(h:alen P H ts x=some r)(hx:VR ι x x')(hrd:∀x∈r.rd,ι x≠none→C x=H x) :
  Good P base ι C H n r w ((do pure (Next.value (←Builtin.len_ ts ty #[x'])):Sem Next).run P w):=by
 unfold alen at h
 cases ht0:ts[0]? with
 | none=>simp[ht0]at h
 | some t =>
  simp only[ht0,Option.bind_some]at h
  split at h
  ·rename_i elem _ m _ ht
   cases h
   cases hx with
   | sliceNil=>exact good_value hR (run_value (by simp[Builtin.len_,ht0,run_underlying ht,goInt])) (.int _ _)
   | sliceE _ _ a t' ht' how=>exact good_value hR (run_value (by simp[Builtin.len_,ht0,run_underlying ht,goInt])) (.int _ _)
   | slice _ _ _ o c t' ht' ho hc hm how=>exact good_value hR (run_value (by simp[Builtin.len_,ht0,run_underlying ht,goInt])) (.int _ _)
   | sliceA _ _ _ o c t' ht' ho hc hm=>exact good_value hR (run_value (by simp[Builtin.len_,ht0,run_underlying ht,goInt])) (.int _ _)
  ·rename_i s ht
   cases h
   cases hx
   exact good_value hR (run_value (by simp[Builtin.len_,ht0,run_underlying ht,goInt])) (.int _ _)
  ·rename_i k e ht
   cases h
   cases hx
   exact good_value hR (run_value (by simp[Builtin.len_,ht0,run_underlying ht,goInt])) (.int _ _)
  ·rename_i k e y ht
   split at h
   case h_2=>cases h
   rename_i es clock kt hy
   cases h
   cases hx with
   | map _ t' ht' =>
    have hC:=hrd y (by simp) (by simp[ht'])
    have hob:=hR.obj y
    rw[hC,hy]at hob
    obtain⟨t2,es',h2,_,hblk,hk,_⟩:=hob
    rw[ht']at h2
    cases h2
    have hl:es.length=es'.size:=by have:=hk.1;simpa using this
    refine good_value hR (run_value (v:=.int .i64 es.length) ?_) (.int _ _)
    have hg:(getObj t'.block).run P w=.ok (.map es' clock) w:=by simp[getObj,Sem.run,hblk]
    simp[Builtin.len_,ht0,run_underlying ht,hg,goInt,hl]
  ·cases h
end
end Go.AM
namespace Go.AM
open Go.RowKit
section
variable {P:Program} {base:Nat} {ι:Inj} {C H:Heap} {n:Nat} {w:World}
theorem run_append_room'{ts:Array TypeId}{t u ty e:TypeId}{du:TypeDesc}{i:TypeInfo}{x':Value}{m sLen sCap:Nat}{b o:Nat}{cur:Array Value}{ety:TypeId}{ys:List Value}
  (h0:ts[0]? = some t) (h1:ts[1]? = some u) (ht:P.underlying t=some (.slice e)) (hu:P.underlying u=some du) (hdu:srcT du=true)
  (hi:P.info? e=some i) (hlen:(Builtin.lenOf x').run P w=.ok m w) (hsrc:(Builtin.firstCells i.size m x').run P w=.ok ys.toArray w)
  (hcur:w.heap[b]? = some (.cells cur ety (0,0))) (hroom:sLen+m≤sCap) (hfit:o+sLen*i.size+ys.length≤cur.size) (h1c:∀v∈ys,v.oneCell'=true) :
  (Builtin.append_ ts ty #[.slice (some ⟨b,o,none⟩) sLen sCap,x']).run P w =
   .ok (.slice (some ⟨b,o,none⟩) (sLen+m) sCap) (w.setRow b (cur.toList.take (o+sLen*i.size)++ys++cur.toList.drop (o+sLen*i.size+ys.length)).toArray):=by
 have hst:=run_storeCells_at (P:=P) b (o+sLen*i.size) ety ys 0 cur w hcur (by simpa using hfit) h1c
 simp only[Nat.add_zero]at hst
 cases du <;> simp[srcT]at hdu <;>
  simp[Builtin.append_,h0,h1,run_underlying ht,run_underlying hu,sizeOf,typeInfo,hi,hlen,hroom,hsrc,add_lit,hst]
theorem run_append_zero{ts:Array TypeId}{t u ty e:TypeId}{du:TypeDesc}{i:TypeInfo}{x':Value}(ad:Option Addr)
  (h0:ts[0]? = some t) (h1:ts[1]? = some u) (ht:P.underlying t=some (.slice e)) (hu:P.underlying u=some du) (hdu:srcT du=true)
  (hi:P.info? e=some i) (hlen:(Builtin.lenOf x').run P w=.ok 0 w) (hsrc:(Builtin.firstCells i.size 0 x').run P w=.ok #[] w) :
  (Builtin.append_ ts ty #[.slice ad 0 0,x']).run P w=.ok (.slice ad 0 0) w:=by
 cases du <;> simp[srcT]at hdu <;>
  (cases ad <;> simp[Builtin.append_,h0,h1,run_underlying ht,run_underlying hu,sizeOf,typeInfo,hi,hlen,hsrc,storeCells])
theorem run_append_grow' {ts : Array TypeId} {t u ty e : TypeId} {du : TypeDesc} {i : TypeInfo} {z : Value} {s' x' : Value} {m sLen sCap : Nat} {base' : Option Addr} {olds ys : List Value}
    (h0 : ts[0]? = some t) (h1 : ts[1]? = some u) (ht : P.underlying t = some (.slice e)) (hu : P.underlying u = some du) (hdu : srcT du = true)
    (hi : P.info? e = some i) (hz : i.zero = some z) (hs : s' = .slice base' sLen sCap) (hlen : (Builtin.lenOf x').run P w = .ok m w) (hsrc : (Builtin.firstCells i.size m x').run P w.drew = .ok ys.toArray w.drew)
    (hold : (Builtin.firstCells i.size sLen s').run P w.drew = .ok olds.toArray w.drew)
    (hg : sCap < sLen + m) (hb : sLen + m ≤ bigN) (hby : i.bytes ≤ 4096) :
    (Builtin.append_ ts ty #[s', x']).run P w =
      .ok (.slice (some ⟨w.heap.size, 0, none⟩) (sLen + m) (grownCap w (sLen + m) sCap e))
        (w.drew.alloc (.cells (olds.toArray ++ ys.toArray ++ Builtin.zeroCells z.cells (grownCap w (sLen + m) sCap e - (sLen + m))) e)) := by
  subst hs
  have hn : ¬ (sLen + m ≤ sCap) := by omega
  have hb' : sLen + m ≤ 34359738368 := hb
  have h63' : ¬ (9223372036854775807 < ((sLen : Int) + (m : Int))) := by omega
  have hmul : (sLen + m) * i.bytes ≤ 34359738368 * 4096 := Nat.mul_le_mul hb' hby
  have hfit := growslice_fits (need := sLen + m) (old := sCap) (bytes := i.bytes) (by omega) (by omega)
  have h48' : ¬ (281474976710656 < Builtin.nextslicecap (sLen + m) sCap * i.bytes) := by omega
  cases du <;> simp [srcT] at hdu <;>
    (simp [Builtin.append_, h0, h1, run_underlying ht, run_underlying hu, sizeOf, typeInfo, zeroValue, hi, hz, hlen, hn, h63', h48', Question.forced, hold, hsrc, newRow, grownCap]
     try (congr 2; apply Array.ext'; simp [List.append_assoc]))
theorem src_spec(hR:HR P base ι C w){size:Nat}{x x':Value}{ys:List Value}{rd:List Nat}{m:Nat}(h:asrc H size x=some (ys,rd,m))(hx:VR ι x x')(hrd:∀x∈rd,ι x≠none→C x=H x)(hs:0<size) :
  ∃ys':List Value,VRs ι ys ys'∧ys.all one=true∧ys.length=m*size∧(Builtin.lenOf x').run P w=.ok m w∧∀w':World,w'.heap=w.heap→(Builtin.firstCells size m x').run P w'=.ok ys'.toArray w':=by
 unfold asrc at h
 split at h
 ·cases h
  cases hx with
  | sliceNil=>exact⟨[],.nil ι,rfl,by simp,by simp[Builtin.lenOf],fun w' _=>by simp[Builtin.firstCells,loadCells,loadCellsFrom]⟩
 ·rename_i y k m' c'
  split at h
  case h_2=>cases h
  rename_i cs ty own hy
  split at h
  case isFalse=>cases h
  rename_i hk
  cases h
  cases hx with
  | slice _ _ _ o c t' ht' ho hc hm how =>
   have hC:=hrd y (by simp) (by simp[ht'])
   have hob:=hR.obj y
   rw[hC,hy]at hob
   obtain⟨t2,h2,hto,hcell,hw⟩:=hob
   rw[ht']at h2
   cases h2
   obtain⟨l,hl,hv,hcl⟩:=cells_list hcell k (m*size) hk
   refine⟨l,hv,all_take_drop (one_list hcell) _ _,by simp;omega,by simp[Builtin.lenOf],fun w' hw'=>?_⟩
   by_cases hm0:m=0
   ·subst hm0
    have hl0:l=[]:=List.eq_nil_of_length_eq_zero (by simpa using hl)
    subst hl0
    simp[Builtin.firstCells,loadCells,loadCellsFrom]
   ·rw[ho hm0]
    refine run_firstCells_some w' size m _ m c l hl fun j v e=>?_
    have:=hcl j v e
    rw[World.cell?]at this ⊢
    rw[hw'];exact this
  | sliceE _ _ a t' ht' how=>exact⟨[],by simpa using VRs.nil ι,by simp,by simp,by simp[Builtin.lenOf],fun w' _=>by simp[Builtin.firstCells,loadCells,loadCellsFrom]⟩
 ·rename_i y k sp m' c'
  split at h
  case h_2=>cases h
  rename_i cs ty own hy
  split at h
  case isFalse=>cases h
  rename_i hk
  cases h
  cases hx with
  | sliceA _ _ _ o c t' ht' ho hc hm =>
   have hC:=hrd y (by simp) (by simp[ht'])
   have hob:=hR.obj y
   rw[hC,hy]at hob
   obtain⟨t2,h2,hto,hcell,hw⟩:=hob
   rw[ht']at h2
   cases h2
   obtain⟨l,hl,hv,hcl⟩:=cells_list hcell k (m*size) hk
   refine⟨l,hv,all_take_drop (one_list hcell) _ _,by simp;omega,by simp[Builtin.lenOf],fun w' hw'=>?_⟩
   by_cases hm0:m=0
   ·subst hm0
    have hl0:l=[]:=List.eq_nil_of_length_eq_zero (by simpa using hl)
    subst hl0
    simp[Builtin.firstCells,loadCells,loadCellsFrom]
   ·rw[ho hm0]
    refine run_firstCells_some w' size m _ m c l hl fun j v e=>?_
    have:=hcl j v e
    rw[World.cell?]at this ⊢
    rw[hw'];exact this
 ·rename_i s
  split at h
  case isFalse=>cases h
  rename_i h1
  cases h
  cases hx
  subst h1
  refine⟨s.data.toList.map fun b=>.int .u8 b.toNat,all_flat1_refl ι ?_,?_,?_,by simp[Builtin.lenOf],fun w' _=>?_⟩
  ·rw[List.all_eq_true];intro v hv;simp at hv;obtain⟨b,_,rfl⟩:=hv;rfl
  ·rw[List.all_eq_true];intro v hv;simp at hv;obtain⟨b,_,rfl⟩:=hv;rfl
  ·rw[List.length_map,Nat.mul_one,Array.length_toList];rfl
  ·simp[Builtin.firstCells]
   exact Array.ext' (by simp)
 ·cases h
theorem append_sound (hR : HR P base ι C w) {ts : Array TypeId} {ty : TypeId} {s s' x x' : Value} {r : Res} (h : aappend P n H ts s x = some r) (hs : VR ι s s') (hx : VR ι x x')
    (hrd : ∀ x ∈ r.rd, ι x ≠ none → C x = H x) (hwr : ∀ x o, r.wr = some (x, o) → ι x ≠ none → C x = H x) (hn : r.news ≠ [] → ι n = none ∧ H n = .dead) :
    Good P base ι C H n r w ((do pure (Next.value (← Builtin.append_ ts ty #[s', x'])) : Sem Next).run P w) := by
  unfold aappend at h
  split at h
  case h_2 => cases h
  rename_i t u h0 h1
  split at h
  case h_2 => cases h
  rename_i elem ht
  split at h
  case h_2 => cases h
  rename_i j zs du hj hzs hdu
  split at h
  case isTrue => cases h
  rename_i hcond
  simp only [not_or, Nat.not_lt, Decidable.not_not, Bool.not_eq_false] at hcond
  obtain ⟨hby, hjs, hzl, hduo⟩ := hcond
  obtain ⟨i, z, hi, hz, rfl, hf⟩ := zero_spec hzs
  rw [hj] at hi
  cases hi
  have hzs' : z.cells.size = j.size := by simpa using hzl
  have hjp : 0 < j.size := Nat.pos_of_ne_zero hjs
  have hcof : P.cellsOf elem = j.size := by simp [Program.cellsOf, hj]
  split at h
  case h_2 => cases h
  rename_i ys rd m hsrc
  split at h
  · -- nil
    cases hs with
    | sliceNil =>
      split at h
      case isTrue => cases h
      rename_i hbig
      split at h
      · rename_i hm0
        cases h
        obtain ⟨ys', hv, hone, hyl, hlen, hfc⟩ := src_spec hR hsrc hx hrd hjp
        subst hm0
        have hys : ys' = [] := List.eq_nil_of_length_eq_zero (by rw [← hv.1, hyl]; simp)
        subst hys
        exact good_value hR (run_value (run_append_zero none h0 h1 ht hdu hduo hj hlen (hfc w rfl))) .sliceNil
      · rename_i hm0
        cases h
        obtain ⟨ys', hv, hone, hyl, hlen, hfc⟩ := src_spec hR hsrc hx hrd hjp
        obtain ⟨g1, g2⟩ := hn (by simp)
        have hrun := run_append_grow' (P := P) (ty := ty) (olds := []) h0 h1 ht hdu hduo hj hz (rfl : Value.slice none 0 0 = .slice none 0 0) hlen (hfc w.drew rfl) (by simp [Builtin.firstCells, loadCells, loadCellsFrom]) (by omega) (by omega) hby
        simp only [Nat.zero_add] at hrun
        have hge := grownCap_ge w m 0 elem
        have hle := grownCap_le_maxLen w m 0 elem (by have : m ≤ 34359738368 := by simpa [bigN] using hbig
                                                      unfold maxLen; omega)
        have hcsz : ((([] : List Value).toArray ++ ys'.toArray ++ Builtin.zeroCells z.cells (grownCap w m 0 elem - m)) : Array Value).size = grownCap w m 0 elem * j.size := by
          have h2 : ys'.length = m * j.size := by rw [← hyl, hv.1]
          simp only [Array.size_append, List.size_toArray, List.length_nil, Nat.zero_add, size_zeroCells, hzs', h2, ← Nat.add_mul]
          congr 1; omega
        refine good_new (w1 := w.drew) hR rfl (Below.refl _ _).drew g1 g2 ?_ ?_ (run_value hrun) (.slice n 0 m 0 _ _ (iset_same _ _ _) (fun _ => rfl) hge hle (fun _ => ⟨?_, Nat.zero_mod _⟩))
        · intro q v e
          obtain ⟨v', e1, e2⟩ := hv.get e
          refine ⟨v', ?_, e2, List.all_eq_true.1 hone v (List.mem_of_getElem? e)⟩
          have hq : q < ys'.length := by
            rcases Nat.lt_or_ge q ys'.length with g | g
            · exact g
            · rw [List.getElem?_eq_none g] at e1; cases e1
          simp only [Array.empty_append]
          rw [Array.getElem?_append_left (by simpa using hq)]
          simpa using e1
        · rw [hcsz, hyl]; exact Nat.mul_le_mul_right _ hge
        · simp only [hcsz, hcof, Nat.zero_add]; exact Nat.le_refl _
  · rename_i y k len cc
    split at h
    case h_2 => cases h
    rename_i cs ety hy
    split at h
    case isFalse => cases h
    rename_i hc2
    obtain ⟨hbig, hfit, hety, hnr⟩ := hc2
    subst hety
    cases h
    obtain ⟨ys', hv, hone, hyl, hlen, hfc⟩ := src_spec hR hsrc hx hrd hjp
    obtain ⟨g1, g2⟩ := hn (by simp)
    have hyl' : ys'.length = m * j.size := by rw [← hyl, hv.1]
    cases hs with
    | sliceE _ _ a t' ht' how =>
      have hC := hwr y _ rfl (by simp [ht'])
      have hob := hR.obj y
      rw [hC, hy] at hob
      obtain ⟨t2, h2, hto, _⟩ := hob
      rw [ht'] at h2
      cases h2
      rw [how] at hto
      cases hto
    | slice _ _ _ o c t' ht' ho hc hm how =>
      have hC := hwr y _ rfl (by simp [ht'])
      have hob := hR.obj y
      rw [hC, hy] at hob
      obtain ⟨t2, h2, hto, hcell, hw⟩ := hob
      rw [ht'] at h2
      cases h2
      obtain ⟨hesz, ⟨hbs, hal⟩, cur, hcur, hcsz⟩ := hw rfl
      have hyn : y ≠ n := by intro e; subst e; rw [ht'] at g1; cases g1
      obtain ⟨hcap, hmd⟩ := how hto
      rw [hesz, hcof] at hcap
      have hCy : C y ≠ .dead := by rw [hC, hy]; intro e; cases e
      obtain ⟨ol, holl, holv, holc⟩ := cells_list hcell k (len * j.size) hfit
      have hone2 : ((cs.drop k).take (len * j.size) ++ ys).all one = true := by
        rw [List.all_append, Bool.and_eq_true]; exact ⟨all_take_drop (one_list hcell) _ _, hone⟩
      by_cases hroom : len + m ≤ c
      · -- in place
        have hmul : (len + m) * j.size ≤ c * j.size := Nat.mul_le_mul_right _ hroom
        rw [Nat.add_mul] at hmul
        have hrun := run_append_room' (P := P) (ty := ty) (o := o) (sLen := len) (sCap := c) h0 h1 ht hdu hduo hj hlen (hfc w rfl) hcur hroom (by rw [hyl', hcsz]; omega) (hv.all_one hone)
        have hL : (cur.toList.take (o + len * j.size) ++ ys' ++ cur.toList.drop (o + len * j.size + ys'.length)).length = cur.size := by
          have := Array.length_toList (xs := cur)
          simp only [List.length_append, List.length_take, List.length_drop]; omega
        have htn : iset ι n ⟨t'.block, o, true, t'.esz, t'.bsize⟩ n = some ⟨t'.block, o, true, t'.esz, t'.bsize⟩ := iset_same _ _ _
        refine ⟨_, _, iset ι n ⟨t'.block, o, true, t'.esz, t'.bsize⟩, _, run_value hrun, .inl rfl, ?_, iset_le _ g1, fun q hq => ?_, ?_, ?_, fun z ob e => by (cases e; simp [ht']), fun _ => by simp [iset_same]⟩
        · exact .slice n 0 (len + m) o c ⟨t'.block, o, true, t'.esz, t'.bsize⟩ htn (fun _ => rfl) hroom hm (fun _ => ⟨by rw [hesz, hcof]; exact hcap, hmd⟩)
        · rcases hq with hq | hq
          · exact iset_other _ _ hq
          · cases hq
        · show HR P base _ (patch C H (hset (hset H y .dead) n _)) _
          rw [patch_set2 hyn (.inl hC) (by rw [g2]; intro e; cases e)]
          refine (hR.kill y).update (t := ⟨t'.block, o, true, t'.esz, t'.bsize⟩) (iset_le _ g1) htn (fun q hq => iset_other _ _ hq) (by simp) (fun q _ hq => setRow_other w _ q _ hq) ?_ rfl ((hR.rng y t' ht').2.1 hto) (by rw [setRow_size]; exact (hR.rng y t' ht').1) ?_
          · intro q v hq hd e hbl
            by_cases hqy : q = y
            · subst hqy; rw [hset_same] at hd; exact hd rfl
            · rw [hset_other _ _ hqy] at hd
              exact hqy (hR.uniq (x := y) hCy (by rw [hC, hy]; exact id) hd ht' e hto hbl.symm).symm
          · refine ⟨_, htn, rfl, fun q v e => ?_, fun _ => ⟨hesz, ⟨?_, hmd⟩, _, setRow_heap w _ cur _ _ _ hcur, by rw [List.size_toArray, hL, hcsz]⟩⟩
            · have hb2 : q < len * j.size + ys.length := by
                rcases Nat.lt_or_ge q (len * j.size + ys.length) with g | g
                · exact g
                · rw [List.getElem?_eq_none (by simp; omega)] at e; cases e
              have hv2 : one v = true := List.all_eq_true.1 hone2 v (List.mem_of_getElem? e)
              rw [cell_of_row _ _ _ _ _ _ (setRow_heap w _ cur _ _ _ hcur)]
              have hrow := row_get cur.toList ys' (o + len * j.size) (by have := Array.length_toList (xs := cur); omega) (o + q)
              simp only [List.getElem?_toArray]
              rw [hrow]
              by_cases hq : q < len * j.size
              · rw [if_neg (by omega)]
                have hl0 : len ≠ 0 := by intro e0; subst e0; simp at hq
                rw [List.getElem?_append_left (by simp; omega), List.getElem?_take, if_pos hq, List.getElem?_drop] at e
                obtain ⟨v', e1, e2, e3⟩ := hcell _ _ e
                rw [cell_of_row _ _ _ _ _ _ hcur] at e1
                rw [ho hl0]
                exact ⟨v', by rw [show t'.off + k + q = t'.off + (k + q) by omega]; simpa using e1, e2.mono (iset_le _ g1), hv2⟩
              · rw [if_pos (by omega)]
                rw [List.getElem?_append_right (by simp; omega)] at e
                have hlen2 : ((cs.drop k).take (len * j.size)).length = len * j.size := by simp; omega
                rw [hlen2] at e
                obtain ⟨v', e1, e2⟩ := hv.get e
                exact ⟨v', by rw [show o + q - (o + len * j.size) = q - len * j.size by omega]; exact e1, e2.mono (iset_le _ g1), hv2⟩
            · simp only [List.length_append, List.length_take, List.length_drop, hyl]; omega
        · exact below_setRow (Below.refl _ _) ((hR.rng y t' ht').2.1 hto) _
      · -- it grows
        have hold : (Builtin.firstCells j.size len (.slice (some ⟨t'.block, o, none⟩) len c)).run P w.drew = .ok ol.toArray w.drew := by
          by_cases hl0 : len = 0
          · subst hl0
            have : ol = [] := List.eq_nil_of_length_eq_zero (by simpa using holl)
            subst this
            simp [Builtin.firstCells, loadCells, loadCellsFrom]
          · rw [ho hl0]
            exact run_firstCells_some w.drew j.size len _ len c ol holl (fun q v e => by simpa using holc q v e)
        have hrun := run_append_grow' (P := P) (ty := ty) (olds := ol) h0 h1 ht hdu hduo hj hz (rfl : Value.slice (some ⟨t'.block, o, none⟩) len c = _) hlen (hfc w.drew rfl) hold (by omega) hbig hby
        have hge := grownCap_ge w (len + m) c ety
        have hle := grownCap_le_maxLen w (len + m) c ety (by have : len + m ≤ 34359738368 := hbig
                                                             unfold maxLen; omega)
        have hcz : ((ol.toArray ++ ys'.toArray ++ Builtin.zeroCells z.cells (grownCap w (len + m) c ety - (len + m))) : Array Value).size = grownCap w (len + m) c ety * j.size := by
          simp only [Array.size_append, List.size_toArray, size_zeroCells, hzs', hyl', holl, ← Nat.add_mul]
          congr 1; omega
        have hvv : VRs ι ((cs.drop k).take (len * j.size) ++ ys) (ol ++ ys') := holv.append hv
        refine ⟨_, _, iset ι n ⟨w.heap.size, 0, true, P.cellsOf ety, (ol.toArray ++ ys'.toArray ++ Builtin.zeroCells z.cells (grownCap w (len + m) c ety - (len + m))).size⟩, _, run_value hrun, .inl rfl, ?_, iset_le _ g1, fun q hq => ?_, ?_, ?_, fun z ob e => by (cases e; simp [ht']), fun _ => by simp [iset_same]⟩
        · exact .slice n 0 (len + m) 0 _ _ (iset_same _ _ _) (fun _ => rfl) hge hle (fun _ => ⟨by simp only [hcof, Nat.zero_add]; exact Nat.le_of_eq hcz.symm, Nat.zero_mod _⟩)
        · rcases hq with hq | hq
          · exact iset_other _ _ hq
          · cases hq
        · show HR P base _ (patch C H (hset (hset H y .dead) n _)) _
          rw [patch_set2 hyn (.inl hC) (by rw [g2]; intro e; cases e)]
          have h3 := ((hR.kill y).same (w' := w.drew) rfl).alloc (n := n) (cs := (cs.drop k).take (len * j.size) ++ ys) (cur := ol.toArray ++ ys'.toArray ++ Builtin.zeroCells z.cells (grownCap w (len + m) c ety - (len + m))) (ty := ety) g1 ?_ ?_
          · exact h3
          · intro q v e
            obtain ⟨v', e1, e2⟩ := hvv.get e
            refine ⟨v', ?_, e2, List.all_eq_true.1 hone2 v (List.mem_of_getElem? e)⟩
            have hq : q < (ol ++ ys').length := by
              rcases Nat.lt_or_ge q (ol ++ ys').length with g | g
              · exact g
              · rw [List.getElem?_eq_none g] at e1; cases e1
            rw [Array.getElem?_append_left (by simpa using hq)]
            simpa using e1
          · rw [hcz]
            have : ((cs.drop k).take (len * j.size) ++ ys).length = (len + m) * j.size := by
              rw [hvv.1, List.length_append, holl, hyl', ← Nat.add_mul]
            rw [this]; exact Nat.mul_le_mul_right _ hge
        · exact (Below.refl _ _).drew.alloc hR.size _
  · cases h
end
end Go.AM
