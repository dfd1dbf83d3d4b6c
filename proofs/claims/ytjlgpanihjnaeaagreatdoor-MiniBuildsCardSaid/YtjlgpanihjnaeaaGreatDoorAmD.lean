/- A part of a proof. Its conditions: none. -/
import Derived.Test.YtjlgpanihjnaeaaGreatDoorAmB
set_option linter.all false
namespace Go.AM
open Go.RowKit
inductive Fk where
 | seq (b:Code)
 | block (id:Nat)
def wrap(c:Code):List Fk→Code
 | []=>c
 | .seq b::K=>wrap (.seq c b) K
 | .block id::K=>wrap (.block id c) K
structure WK(P:Program)(c:Code)(K:List Fk)(s:St)(Q:AExit→St→Prop):Prop where
 run:AW P (wrap c K) s Q
section
variable {P:Program} {K:List Fk} {s:St} {Q:AExit→St→Prop}
theorem wrap_imp:∀(K:List Fk) {c d:Code} {s t:St},(∀e s1,BS P (.code d t) (.at e s1)→BS P (.code c s) (.at e s1))→∀e s1,BS P (.code (wrap d K) t) (.at e s1)→BS P (.code (wrap c K) s) (.at e s1):=by
 intro K
 induction K with
 | nil=>intro c d s t h e s1 h1;exact h e s1 h1
 | cons k K ih =>
  intro c d s t h
  cases k with
  | seq b =>
   refine ih ?_
   intro e s1 h1
   cases h1 with
   | seq a b=>exact .seq (h _ _ a) b
   | seqOut he a=>exact .seqOut he (h _ _ a)
  | block id =>
   refine ih ?_
   intro e s1 h1
   cases h1 with
   | block a=>exact .block (h _ _ a)
theorem WK.imp{c d:Code}{t:St}(h:∀e s1,BS P (.code d t) (.at e s1)→BS P (.code c s) (.at e s1))(hd:WK P d K t Q):WK P c K s Q:=by
 obtain⟨e,s1,a,b⟩:=hd.run
 exact⟨e,s1,wrap_imp K h _ _ a,b⟩
theorem WK.seq{a b:Code}(h:WK P a (.seq b::K) s Q):WK P (.seq a b) K s Q:=⟨h.run⟩
theorem WK.block{id:Nat}{a:Code}(h:WK P a (.block id::K) s Q):WK P (.block id a) K s Q:=⟨h.run⟩
theorem WK.skipSeq{b:Code}(h:WK P b K s Q):WK P .skip (.seq b::K) s Q:=⟨(WK.imp (K:=K) (c:=.seq .skip b) (fun _ _ h=>.seq (.skip s) h) h).run⟩
theorem WK.skipBlock{id:Nat}(h:WK P .skip K s Q):WK P .skip (.block id::K) s Q:=⟨(WK.imp (K:=K) (c:=.block id .skip) (fun _ _ h=>by cases h;exact .block (e:=.normal) (.skip s)) h).run⟩
theorem WK.retSeq{b:Code}(h:WK P .ret K s Q):WK P .ret (.seq b::K) s Q:=⟨(WK.imp (K:=K) (c:=.seq .ret b) (fun _ _ h=>by cases h;exact .seqOut (by simp) (.ret s)) h).run⟩
theorem WK.retBlock{id:Nat}(h:WK P .ret K s Q):WK P .ret (.block id::K) s Q:=⟨(WK.imp (K:=K) (c:=.block id .ret) (fun _ _ h=>by cases h;exact .block (e:=.ret) (.ret s)) h).run⟩
theorem WK.exitSeq{i:Nat}{b:Code}(h:WK P (.exit i) K s Q):WK P (.exit i) (.seq b::K) s Q:=⟨(WK.imp (K:=K) (c:=.seq (.exit i) b) (fun _ _ h=>by cases h;exact .seqOut (by simp) (.exit i s)) h).run⟩
theorem WK.exitBlock{i j:Nat}(h:WK P (if i=j then .skip else .exit i) K s Q):WK P (.exit i) (.block j::K) s Q :=
 ⟨(WK.imp (K:=K) (c:=.block j (.exit i)) (fun e s1 h=>by
  have hb:=BS.block (P:=P) (id:=j) (.exit i s)
  unfold blockExit at hb
  split at h
  ·rename_i hij;cases h;simpa [hij] using hb
  ·rename_i hij;cases h;simpa [hij] using hb) h).run⟩
theorem WK.skipNil(h:Q .normal s):WK P .skip [] s Q:=⟨_,_,.skip s,h⟩
theorem WK.retNil(h:Q .ret s):WK P .ret [] s Q:=⟨_,_,.ret s,h⟩
theorem WK.cond{x:Operand}{a b:Code}(t:Bool)(hx:evalA s.f x=.bool t)(h:WK P (Bool.rec b a t) K s Q):WK P (.cond x a b) K s Q :=
 WK.imp (fun e s1 h=>.cond t hx (by cases t <;> exact h)) h
theorem WK.condT{x:Operand}{a b:Code}(hx:evalA s.f x=.bool true)(h:WK P a K s Q):WK P (.cond x a b) K s Q:=WK.cond true hx h
theorem WK.condF{x:Operand}{a b:Code}(hx:evalA s.f x=.bool false)(h:WK P b K s Q):WK P (.cond x a b) K s Q:=WK.cond false hx h
theorem WK.exitHere{i:Nat}(h:WK P .skip K s Q):WK P (.exit i) (.block i::K) s Q:=WK.exitBlock (by simpa using h)
theorem WK.exitOn{i j:Nat}(hij:Nat.beq i j=false)(h:WK P (.exit i) K s Q):WK P (.exit i) (.block j::K) s Q :=
 WK.exitBlock (by rw[if_neg (by intro e;subst e;simp at hij)];exact h)
theorem WK.unloop{c:Code}(h:WK P c (.seq (.loop c)::K) s Q):WK P (.loop c) K s Q :=
 WK.imp (K:=K) (d:=.seq c (.loop c)) (fun e s1 h=>by
  cases h with
  | seq a b=>exact .loop a b
  | seqOut he a=>exact .loopOut he a) ⟨h.run⟩
theorem WK.loop{c:Code}(I:Nat→St→Prop)(k:Nat)(h0:I k s)(hs:∀k s,I k s→(∀j,j<k→∀s1,I j s1→WK P (.loop c) K s1 Q)→WK P c (.seq (.loop c)::K) s Q):WK P (.loop c) K s Q:=by
 induction k using Nat.strongRecOn generalizing s with
 | ind k ih=>exact WK.unloop (hs k s h0 fun j hj s1 h1=>ih j hj h1)
def Call(P:Program)(pure:Bool)(g:FuncId)(args:List Value)(n:Nat)(H:Heap)(Q:Value→Nat→Heap→Prop):Prop :=
 ∃v n' H',BS P (.call g args n H) (.ret v n' H')∧(pure=true→∀x,x<n→H' x=H x)∧Q v n' H'
structure LR where
 rd:List Nat
 wr:Option Nat
def ltouch(r:LR)(x:Nat):Prop:=x∈r.rd∨r.wr=some x
def lapart(r q:LR):Prop:=(∀x,r.wr=some x→¬ltouch q x)∧(∀x,q.wr=some x→¬ltouch r x)
def lightOK:List (Nat × Nat)→List LR→Prop
 | [],_=>True
 | p::ps,l=>(match l[p.1]?,l[p.2]? with
  | some r,some q=>lapart r q
  | _,_=>True)∧lightOK ps l
def lrOf(r:Rec):LR:=⟨r.rd,r.wr⟩
theorem light_draw{ops:Array Oper}{l:List Rec}(h:lightOK (sPairs ops) (l.map lrOf))(hc:∀r∈l,r.call=true→∀x,x<r.pre.n→r.H x=r.pre.H x):drawOK ops l:=by
 refine⟨fun p hp x=>?_,fun k r e hcl=>.inr (hc r (List.mem_of_getElem? e) hcl)⟩
 have key:∀(ps:List (Nat × Nat)),lightOK ps (l.map lrOf)→p∈ps→∀r q,l[p.1]? = some r→l[p.2]? = some q→lapart (lrOf r) (lrOf q):=by
  intro ps
  induction ps with
  | nil=>intro _ hp;cases hp
  | cons p' ps ih =>
   intro h hp r q e1 e2
   rcases List.mem_cons.1 hp with e|hp
   ·subst e
    have:=h.1
    simpa [e1,e2] using this
   ·exact ih h.2 hp r q e1 e2
 constructor
 ·rintro⟨⟨r,e1,e2⟩,q,e3,e4⟩
  exact(key _ h hp r q e1 e3).1 x e2 e4
 ·rintro⟨⟨q,e1,e2⟩,r,e3,e4⟩
  exact(key _ h hp r q e3 e1).2 x e2 e4
end
structure Kp(n:Nat)(H:Heap)(n':Nat)(H':Heap):Prop where
 le:n≤n'
 keep:∀x,x<n→H' x=H x
 wf:WF n H→WF n' H'
theorem Kp.refl(n:Nat)(H:Heap):Kp n H n H:=⟨Nat.le_refl _,fun _ _=>rfl,id⟩
theorem Kp.trans{n n1 n2:Nat}{H H1 H2:Heap}(a:Kp n H n1 H1)(b:Kp n1 H1 n2 H2):Kp n H n2 H2 :=
 ⟨Nat.le_trans a.le b.le,fun x hx=>(b.keep x (Nat.lt_of_lt_of_le hx a.le)).trans (a.keep x hx),fun h=>b.wf (a.wf h)⟩
def Gives(P:Program)(g:FuncId)(args:List Value)(n:Nat)(H:Heap)(Q:Value→Nat→Heap→Prop):Prop :=
 ∃v n' H',BS P (.call g args n H) (.ret v n' H')∧Kp n H n' H'∧Q v n' H'
def packed:List Value→Value
 | [v]=>v
 | l=>.tuple l.toArray
def Fin(P:Program)(results:List ResultVar)(n:Nat)(H:Heap)(Q:Value→Nat→Heap→Prop)(e:AExit)(s:St):Prop :=
 (e=.normal∨e=.ret)∧∃l,aresultsL P s results=some l∧(∀x,x<n→s.H x=H x)∧Q (packed l) s.n s.H
theorem Gives.of{P:Program}(hm:P.follows .mixedOrders=true){g:FuncId}{args:List Value}{n:Nat}{H:Heap}{Q:Value→Nat→Heap→Prop}{fn:Func}{c:Code}(hok:FnOK P g fn c)(hl:args.length≤fn.ntmps)
  (h:WK P c [] ⟨fun t=>args.getD t undef,n,H⟩ (Fin P fn.results.toList n H Q)):Gives P g args n H Q:=by
 obtain⟨e,s,h1,he,l,hv,hx,hq⟩:=h.run
 have hb:=BS.call hok hl h1 he (v:=packed l) (by
  unfold aresults
  rw[hv]
  match l with
  | []=>rfl
  | [v]=>rfl
  | _::_::_=>rfl)
 obtain⟨hmono,_⟩:=sound hm hb
 exact⟨_,s.n,s.H,hb,⟨hmono.le,hx,hmono.wf⟩,hq⟩
theorem Gives.call{P:Program}{pure:Bool}{g:FuncId}{args:List Value}{n:Nat}{H:Heap}{Q R:Value→Nat→Heap→Prop}(h:Gives P g args n H Q)(hqr:∀v n' H',Kp n H n' H'→Q v n' H'→R v n' H'):Call P pure g args n H R:=by
 obtain⟨v,n',H',a,b,c⟩:=h;exact⟨v,n',H',a,fun _=>b.keep,hqr v n' H' b c⟩
theorem wrap_in{n:Int}(h1 : -9223372036854775808≤n)(h2:n≤9223372036854775807):IntKind.wrap .i64 n=n:=by
 simp only[IntKind.wrap,IntKind.signed,IntKind.bits]
 simp
 omega
end Go.AM
namespace Go.AM
open Go.RowKit
def tval:Option Value→Option Res
 | some v=>some { v:=v }
 | none=>none
def tor:Option Value→Option Res→Option Res
 | some v,_=>some { v:=v }
 | none,a=>a
def tload3:Option Value→Nat→Option Res
 | some v,x=>some { v:=v,rd:=[x] }
 | none,_=>none
def tload2(P:Program)(t:TypeId)(b:Option Bool)(k x:Nat):AObj→Option Res
 | .cells cs _ _=>match b with
  | some true=>if k+P.cellsOf t≤cs.length then some { v:=.agg ((cs.drop k).take (P.cellsOf t)).toArray,rd:=[x] } else none
  | some false=>tload3 (cs[k]?) x
  | none=>none
 | .rows cs _ _=>match b with
  | some true=>if k+P.cellsOf t≤cs.length then some { v:=.agg ((cs.drop k).take (P.cellsOf t)).toArray,rd:=[x] } else none
  | some false=>tload3 (cs[k]?) x
  | none=>none
 | _=>none
def tload(P:Program)(t:TypeId)(H:Heap):Value→Option Res
 | .pointer (some ⟨x,k,none⟩)=>tload2 P t (aggT P t) k x (H x)
 | _=>none
def tstore3(sz:Option Nat)(y k:Nat)(ty:TypeId)(cs vs:List Value):Option Res :=
 if sz=some vs.length∧vs.all one=true∧k+vs.length≤cs.length then some { v:=undef,wr:=some (y,.cells (splice cs k vs) ty true) } else none
def tstore2(sz:Option Nat)(y k:Nat)(vs:List Value):AObj→Option Res
 | .cells cs ty true=>tstore3 sz y k ty cs vs
 | _=>none
def tstore(P:Program)(t:TypeId)(H:Heap)(v:Value):Value→Option Res
 | .pointer (some ⟨y,k,none⟩)=>tstore2 (isz P t) y k (vcells v) (H y)
 | _=>none
def tidx2:Option (TypeId × Nat)→Nat→Nat→Nat→Int→Option Res
 | some (_,j),y,k,len,i=>if 0≤i∧i<len then some { v:=.pointer (some ⟨y,k+i.toNat*j,none⟩) } else none
 | none,_,_,_,_=>none
def earr(P:Program)(t:TypeId):Option (TypeId × Nat × Nat):=match P.underlying t with
 | some (.array len e)=>(isz P e).map fun j=>(e,j,len)
 | _=>none
def tidx3:Option (TypeId × Nat × Nat)→Nat→Nat→Int→Option Res
 | some (_,j,len),y,k,i=>if 0≤i∧i<len then some { v:=.pointer (some ⟨y,k+i.toNat*j,none⟩) } else none
 | none,_,_,_=>none
def tidx(P:Program)(t:TypeId):Value→Value→Option Res
 | .slice (some ⟨y,k,none⟩) len _,.int _ i=>tidx2 (esz P t) y k len i
 | .slice (some ⟨y,k,some z⟩) len _,.int _ i=>if z=0 then tidx2 (esz P t) y k len i else none
 | .pointer (some ⟨y,k,none⟩),.int _ i=>tidx3 (earr P t) y k i
 | _,_=>none
def tfa2:Option Nat→Nat→Nat→Option Res
 | some f,y,k=>some { v:=.pointer (some ⟨y,k+f,none⟩) }
 | none,_,_=>none
def tfa(P:Program)(t:TypeId)(i:Nat):Value→Option Res
 | .pointer (some ⟨y,k,none⟩)=>tfa2 (fofs P t i) y k
 | _=>none
def tlen3(y:Nat):AObj→Option Res
 | .map es _ _=>some { v:=.int .i64 es.length,rd:=[y] }
 | _=>none
def tlen2(H:Heap):Option TypeDesc→Value→Option Res
 | some (.slice _),.slice _ m _=>some { v:=.int .i64 m }
 | some .string,.string s=>some { v:=.int .i64 s.size }
 | some (.map _ _),.map (some y)=>tlen3 y (H y)
 | _,_=>none
def tpick(a b:Value):Value→Option Res
 | .bool t=>some { v:=cond t a b }
 | _=>none
def textr(i:Nat):Value→Option Res
 | .tuple vs=>tval (vs.toList[i]?)
 | _=>none
def tbox(n:Nat)(t:TypeId)(vs:List Value):Option Res :=
 if vs.all one=true then some { v:=.pointer (some ⟨n,0,none⟩),news:=[.cells vs t true] } else none
def talloc(n:Nat)(t:TypeId):Option Value→Option Res
 | some z=>if still z=true∧(vcells z).all one=true then some { v:=.pointer (some ⟨n,0,none⟩),news:=[.cells (vcells z) t true] } else none
 | none=>none
def tmake(n:Nat):Option (TypeId × List Value)→Value→Value→Option Res
 | some (elem,zs),.int _ l,.int _ c=>if 0≤l∧l≤c∧c≤bigN then some { v:=.slice (some ⟨n,0,none⟩) l.toNat l.toNat,news:=[.cells (rep l.toNat zs) elem true] } else none
 | _,_,_=>none
def tbuild:Option (List Value × List (Nat × Nat))→List (Nat × Value)→Option Res
 | some (zs,places),ps=>(afill (fun i=>places[i]?) zs ps).map fun cs=>{ v:=.agg cs.toArray }
 | none,_=>none
def tbs2(n:Nat)(elem:TypeId)(len:Nat):Option (List Value)→Option Res
 | some cs=>some { v:=.slice (some ⟨n,0,none⟩) len len,news:=[.cells cs elem true] }
 | none=>none
def tbs(n:Nat)(len:Nat):Option (TypeId × Nat × List Value)→List (Nat × Value)→Option Res
 | some (elem,sz,zs),ps=>tbs2 n elem len (afill (fun i=>some (i*sz,sz)) (rep len zs) ps)
 | none,_=>none
def tfld2:Option (Bool × Nat × Nat)→List Value→Option Res
 | some (true,off,sz),cs=>if off+sz≤cs.length then some { v:=.agg ((cs.drop off).take sz).toArray } else none
 | some (false,off,_),cs=>tval (cs[off]?)
 | none,_=>none
def tfld(P:Program)(t:TypeId)(i:Nat):Value→Option Res
 | .agg cs=>tfld2 (fcel P t i) cs.toList
 | _=>none
def tsl3(P:Program)(y k j l h len:Nat):AObj→Option Res
 | .cells _ ty own=>if l≤h∧h≤len∧(own=true→isz P ty=some j) then some { v:=.slice (some ⟨y,k+l*j,none⟩) (h - l) (h - l),rd:=[y] } else none
 | _=>none
def tsl2(P:Program)(H:Heap)(y k len:Nat):Option (TypeId × Nat)→Option Nat→Option Nat→Option Res
 | some (_,j),some l,some h=>tsl3 P y k j l h len (H y)
 | _,_,_=>none
def tsl4(z y k len:Nat):Option (TypeId × Nat)→Option Nat→Option Nat→Option Res
 | some (_,j),some l,some h=>if z=0∧l≤h∧h≤len then some { v:=.slice (some ⟨y,k+l*j,some 0⟩) (h - l) (h - l) } else none
 | _,_,_=>none
def tsl5(y k:Nat)(lo hi:Option Value):Option (TypeId × Nat × Nat)→Option Res
 | some (_,j,N)=>match bound lo 0,bound hi N with
  | some l,some h=>if l≤h∧h≤N∧N≤maxLen then some { v:=.slice (some ⟨y,k+l*j,some 0⟩) (h - l) (h - l) } else none
  | _,_=>none
 | none=>none
def tsl(P:Program)(t:TypeId)(H:Heap)(alt:Option Res)(lo hi:Option Value):Value→Option Res
 | .slice (some ⟨y,k,none⟩) len _=>tsl2 P H y k len (esz P t) (bound lo 0) (bound hi len)
 | .slice (some ⟨y,k,some z⟩) len _=>tsl4 z y k len (esz P t) (bound lo 0) (bound hi len)
 | .pointer (some ⟨y,k,none⟩)=>tsl5 y k lo hi (earr P t)
 | .slice none 0 0=>alt
 | .string _=>alt
 | _=>none
def tix2:Option UInt8→Option Res
 | some b=>some { v:=.int .u8 b.toNat }
 | none=>none
def tix1(s:ByteArray)(i:Int):Option TypeDesc→Option Res
 | some .string=>if 0≤i then tix2 (s[i.toNat]?) else none
 | _=>none
def tix(P:Program)(t:TypeId):Value→Value→Option Res
 | .string s,.int _ i=>tix1 s i (P.underlying t)
 | _,_=>none
def tap4 (n : Nat) (elem j : Nat) (y k len : Nat) (ys : List Value) (rd : List Nat) (m : Nat) : AObj → Option Res
  | .cells cs ty true => if len + m ≤ bigN ∧ k + len * j ≤ cs.length ∧ ty = elem ∧ rd.contains y = false then
      some { v := .slice (some ⟨n, 0, none⟩) (len + m) (len + m), news := [.cells ((cs.drop k).take (len * j) ++ ys) elem true], wr := some (y, .dead), rd := rd } else none
  | _ => none
def tap3(n:Nat)(H:Heap)(elem j:Nat)(ys:List Value)(rd:List Nat)(m:Nat):Value→Option Res
 | .slice none 0 0=>if m>bigN then none else if m=0 then some { v:=.slice none 0 0,rd:=rd } else some { v:=.slice (some ⟨n,0,none⟩) m m,news:=[.cells ys elem true],rd:=rd }
 | .slice (some ⟨y,k,none⟩) len _=>tap4 n elem j y k len ys rd m (H y)
 | _=>none
def tap2(n:Nat)(H:Heap)(elem j:Nat)(s:Value):Option (List Value × List Nat × Nat)→Option Res
 | some (ys,rd,m)=>tap3 n H elem j ys rd m s
 | none=>none
def tsrc2(size y k m:Nat):AObj→Option (List Value × List Nat × Nat)
 | .cells cs _ _=>if k+m*size≤cs.length then some ((cs.drop k).take (m*size),[y],m) else none
 | _=>none
def tsrc(H:Heap)(size:Nat):Value→Option (List Value × List Nat × Nat)
 | .slice none 0 0=>some ([],[],0)
 | .slice (some ⟨y,k,none⟩) m _=>tsrc2 size y k m (H y)
 | .string s=>if size=1 then some (s.data.toList.map fun b=>.int .u8 b.toNat,[],s.size) else none
 | _=>none
def tap(n:Nat)(H:Heap)(s x:Value):Option (TypeId × Nat)→Option Res
 | some (elem,j)=>tap2 n H elem j s (tsrc H j x)
 | none=>none
def top(P:Program)(ρ:Operand→Value)(n:Nat)(H:Heap)(o:Oper):Option Res :=
 match o.op with
 | .move x|.assign x=>some { v:=ρ x }
 | .pick c a b=>tpick (ρ a) (ρ b) (ρ c)
 | .binOp op t x y _=>tor (vsh op (ρ x) (ρ y)) (tor (vbin P op t (ρ x) (ρ y)) (aop P ρ n H o))
 | .unOp op _ x=>tval (vun op (ρ x))
 | .convert s d x=>tor (vconv P s d (ρ x)) (aop P ρ n H o)
 | .index t x i=>tix P t (ρ x) (ρ i)
 | .fieldAddr t x i=>tfa P t i (ρ x)
 | .indexAddr t x i=>tidx P t (ρ x) (ρ i)
 | .alloc t=>talloc n t (zeroT P t)
 | .box t x=>tbox n t (vcells (ρ x))
 | .load t a=>tload P t H (ρ a)
 | .store t a x=>tstore P t H (ρ x) (ρ a)
 | .makeSlice t l c=>tmake n (emk P t) (ρ l) (ρ c)
 | .field t x i=>tfld P t i (ρ x)
 | .build t ps=>tbuild (ebd P t) (ps.toList.map fun(i,x)=>(i,ρ x))
 | .buildSlice t len ps=>tbs n len (ebs P t len) (ps.toList.map fun(i,x)=>(i,ρ x))
 | .slice t x lo hi none=>tsl P t H (aop P ρ n H o) (lo.map ρ) (hi.map ρ) (ρ x)
 | .extract x i=>textr i (ρ x)
 | .call { callee:=.builtin .len,args,argTypes }=>match args.toList with
  | [x]=>tlen2 H (undT P argTypes) (ρ x)
  | _=>none
 | .call { callee:=.builtin .append,args,argTypes }=>match args.toList with
  | [s,x]=>match growT P argTypes with
   | false=>tap n H (ρ s) (ρ x) (eapp P argTypes)
   | true=>agrow P n H argTypes (ρ s) (ρ x)
  | _=>none
 | _=>aop P ρ n H o
section
variable {P:Program} {ρ:Operand→Value} {n:Nat} {H:Heap}
theorem tsrc_eq{j:Nat}{x:Value}{r}(h:tsrc H j x=some r):asrc H j x=some r:=by
 unfold tsrc at h
 unfold asrc
 split at h
 ·exact h
 ·unfold tsrc2 at h
  split at h
  ·rename_i hy;simp only[hy];exact h
  ·cases h
 ·exact h
 ·cases h
theorem top_sound{o:Oper}{r:Res}(h:top P ρ n H o=some r):aop P ρ n H o=some r:=by
 unfold top at h
 split at h
 ·rename_i ho;unfold aop;simp only[ho];exact h
 ·rename_i ho;unfold aop;simp only[ho];exact h
 ·rename_i ho;unfold aop;simp only[ho];unfold tpick at h;exact h
 ·rename_i ho
  unfold tor at h
  split at h
  ·rename_i hv;cases h;exact vsh_sound ho hv
  ·split at h
   ·rename_i hv;cases h;exact vbin_sound ho hv
   ·exact h
 ·rename_i ho
  unfold tval at h
  split at h
  ·rename_i hv;cases h;exact vun_sound ho hv
  ·cases h
 ·rename_i ho
  unfold tor at h
  split at h
  ·rename_i hv;cases h;exact vconv_sound ho hv
  ·exact h
 ·rename_i ho
  unfold tix at h
  split at h
  ·rename_i hx hi
   unfold tix1 at h
   split at h
   case h_2=>cases h
   rename_i hu
   split at h
   case isFalse=>cases h
   rename_i hc
   unfold tix2 at h
   split at h
   case h_2=>cases h
   rename_i hb
   cases h
   refine sop_sound ?_
   unfold sop
   simp only[ho,hx,hi,hu,if_pos hc,hb,Option.map_some]
  ·cases h
 ·rename_i ho
  refine sop_sound ?_
  unfold sop
  simp only[ho]
  unfold tfa at h
  split at h
  case h_2=>cases h
  rename_i hx
  simp only[hx]
  unfold tfa2 at h
  split at h
  case h_2=>cases h
  rename_i hf
  simp only[hf];exact h
 ·rename_i ho
  unfold tidx at h
  split at h
  ·rename_i hx hi
   refine sop_sound ?_
   unfold sop
   simp only[ho,hx,hi]
   unfold tidx2 at h
   split at h
   case h_2=>cases h
   rename_i he
   simp only[he];exact h
  ·rename_i hx hi
   split at h
   case isFalse=>cases h
   rename_i hz
   subst hz
   unfold tidx2 at h
   split at h
   case h_2=>cases h
   rename_i e j he
   unfold esz at he
   split at he
   case h_2=>cases he
   rename_i e' hu
   obtain⟨j',h1,h2⟩:=Option.map_eq_some_iff.1 he
   obtain⟨i,hi1,hi2⟩:=isz_some h1
   cases h2
   unfold aop aindexAddr
   simp only[ho,hx,hi,hu,hi1]
   split at h
   ·rename_i hc;cases h;simp[ok,hc,hi2]
   ·cases h
  ·rename_i hx hi
   unfold tidx3 at h
   split at h
   case h_2=>cases h
   rename_i e j len he
   unfold earr at he
   split at he
   case h_2=>cases he
   rename_i len' e' hu
   obtain⟨j',h1,h2⟩:=Option.map_eq_some_iff.1 he
   obtain⟨i,hi1,hi2⟩:=isz_some h1
   cases h2
   unfold aop aindexAddr
   simp only[ho,hx,hi,hu,hi1]
   split at h
   ·rename_i hc;cases h;simp[ok,hc,hi2]
   ·cases h
  ·cases h
 ·rename_i ho
  refine sop_sound ?_
  unfold sop
  simp only[ho]
  unfold talloc at h
  exact h
 ·rename_i ho
  unfold aop abox
  simp only[ho]
  exact h
 ·rename_i ho
  unfold aop
  simp only[ho]
  unfold tload at h
  split at h
  case h_2=>cases h
  rename_i hx
  simp only[aload,hx]
  unfold tload2 at h
  split at h
  case h_3=>cases h
  all_goals
   rename_i hy
   simp only[hy]
   split at h
   ·rename_i hb;simp only[hb];exact h
   ·rename_i hb
    simp only[hb]
    unfold tload3 at h
    split at h
    ·rename_i hv;simp only[hv];exact h
    ·cases h
   ·cases h
 ·rename_i ho
  refine sop_sound ?_
  unfold sop
  simp only[ho]
  unfold tstore at h
  split at h
  case h_2=>cases h
  rename_i hx
  simp only[hx]
  unfold tstore2 at h
  split at h
  case h_2=>cases h
  rename_i hy
  simp only[hy]
  exact h
 ·rename_i ho
  refine sop_sound ?_
  unfold sop
  simp only[ho]
  unfold tmake at h
  exact h
 ·rename_i ho
  refine sop_sound ?_
  unfold sop
  simp only[ho]
  unfold tfld at h
  split at h
  case h_2=>cases h
  rename_i hx
  simp only[hx]
  unfold tfld2 at h
  split at h
  ·rename_i hf;simp only[hf];exact h
  ·rename_i hf
   simp only[hf]
   unfold tval at h
   split at h
   ·rename_i hv;simp only[hv,Option.map_some];exact h
   ·cases h
  ·cases h
 ·rename_i ho
  refine sop_sound ?_
  unfold sop
  simp only[ho]
  unfold tbuild at h
  split at h
  ·rename_i he;simp only[he];exact h
  ·cases h
 ·rename_i ho
  refine sop_sound ?_
  unfold sop
  simp only[ho]
  unfold tbs at h
  split at h
  ·rename_i he
   simp only[he]
   unfold tbs2 at h
   split at h
   ·rename_i hf;simp only[hf,Option.map_some];exact h
   ·cases h
  ·cases h
 ·rename_i t x lo hi ho
  unfold tsl at h
  split at h
  ·rename_i hx
   refine sop_sound ?_
   unfold sop
   simp only[ho,hx]
   unfold tsl2 at h
   split at h
   case h_2=>cases h
   rename_i he hl hh
   simp only[he,hl,hh]
   unfold tsl3 at h
   split at h
   ·rename_i hy;simp only[hy];exact h
   ·cases h
  ·rename_i hx
   unfold tsl4 at h
   split at h
   case h_2=>cases h
   rename_i e j l hh he hl hb
   split at h
   case isFalse=>cases h
   rename_i hc
   obtain⟨rfl,hc1,hc2⟩:=hc
   unfold esz at he
   split at he
   case h_2=>cases he
   rename_i e' hu
   obtain⟨j',h1,h2⟩:=Option.map_eq_some_iff.1 he
   obtain⟨i,hi1,hi2⟩:=isz_some h1
   cases h2
   cases h
   unfold aop aslice
   simp only[ho,hx,hu,hi1,hl,hb]
   simp[hc1,hc2,hi2]
  ·rename_i hx
   unfold tsl5 at h
   split at h
   case h_2=>cases h
   rename_i e j N he
   split at h
   case h_2=>cases h
   rename_i l hh hl hb
   split at h
   case isFalse=>cases h
   rename_i hc
   unfold earr at he
   split at he
   case h_2=>cases he
   rename_i N' e' hu
   obtain⟨j',h1,h2⟩:=Option.map_eq_some_iff.1 he
   obtain⟨i,hi1,hi2⟩:=isz_some h1
   cases h2
   cases h
   unfold aop aslice
   simp only[ho,hx,hu,hi1,hl,hb]
   simp[hc,hi2]
  ·exact h
  ·exact h
  ·cases h
 ·rename_i ho
  unfold aop
  simp only[ho]
  unfold textr at h
  split at h
  ·rename_i hx
   simp only[hx]
   unfold tval at h
   unfold ok
   split at h
   ·rename_i hv;rw[hv];exact h
   ·cases h
  ·cases h
 ·rename_i ho
  split at h
  case h_2=>cases h
  rename_i hx
  refine sop_sound ?_
  unfold sop
  simp only[ho,hx]
  unfold tlen2 at h
  split at h
  ·rename_i hu hv;simp only[hu,hv];exact h
  ·rename_i hu hv;simp only[hu,hv];exact h
  ·rename_i hu hv
   unfold tlen3 at h
   split at h
   case h_2=>cases h
   rename_i hy
   simp only[hu,hv]
   unfold aop
   simp only[ho,hx]
   unfold alen
   unfold undT at hu
   simp only[hu,hv,hy]
   exact h
  ·cases h
 ·rename_i ho
  split at h
  case h_2=>cases h
  rename_i hx
  split at h
  ·rename_i hgt
   refine sop_sound ?_
   unfold sop
   simp only[ho,hx,hgt]
   unfold tap at h
   split at h
   case h_2=>cases h
   rename_i he
   simp only[he]
   unfold tap2 at h
   split at h
   case h_2=>cases h
   rename_i hs
   simp only[tsrc_eq hs]
   unfold tap3 at h
   split at h
   ·rename_i hv;simp only[hv];exact h
   ·rename_i hv
    simp only[hv]
    unfold tap4 at h
    split at h
    ·rename_i hy;simp only[hy];exact h
    ·cases h
   ·cases h
  ·rename_i hgt
   unfold aop
   simp only[ho,hx,hgt]
   exact h
 ·exact h
end
section
variable {P:Program} {ρ:Operand→Value} {n:Nat} {H:Heap} {d:Option Nat} {ty:TypeId} {p:String} {af:Array Edge} {g:Option (Nat × Bool)}
end
end Go.AM
namespace Go.AM
open Go.RowKit
variable {α:Type}
def RA(enc:α→Value)(H:Heap)(a:Option Addr)(l:List α):Prop :=
 l≠[]→∃x k cs ty own,a=some ⟨x,k,none⟩∧H x=.cells cs ty own∧∀i y,l[i]? = some y→cs[k+i]? = some (enc y)
theorem RA.mono{enc:α→Value}{n n':Nat}{H H':Heap}{a:Option Addr}{l:List α}(h:RA enc H a l)(hw:WF n H)(hk:Kp n H n' H'):RA enc H' a l:=by
 intro hl
 obtain⟨x,k,cs,ty,own,e1,e2,e3⟩:=h hl
 refine⟨x,k,cs,ty,own,e1,?_,e3⟩
 rw[hk.keep x,e2]
 apply Classical.byContradiction
 intro hx
 rw[hw x (by omega)]at e2;cases e2
theorem RA.at{enc:α→Value}{H:Heap}{a:Option Addr}{l:List α}(h:RA enc H a l){i:Nat}(hi:i<l.length) :
  ∃x k cs ty own,a=some ⟨x,k,none⟩∧H x=.cells cs ty own∧cs[k+i]? = some (enc l[i]):=by
 obtain⟨x,k,cs,ty,own,e1,e2,e3⟩:=h (by intro e;simp[e]at hi)
 exact⟨x,k,cs,ty,own,e1,e2,e3 i _ (List.getElem?_eq_getElem hi)⟩
def RS(enc:α→Value)(H:Heap)(a:Option Addr)(l:List α):Prop :=
 (a=none∧l=[])∨∃x k cs ty own,a=some ⟨x,k,none⟩∧H x=.cells cs ty own∧k+l.length≤cs.length∧∀i y,l[i]? = some y→cs[k+i]? = some (enc y)
theorem RS.ra{enc:α→Value}{H:Heap}{a:Option Addr}{l:List α}(h:RS enc H a l):RA enc H a l:=by
 intro hl
 rcases h with⟨_,h⟩|⟨x,k,cs,ty,own,e1,e2,_,e3⟩
 ·exact absurd h hl
 ·exact⟨x,k,cs,ty,own,e1,e2,e3⟩
theorem RS.mono{enc:α→Value}{n n':Nat}{H H':Heap}{a:Option Addr}{l:List α}(h:RS enc H a l)(hw:WF n H)(hk:Kp n H n' H'):RS enc H' a l:=by
 rcases h with h|⟨x,k,cs,ty,own,e1,e2,e3,e4⟩
 ·exact .inl h
 ·refine .inr ⟨x,k,cs,ty,own,e1,?_,e3,e4⟩
  rw[hk.keep x,e2]
  apply Classical.byContradiction
  intro hx
  rw[hw x (by omega)]at e2;cases e2
theorem Kp.new(n:Nat)(H:Heap)(o:AObj):Kp n H (n+1) (hset H n o) :=
 ⟨Nat.le_succ n,fun x hx=>by rw[hset_apply,if_neg (by omega)],fun h x hx=>by rw[hset_apply,if_neg (by omega)];exact h x (by omega)⟩
theorem hset_at(H:Heap)(n:Nat)(o:AObj):hset H n o n=o:=by rw[hset_apply,if_pos rfl]
theorem hset_ne(H:Heap)(n:Nat)(o:AObj){x:Nat}(h:x≠n):hset H n o x=H x:=by rw[hset_apply,if_neg h]
theorem Kp.set{n n1:Nat}{H H1:Heap}(h:Kp n H n1 H1){x:Nat}(o:AObj)(hx:n≤x)(hx1:x<n1):Kp n H n1 (hset H1 x o) :=
 ⟨h.le,fun y hy=>by rw[hset_ne _ _ _ (by omega)];exact h.keep y hy,fun hw y hy=>by rw[hset_ne _ _ _ (by omega)];exact h.wf hw y hy⟩
end Go.AM
namespace Go.AM
open Go.RowKit
def w3(k:Fr→Nat→Heap→Prop)(f:Fr)(d:Option Nat)(n:Nat)(H:Heap):Option Res→Prop
 | some r=>k (fput f d r.v) (r.next n) (r.heap n H)
 | none=>False
def AtCall(P:Program)(draw:Bool)(k:Fr→Nat→Heap→Prop)(f:Fr)(d:Option Nat)(n:Nat)(H:Heap)(g:FuncId)(args:List Value)(ext:Option Res):Prop :=
 w3 k f d n H ext∨Call P draw g args n H fun v n H=>k (fput f d v) n H
def w2(P:Program)(draw:Bool)(k:Fr→Nat→Heap→Prop)(o:Oper)(f:Fr)(n:Nat)(H:Heap):Option (FuncId × List Value)→Prop
 | none=>w3 k f o.dst n H (top P (evalA f) n H o)
 | some (g,args)=>AtCall P draw k f o.dst n H g args (aop P (evalA f) n H o)
def w1(P:Program)(draw:Bool)(k:Fr→Nat→Heap→Prop)(o:Oper)(f:Fr)(n:Nat)(H:Heap):Bool→Prop
 | false=>k (fput f o.dst undef) n H
 | true=>w2 P draw k o f n H (acallee (evalA f) o)
def wx(P:Program)(draw:Bool)(all:Array Oper)(K:List Fk)(Q:AExit→St→Prop):List Oper→Fr→Nat→Heap→Prop
 | [],f,n,H=>WK P .skip K ⟨f,n,H⟩ Q
 | o::rest,f,n,H=>w1 P draw (wx P draw all K Q rest) o f n H (wantedA all f o)
theorem wx_sound {P : Program} {draw : Bool} {all : Array Oper} {K : List Fk} {Q : AExit → St → Prop} (hp : _root_.cond draw (sPairs all) [] = []) : ∀ (rest : List Oper) (f : Fr) (n : Nat) (H : Heap) (l : List LR), wx P draw all K Q rest f n H →
    ∃ s1 l, BS P (.ops all rest ⟨f, n, H⟩) (.log s1 l) ∧ (draw = true → ∀ r ∈ l, r.call = true → ∀ x, x < r.pre.n → r.H x = r.pre.H x) ∧ WK P .skip K s1 Q := by
  intro rest
  induction rest with
  | nil => intro f n H l h; exact ⟨⟨f, n, H⟩, [], .opsNil all _, (fun _ r hr => by cases hr), h⟩
  | cons o rest ih =>
    intro f n H l h
    simp only [wx] at h
    have op : ∀ t, (∀ r, t = some r → aop P (evalA f) n H o = some r) → wantedA all f o = true → w3 (wx P draw all K Q rest) f o.dst n H t →
        ∃ s1 l, BS P (.ops all (o :: rest) ⟨f, n, H⟩) (.log s1 l) ∧ (draw = true → ∀ r ∈ l, r.call = true → ∀ x, x < r.pre.n → r.H x = r.pre.H x) ∧ WK P .skip K s1 Q := fun t ht hw h => by
      cases t with
      | none => cases h
      | some r =>
        obtain ⟨s1, l, h1, h2, h3⟩ := ih _ _ _ l h
        refine ⟨s1, _, .opsOp hw (ht r rfl) h1, fun hd r hr hc => ?_, h3⟩
        rcases List.mem_cons.1 hr with hr | hr
        · subst hr; cases hc
        · exact h2 hd r hr hc
    cases hw : wantedA all f o with
    | false =>
      rw [hw] at h
      obtain ⟨s1, l, h1, h2, h3⟩ := ih _ _ _ l h
      refine ⟨s1, _, .opsSkip hw h1, fun hd r hr hc => ?_, h3⟩
      rcases List.mem_cons.1 hr with hr | hr
      · subst hr; cases hc
      · exact h2 hd r hr hc
    | true =>
      rw [hw] at h
      simp only [w1] at h
      cases hg : acallee (evalA f) o with
      | none => rw [hg] at h; exact op _ (fun r hr => top_sound hr) hw h
      | some c =>
        obtain ⟨g, args⟩ := c
        rw [hg] at h
        rcases h with h | ⟨v, n1, H1, hb, hf, h⟩
        · exact op _ (fun r hr => hr) hw h
        · obtain ⟨s1, l, h1, h2, h3⟩ := ih _ _ _ l h
          refine ⟨s1, _, .opsCall hw hg hb h1, fun hd r hr hc => ?_, h3⟩
          rcases List.mem_cons.1 hr with hr | hr
          · subst hr; exact hf hd
          · exact h2 hd r hr hc
theorem WK.rgn{P:Program}{K:List Fk}{Q:AExit→St→Prop}{f:Fr}{n:Nat}{H:Heap}{id:Nat}{ops:Array Oper}{draw:Bool}(hp:_root_.cond draw (sPairs ops) []=[])(h:wx P draw ops K Q ops.toList f n H) :
  WK P (.region id ops draw) K ⟨f,n,H⟩ Q:=by
 obtain⟨s1,l,h1,h2,h3⟩:=wx_sound hp _ _ _ _ [] h
 refine WK.imp (d:=.skip) (t:=s1) (fun e s2 h=>?_) h3
 cases h
 cases draw with
 | false=>exact .region h1
 | true =>
  refine .regionDraw h1 ⟨fun p hp'=>?_,fun k r e hcl=>.inr (h2 rfl r (List.mem_of_getElem? e) hcl)⟩
  have hp:sPairs ops=[]:=hp
  rw[hp]at hp';cases hp'
section
variable {P:Program} {draw:Bool} {k:Fr→Nat→Heap→Prop} {o:Oper} {f:Fr} {d:Option Nat} {n:Nat} {H:Heap}
theorem w1_false:w1 P draw k o f n H false=k (fput f o.dst undef) n H:=rfl
theorem w1_true:w1 P draw k o f n H true=w2 P draw k o f n H (acallee (evalA f) o):=rfl
theorem w2_none:w2 P draw k o f n H none=w3 k f o.dst n H (top P (evalA f) n H o):=rfl
theorem w2_some(g:FuncId)(args:List Value):w2 P draw k o f n H (some (g,args))=AtCall P draw k f o.dst n H g args (aop P (evalA f) n H o):=rfl
theorem w3_some(r:Res):w3 k f d n H (some r)=k (fput f d r.v) (r.next n) (r.heap n H):=rfl
theorem w3_none:w3 k f d n H none=False:=rfl
end
section
variable {P:Program} {f:Fr} {n:Nat} {H:Heap}
def tgb(w:Bool):Value→Bool
 | .bool b=>b == w
 | _=>false
def tguard(w:Bool)(f:Fr):Option Nat→Bool
 | some d=>tgb w (f d)
 | none=>false
theorem wanted_none{all:Array Oper}{d:Option Nat}{op:Op}{ty:TypeId}{p:String}{af:Array Edge}:wantedA all f ⟨d,op,ty,p,af,none⟩=true:=rfl
theorem wanted_some{all:Array Oper}{d:Option Nat}{op:Op}{ty:TypeId}{p:String}{af:Array Edge}{j:Nat}{w:Bool}:wantedA all f ⟨d,op,ty,p,af,some (j,w)⟩=tguard w f ((all[j]?).bind (·.dst)):=by
 simp only[wantedA]
 cases (all[j]?).bind (·.dst)with
 | none=>rfl
 | some d=>simp only[tguard];cases f d <;> rfl
theorem tgb_true(b:Bool):tgb true (.bool b)=b:=by cases b <;> rfl
theorem tgb_false(b:Bool):tgb false (.bool b) = !b:=by cases b <;> rfl
theorem tgb_undef(w:Bool):tgb w undef=false:=rfl
theorem ev_tmp(t:Nat):evalA f (.tmp t)=f t:=rfl
theorem ev_const(v:Value):evalA f (.const v)=v:=rfl
theorem ev_func(g:FuncId):evalA f (.func g)=.func (.func g) #[] #[]:=rfl
theorem heap_0(n:Nat)(H:Heap)(v:Value)(rd:List Nat):Res.heap ⟨v,[],none,rd⟩ n H=H:=rfl
theorem heap_1(n:Nat)(H:Heap)(v:Value)(rd:List Nat)(o:AObj):Res.heap ⟨v,[o],none,rd⟩ n H=hset H n o:=rfl
theorem heap_2(n:Nat)(H:Heap)(v:Value)(rd:List Nat)(x:Nat)(o:AObj):Res.heap ⟨v,[],some (x,o),rd⟩ n H=hset H x o:=rfl
theorem heap_3(n:Nat)(H:Heap)(v:Value)(rd:List Nat)(x:Nat)(o q:AObj):Res.heap ⟨v,[o],some (x,q),rd⟩ n H=hset (hset H x q) n o:=rfl
theorem next_0(n:Nat)(v:Value)(rd:List Nat)(w:Option (Nat × AObj)):Res.next ⟨v,[],w,rd⟩ n=n:=rfl
theorem next_1(n:Nat)(v:Value)(rd:List Nat)(w:Option (Nat × AObj))(o:AObj):Res.next ⟨v,[o],w,rd⟩ n=n+1:=rfl
end
theorem AtCall.by{P:Program}{draw:Bool}{k:Fr→Nat→Heap→Prop}{f:Fr}{d:Option Nat}{n:Nat}{H:Heap}{g:FuncId}{args:List Value}{ext:Option Res}{Q:Value→Nat→Heap→Prop}(h:Gives P g args n H Q)
  (hk:∀v n' H',Kp n H n' H'→Q v n' H'→k (fput f d v) n' H'):AtCall P draw k f d n H g args ext:=.inr (h.call hk)
theorem AtCall.now{P:Program}{draw:Bool}{k:Fr→Nat→Heap→Prop}{f:Fr}{d:Option Nat}{n:Nat}{H:Heap}{g:FuncId}{args:List Value}{r:Res}(h:k (fput f d r.v) (r.next n) (r.heap n H)) :
  AtCall P draw k f d n H g args (some r):=.inl h
theorem aop_ext{P:Program}{f:Fr}{n:Nat}{H:Heap}{d:Option Nat}{g:FuncId}{args:Array Operand}{ats:Array TypeId}{ty:TypeId}{p:String}{af:Array Edge}{gd:Option (Nat × Bool)} :
  aop P (evalA f) n H ⟨d,.call ⟨.value (.func g),args,ats⟩,ty,p,af,gd⟩=ok (aext P g (args.toList.map (evalA f))):=by
 simp[aop,evalA]
theorem ok_some(v:Value):ok (some v)=some { v:=v }:=rfl
theorem Gives.ev{P:Program}(hm:P.follows .mixedOrders=true){okF:FuncId→Bool}(hok:∀g fn c,okF g=true→P.funcs[g]? = some fn→fn.body=some c→FnOK P g fn c){k:Nat}{g:FuncId}{args:List Value}{n:Nat}{H:Heap}{v:Value}
  (h:evCall P okF k n g args n H=some (v,n,H)):Gives P g args n H fun v' n' H'=>v'=v∧n'=n∧H'=H:=by
 obtain⟨h1,h2⟩:=evCall_sound hm hok k _ _ _ _ _ _ _ _ h
 exact⟨v,n,H,h1,Kp.refl n H,rfl,rfl,rfl⟩
theorem WK.cut{P:Program}{c:Code}{K:List Fk}{s:St}{Q:AExit→St→Prop}(R:St→Prop)(h1:WK P c [] s fun e s1=>e=.normal∧R s1)(h2:∀s1,R s1→WK P .skip K s1 Q):WK P c K s Q:=by
 obtain⟨e,s1,hb,rfl,hr⟩:=h1.run
 exact WK.imp (fun e s2 h=>by cases h;exact hb) (h2 s1 hr)
theorem bnot_i64{n:Int}(h1 : -9223372036854775808≤n)(h2:n≤9223372036854775807) :
  IntKind.i64.wrap ((BitVec.ofInt IntKind.i64.bits (if IntKind.i64.signed=true then -1 else IntKind.i64.max) ^^^ BitVec.ofInt IntKind.i64.bits n).toNat:Int) = -n - 1:=by
 have e:(BitVec.ofInt IntKind.i64.bits (if IntKind.i64.signed=true then -1 else IntKind.i64.max) ^^^ BitVec.ofInt IntKind.i64.bits n).toNat=(~~~ (BitVec.ofInt 64 n)).toNat:=by
  show(BitVec.ofInt 64 (-1) ^^^ BitVec.ofInt 64 n).toNat=_
  congr 1
 rw[e,BitVec.toNat_not,BitVec.toNat_ofInt]
 simp only[IntKind.wrap,IntKind.signed,IntKind.bits]
 simp
 omega
theorem WK.unseq{P:Program}{a b:Code}{K:List Fk}{s:St}{Q:AExit→St→Prop}(h:WK P (.seq a b) K s Q):WK P a (.seq b::K) s Q:=⟨h.run⟩
theorem WK.rets{P:Program}{s:St}{Q:AExit→St→Prop}(h:Q .ret s):∀K:List Fk,WK P .ret K s Q
 | []=>WK.retNil h
 | .seq _::K=>WK.retSeq (WK.rets h K)
 | .block _::K=>WK.retBlock (WK.rets h K)
theorem WK.cutRet{P:Program}{c:Code}{K:List Fk}{s:St}{Q:AExit→St→Prop}(R:St→Prop)(h1:WK P c [] s fun e s1=>e=.normal∧R s1∨e=.ret∧Q .ret s1)(h2:∀s1,R s1→WK P .skip K s1 Q):WK P c K s Q:=by
 obtain⟨e,s1,hb,⟨rfl,hr⟩|⟨rfl,hr⟩⟩:=h1.run
 ·exact WK.imp (fun e s2 h=>by cases h;exact hb) (h2 s1 hr)
 ·exact WK.imp (fun e s2 h=>by cases h;exact hb) (WK.rets hr K)
structure Kx(X:Nat→Prop)(n:Nat)(H:Heap)(n':Nat)(H':Heap):Prop where
 le:n≤n'
 keep:∀x,x<n→¬X x→H' x=H x
 wf:WF n H→WF n' H'
theorem Kx.refl(X:Nat→Prop)(n:Nat)(H:Heap):Kx X n H n H:=⟨Nat.le_refl _,fun _ _ _=>rfl,id⟩
theorem Kx.trans{X:Nat→Prop}{n n1 n2:Nat}{H H1 H2:Heap}(a:Kx X n H n1 H1)(b:Kx X n1 H1 n2 H2):Kx X n H n2 H2 :=
 ⟨Nat.le_trans a.le b.le,fun x hx hX=>(b.keep x (Nat.lt_of_lt_of_le hx a.le) hX).trans (a.keep x hx hX),fun h=>b.wf (a.wf h)⟩
theorem Kp.kx{X:Nat→Prop}{n n':Nat}{H H':Heap}(a:Kp n H n' H'):Kx X n H n' H':=⟨a.le,fun x hx _=>a.keep x hx,a.wf⟩
theorem Kx.mono{X Y:Nat→Prop}{n n':Nat}{H H':Heap}(a:Kx X n H n' H')(h:∀x,x<n→X x→Y x):Kx Y n H n' H':=⟨a.le,fun x hx hY=>a.keep x hx fun hX=>hY (h x hx hX),a.wf⟩
theorem Kx.kp{X:Nat→Prop}{n n':Nat}{H H':Heap}(a:Kx X n H n' H')(h:∀x,x<n→¬X x):Kp n H n' H':=⟨a.le,fun x hx=>a.keep x hx (h x hx),a.wf⟩
def GivesX(P:Program)(X:Nat→Prop)(g:FuncId)(args:List Value)(n:Nat)(H:Heap)(Q:Value→Nat→Heap→Prop):Prop :=
 ∃v n' H',BS P (.call g args n H) (.ret v n' H')∧Kx X n H n' H'∧Q v n' H'
def FinX(P:Program)(X:Nat→Prop)(results:List ResultVar)(n:Nat)(H:Heap)(Q:Value→Nat→Heap→Prop)(e:AExit)(s:St):Prop :=
 (e=.normal∨e=.ret)∧∃l,aresultsL P s results=some l∧(∀x,x<n→¬X x→s.H x=H x)∧Q (packed l) s.n s.H
theorem GivesX.of{P:Program}{X:Nat→Prop}(hm:P.follows .mixedOrders=true){g:FuncId}{args:List Value}{n:Nat}{H:Heap}{Q:Value→Nat→Heap→Prop}{fn:Func}{c:Code}(hok:FnOK P g fn c)(hl:args.length≤fn.ntmps)
  (h:WK P c [] ⟨fun t=>args.getD t undef,n,H⟩ (FinX P X fn.results.toList n H Q)):GivesX P X g args n H Q:=by
 obtain⟨e,s,h1,he,l,hv,hx,hq⟩:=h.run
 have hb:=BS.call hok hl h1 he (v:=packed l) (by
  unfold aresults
  rw[hv]
  match l with
  | []=>rfl
  | [v]=>rfl
  | _::_::_=>rfl)
 obtain⟨hmono,_⟩:=sound hm hb
 exact⟨_,s.n,s.H,hb,⟨hmono.le,hx,hmono.wf⟩,hq⟩
theorem AtCall.byX{P:Program}{X:Nat→Prop}{k:Fr→Nat→Heap→Prop}{f:Fr}{d:Option Nat}{n:Nat}{H:Heap}{g:FuncId}{args:List Value}{ext:Option Res}{Q:Value→Nat→Heap→Prop}(h:GivesX P X g args n H Q)
  (hk:∀v n' H',Kx X n H n' H'→Q v n' H'→k (fput f d v) n' H'):AtCall P false k f d n H g args ext:=by
 obtain⟨v,n',H',a,b,c⟩:=h
 exact .inr ⟨v,n',H',a,fun h=>(by cases h),hk v n' H' b c⟩
theorem hset_ne'(H:Heap)(n:Nat)(o:AObj){x:Nat}(h:x≠n):hset H n o x=H x:=by rw[hset_apply,if_neg h]
theorem Kx.set{X:Nat→Prop}{n n1:Nat}{H H1:Heap}(h:Kx X n H n1 H1){x:Nat}(o:AObj)(hx:X x∨n≤x)(hx1:x<n1):Kx X n H n1 (hset H1 x o) :=
 ⟨h.le,fun y hy hX=>by rw[hset_ne' _ _ _ (by rintro rfl;rcases hx with hx|hx;exact hX hx;omega)];exact h.keep y hy hX,fun hw y hy=>by rw[hset_ne' _ _ _ (by omega)];exact h.wf hw y hy⟩
theorem hset_hset(H:Heap)(n:Nat)(a b:AObj):hset (hset H n a) n b=hset H n b:=by
 funext x
 rw[hset_apply,hset_apply,hset_apply]
 split <;> rfl
theorem aop_mkf{P:Program}{f:Fr}{n:Nat}{H:Heap}{d:Option Nat}{g:FuncId}{first captured:Array Operand}{ty:TypeId}{p:String}{af:Array Edge}{gd:Option (Nat × Bool)} :
  aop P (evalA f) n H ⟨d,.makeFunc (.func g) first captured,ty,p,af,gd⟩=some { v:=.func (.func g) (first.toList.map (evalA f)).toArray (captured.toList.map (evalA f)).toArray }:=rfl
theorem rep_1(z:List Value):rep 1 z=z:=by simp[rep]
theorem rep_0(z:List Value):rep 0 z=[]:=rfl
theorem big_1:(1>bigN)=False:=by simp[bigN]
theorem SS:type_of% (And.intro (And.intro (And.intro (And.intro (And.intro (And.intro @w1_false (And.intro @w1_true @w2_none)) (And.intro @w2_some (And.intro @w3_some @w3_none))) (And.intro (And.intro @tgb_undef (And.intro @wanted_none @wanted_some)) (And.intro @tgb_true (And.intro @tgb_false @hset_at)))) (And.intro (And.intro (And.intro @Bool.not_not (And.intro @true_implies @Nat.zero_le)) (And.intro @Nat.sub_zero (And.intro @hset_hset @aop_mkf))) (And.intro (And.intro @rep_1 (And.intro @rep_0 @big_1)) (And.intro @ne_eq.{1} (And.intro @not_true_eq_false @not_false_eq_true))))) (And.intro (And.intro (And.intro (And.intro @or_self (And.intro @or_false @false_or)) (And.intro @gt_iff_lt.{0} (And.intro @Nat.one_ne_zero @List.nil_append.{0}))) (And.intro (And.intro @List.append_nil.{0} (And.intro @List.cons_append.{0} @List.all_cons.{0})) (And.intro @List.all_nil.{0} (And.intro @Bool.and_true @Bool.true_and)))) (And.intro (And.intro (And.intro @Bool.and_self (And.intro @List.set_cons_zero.{0} @List.set_cons_succ.{0})) (And.intro @List.length_cons.{0} (And.intro @List.length_nil.{0} @vcells_int))) (And.intro (And.intro @vcells_bool (And.intro @vcells_float @vcells_string)) (And.intro @vcells_slice (And.intro @vcells_pointer @vcells_agg)))))) (And.intro (And.intro (And.intro (And.intro (And.intro @Nat.le_refl (And.intro @Bool.true_beq @Bool.false_beq)) (And.intro @aop_ext (And.intro @ok_some @ev_tmp))) (And.intro (And.intro @ev_const (And.intro @ev_func @fset_apply)) (And.intro @heap_0 (And.intro @heap_1 @heap_2)))) (And.intro (And.intro (And.intro @heap_3 (And.intro @next_0 @next_1)) (And.intro @List.toList_toArray.{0} (And.intro @List.getD_cons_zero.{0} @List.getD_cons_succ.{0}))) (And.intro (And.intro @List.getElem?_toArray.{0} (And.intro @List.getElem?_cons_zero.{0} @List.getElem?_cons_succ.{0})) (And.intro @List.map_cons.{0,0} (And.intro @List.map_nil.{0,0} @Option.map_some.{0,0}))))) (And.intro (And.intro (And.intro (And.intro @Option.map_none.{0,0} (And.intro @Option.bind_some.{0,0} @Option.bind_none.{0,0})) (And.intro @and_true (And.intro @true_and @and_self))) (And.intro (And.intro @and_false (And.intro @false_and @decide_true)) (And.intro @decide_false (And.intro @Bool.not_true @Bool.not_false)))) (And.intro (And.intro (And.intro @cond_true.{1} (And.intro @cond_false.{1} @Int.ofNat_lt)) (And.intro @Int.ofNat_le (And.intro @Int.natCast_nonneg @Int.toNat_natCast))) (And.intro (And.intro @Nat.mul_one (And.intro @Nat.add_zero @Nat.zero_add)) (And.intro (And.intro @eq_self.{1} @Nat.lt_irrefl) (And.intro @Int.le_refl @Nat.zero_mul))))))):=And.intro (And.intro (And.intro (And.intro (And.intro (And.intro @w1_false (And.intro @w1_true @w2_none)) (And.intro @w2_some (And.intro @w3_some @w3_none))) (And.intro (And.intro @tgb_undef (And.intro @wanted_none @wanted_some)) (And.intro @tgb_true (And.intro @tgb_false @hset_at)))) (And.intro (And.intro (And.intro @Bool.not_not (And.intro @true_implies @Nat.zero_le)) (And.intro @Nat.sub_zero (And.intro @hset_hset @aop_mkf))) (And.intro (And.intro @rep_1 (And.intro @rep_0 @big_1)) (And.intro @ne_eq.{1} (And.intro @not_true_eq_false @not_false_eq_true))))) (And.intro (And.intro (And.intro (And.intro @or_self (And.intro @or_false @false_or)) (And.intro @gt_iff_lt.{0} (And.intro @Nat.one_ne_zero @List.nil_append.{0}))) (And.intro (And.intro @List.append_nil.{0} (And.intro @List.cons_append.{0} @List.all_cons.{0})) (And.intro @List.all_nil.{0} (And.intro @Bool.and_true @Bool.true_and)))) (And.intro (And.intro (And.intro @Bool.and_self (And.intro @List.set_cons_zero.{0} @List.set_cons_succ.{0})) (And.intro @List.length_cons.{0} (And.intro @List.length_nil.{0} @vcells_int))) (And.intro (And.intro @vcells_bool (And.intro @vcells_float @vcells_string)) (And.intro @vcells_slice (And.intro @vcells_pointer @vcells_agg)))))) (And.intro (And.intro (And.intro (And.intro (And.intro @Nat.le_refl (And.intro @Bool.true_beq @Bool.false_beq)) (And.intro @aop_ext (And.intro @ok_some @ev_tmp))) (And.intro (And.intro @ev_const (And.intro @ev_func @fset_apply)) (And.intro @heap_0 (And.intro @heap_1 @heap_2)))) (And.intro (And.intro (And.intro @heap_3 (And.intro @next_0 @next_1)) (And.intro @List.toList_toArray.{0} (And.intro @List.getD_cons_zero.{0} @List.getD_cons_succ.{0}))) (And.intro (And.intro @List.getElem?_toArray.{0} (And.intro @List.getElem?_cons_zero.{0} @List.getElem?_cons_succ.{0})) (And.intro @List.map_cons.{0,0} (And.intro @List.map_nil.{0,0} @Option.map_some.{0,0}))))) (And.intro (And.intro (And.intro (And.intro @Option.map_none.{0,0} (And.intro @Option.bind_some.{0,0} @Option.bind_none.{0,0})) (And.intro @and_true (And.intro @true_and @and_self))) (And.intro (And.intro @and_false (And.intro @false_and @decide_true)) (And.intro @decide_false (And.intro @Bool.not_true @Bool.not_false)))) (And.intro (And.intro (And.intro @cond_true.{1} (And.intro @cond_false.{1} @Int.ofNat_lt)) (And.intro @Int.ofNat_le (And.intro @Int.natCast_nonneg @Int.toNat_natCast))) (And.intro (And.intro @Nat.mul_one (And.intro @Nat.add_zero @Nat.zero_add)) (And.intro (And.intro @eq_self.{1} @Nat.lt_irrefl) (And.intro @Int.le_refl @Nat.zero_mul))))))
end Go.AM
namespace Go.AM
open Go.RowKit
def wl3(k:Fr→Nat→Heap→List LR→Prop)(f:Fr)(d:Option Nat)(n:Nat)(H:Heap)(l:List LR):Option Res→Prop
 | some r=>k (fput f d r.v) (r.next n) (r.heap n H) (l++[⟨r.rd,r.wr.map (·.1)⟩])
 | none=>False
def AtCallL(P:Program)(draw:Bool)(k:Fr→Nat→Heap→List LR→Prop)(f:Fr)(d:Option Nat)(n:Nat)(H:Heap)(l:List LR)(g:FuncId)(args:List Value)(ext:Option Res):Prop :=
 wl3 k f d n H l ext∨Call P draw g args n H fun v n H=>k (fput f d v) n H (l++[⟨[],none⟩])
def wl2(P:Program)(draw:Bool)(k:Fr→Nat→Heap→List LR→Prop)(o:Oper)(f:Fr)(n:Nat)(H:Heap)(l:List LR):Option (FuncId × List Value)→Prop
 | none=>wl3 k f o.dst n H l (top P (evalA f) n H o)
 | some (g,args)=>AtCallL P draw k f o.dst n H l g args (aop P (evalA f) n H o)
def wl1(P:Program)(draw:Bool)(k:Fr→Nat→Heap→List LR→Prop)(o:Oper)(f:Fr)(n:Nat)(H:Heap)(l:List LR):Bool→Prop
 | false=>k (fput f o.dst undef) n H (l++[⟨[],none⟩])
 | true=>wl2 P draw k o f n H l (acallee (evalA f) o)
def WLEnd(P:Program)(ps:List (Nat × Nat))(K:List Fk)(Q:AExit→St→Prop)(s:St)(l:List LR):Prop:=lightOK ps l∧WK P .skip K s Q
def wl(P:Program)(draw:Bool)(ps:List (Nat × Nat))(all:Array Oper)(K:List Fk)(Q:AExit→St→Prop):List Oper→Fr→Nat→Heap→List LR→Prop
 | [],f,n,H,l=>WLEnd P ps K Q ⟨f,n,H⟩ l
 | o::rest,f,n,H,l=>wl1 P draw (wl P draw ps all K Q rest) o f n H l (wantedA all f o)
theorem wl_sound {P : Program} {draw : Bool} {ps : List (Nat × Nat)} {all : Array Oper} {K : List Fk} {Q : AExit → St → Prop} : ∀ (rest : List Oper) (f : Fr) (n : Nat) (H : Heap) (l0 : List LR), wl P draw ps all K Q rest f n H l0 →
    ∃ s1 l, BS P (.ops all rest ⟨f, n, H⟩) (.log s1 l) ∧ (draw = true → ∀ r ∈ l, r.call = true → ∀ x, x < r.pre.n → r.H x = r.pre.H x) ∧ lightOK ps (l0 ++ l.map lrOf) ∧ WK P .skip K s1 Q := by
  intro rest
  induction rest with
  | nil => intro f n H l0 h; exact ⟨⟨f, n, H⟩, [], .opsNil all _, (fun _ r hr => by cases hr), by simpa using h.1, h.2⟩
  | cons o rest ih =>
    intro f n H l0 h
    simp only [wl] at h
    have op : ∀ t, (∀ r, t = some r → aop P (evalA f) n H o = some r) → wantedA all f o = true → wl3 (wl P draw ps all K Q rest) f o.dst n H l0 t →
        ∃ s1 l, BS P (.ops all (o :: rest) ⟨f, n, H⟩) (.log s1 l) ∧ (draw = true → ∀ r ∈ l, r.call = true → ∀ x, x < r.pre.n → r.H x = r.pre.H x) ∧ lightOK ps (l0 ++ l.map lrOf) ∧ WK P .skip K s1 Q := fun t ht hw h => by
      cases t with
      | none => cases h
      | some r =>
        obtain ⟨s1, l, h1, h2, h3, h4⟩ := ih _ _ _ _ h
        refine ⟨s1, _, .opsOp hw (ht r rfl) h1, fun hd r hr hc => ?_, by simpa [lrOf] using h3, h4⟩
        rcases List.mem_cons.1 hr with hr | hr
        · subst hr; cases hc
        · exact h2 hd r hr hc
    cases hw : wantedA all f o with
    | false =>
      rw [hw] at h
      obtain ⟨s1, l, h1, h2, h3, h4⟩ := ih _ _ _ _ h
      refine ⟨s1, _, .opsSkip hw h1, fun hd r hr hc => ?_, by simpa [lrOf] using h3, h4⟩
      rcases List.mem_cons.1 hr with hr | hr
      · subst hr; cases hc
      · exact h2 hd r hr hc
    | true =>
      rw [hw] at h
      simp only [wl1] at h
      cases hg : acallee (evalA f) o with
      | none => rw [hg] at h; exact op _ (fun r hr => top_sound hr) hw h
      | some c =>
        obtain ⟨g, args⟩ := c
        rw [hg] at h
        rcases h with h | ⟨v, n1, H1, hb, hf, h⟩
        · exact op _ (fun r hr => hr) hw h
        · obtain ⟨s1, l, h1, h2, h3, h4⟩ := ih _ _ _ _ h
          refine ⟨s1, _, .opsCall hw hg hb h1, fun hd r hr hc => ?_, by simpa [lrOf] using h3, h4⟩
          rcases List.mem_cons.1 hr with hr | hr
          · subst hr; exact hf hd
          · exact h2 hd r hr hc
theorem WK.rgl{P:Program}{K:List Fk}{Q:AExit→St→Prop}{f:Fr}{n:Nat}{H:Heap}{id:Nat}{ops:Array Oper}{draw:Bool}(ps:List (Nat × Nat))(hp:_root_.cond draw (sPairs ops) []=ps)(h:wl P draw ps ops K Q ops.toList f n H []) :
  WK P (.region id ops draw) K ⟨f,n,H⟩ Q:=by
 obtain⟨s1,l,h1,h2,h3,h4⟩:=wl_sound _ _ _ _ _ h
 refine WK.imp (d:=.skip) (t:=s1) (fun e s2 h=>?_) h4
 cases h
 cases draw with
 | false=>exact .region h1
 | true =>
  have hp:sPairs ops=ps:=hp
  rw[←hp]at h3
  exact .regionDraw h1 (light_draw (by simpa using h3) (h2 rfl))
section
variable {P:Program} {draw:Bool} {k:Fr→Nat→Heap→List LR→Prop} {o:Oper} {f:Fr} {d:Option Nat} {n:Nat} {H:Heap} {l:List LR}
theorem wl1_false:wl1 P draw k o f n H l false=k (fput f o.dst undef) n H (l++[⟨[],none⟩]):=rfl
theorem wl1_true:wl1 P draw k o f n H l true=wl2 P draw k o f n H l (acallee (evalA f) o):=rfl
theorem wl2_none:wl2 P draw k o f n H l none=wl3 k f o.dst n H l (top P (evalA f) n H o):=rfl
theorem wl2_some(g:FuncId)(args:List Value):wl2 P draw k o f n H l (some (g,args))=AtCallL P draw k f o.dst n H l g args (aop P (evalA f) n H o):=rfl
theorem wl3_some(r:Res):wl3 k f d n H l (some r)=k (fput f d r.v) (r.next n) (r.heap n H) (l++[⟨r.rd,r.wr.map (·.1)⟩]):=rfl
theorem wl3_none:wl3 k f d n H l none=False:=rfl
end
theorem light_cons{i j:Nat}{ps:List (Nat × Nat)}{l:List LR}{r q:LR}(h1:l[i]? = some r)(h2:l[j]? = some q)(h:lapart r q)(hl:lightOK ps l):lightOK ((i,j)::ps) l:=by
 refine⟨?_,hl⟩
 simp only[h1,h2]
 exact h
theorem light_nil{l:List LR}:lightOK [] l:=trivial
theorem lapart_rw{rd rd':List Nat}{y:Nat}(h:y∉rd):lapart ⟨rd,none⟩ ⟨rd',some y⟩:=by
 refine⟨fun x hx=>(by cases hx),fun x hx=>?_⟩
 cases hx
 rintro(h'|h')
 ·exact h h'
 ·cases h'
theorem lapart_wr{rd rd':List Nat}{y:Nat}(h:y∉rd):lapart ⟨rd',some y⟩ ⟨rd,none⟩:=⟨(lapart_rw (rd':=rd') h).2,fun x hx=>(by cases hx)⟩
theorem lapart_rr{rd rd':List Nat}:lapart ⟨rd,none⟩ ⟨rd',none⟩:=⟨fun x hx=>(by cases hx),fun x hx=>(by cases hx)⟩
end Go.AM
namespace Go.AM
open Go.RowKit
def tmm(mx:Bool)(alt:Option Res):Value→Value→Option Res
 | .int k a,.int _ b=>some { v:=.int k (if mx then(if a<b then b else a) else if b<a then b else a) }
 | _,_=>alt
theorem aop_min{P:Program}{f:Fr}{n:Nat}{H:Heap}{d:Option Nat}{x y:Operand}{ats:Array TypeId}{ty:TypeId}{p:String}{af:Array Edge}{gd:Option (Nat × Bool)} :
  aop P (evalA f) n H ⟨d,.call ⟨.builtin .min,#[x,y],ats⟩,ty,p,af,gd⟩=tmm false (aflat P (evalA f) ⟨d,.call ⟨.builtin .min,#[x,y],ats⟩,ty,p,af,gd⟩) (evalA f x) (evalA f y):=by
 cases hx:evalA f x <;> cases hy:evalA f y <;> first|rfl|skip
 rename_i k a k' b
 show aflat P (evalA f) _=_
 unfold aflat
 have h1:opFlat (evalA f) ⟨d,.call ⟨.builtin .min,#[x,y],ats⟩,ty,p,af,gd⟩=true:=by
  simp only[opFlat,Op.operands,Call.operands]
  simp[hx,hy,flat,flat1]
 rw[if_pos h1]
 simp[execOp,resolve,invoke,hx,hy,Builtin.min_,Builtin.min2,builtin,tmm]
 rfl
def tnc:Value→Option Res
 | .pointer (some a)=>some { v:=.pointer (some a) }
 | .func (.func g) a b=>some { v:=.func (.func g) a b }
 | _=>none
theorem aop_nc{P:Program}{f:Fr}{n:Nat}{H:Heap}{d:Option Nat}{x:Operand}{ty:TypeId}{p:String}{af:Array Edge}{gd:Option (Nat × Bool)} :
  aop P (evalA f) n H ⟨d,.nilCheck x,ty,p,af,gd⟩=tnc (evalA f x):=by
 cases hx:evalA f x <;> (try (rename_i a;cases a)) <;> simp[aop,tnc,hx] <;> rfl
def acv(P:Program)(ρ:Operand→Value)(H:Heap)(s t:TypeId)(o:Oper):Value→Option Res
 | .slice a b c=>astring P s t H (.slice a b c)
 | .pointer (some ⟨y,k,none⟩)=>aunsafe P s t H y k
 | _=>aflat P ρ o
theorem aop_cv{P:Program}{f:Fr}{n:Nat}{H:Heap}{d:Option Nat}{s t:TypeId}{x:Operand}{ty:TypeId}{p:String}{af:Array Edge}{gd:Option (Nat × Bool)} :
  aop P (evalA f) n H ⟨d,.convert s t x,ty,p,af,gd⟩=acv P (evalA f) H s t ⟨d,.convert s t x,ty,p,af,gd⟩ (evalA f x):=by
 cases hx:evalA f x
 case pointer a =>
  rcases a with _|⟨y,k,_|sp⟩ <;> simp only[aop,acv,hx]
 all_goals simp[aop,acv,hx]
end Go.AM
namespace Go.AM
theorem wrap_uns{k:IntKind}(hk:k.signed=false)(x:Int):k.wrap x=x % (2 ^ k.bits:Int):=by
 simp only[IntKind.wrap,hk,Bool.false_and,Bool.false_eq_true,if_false]
theorem wrap_u64(x:Int):IntKind.u64.wrap x=x % 18446744073709551616:=wrap_uns rfl x
theorem wrap_u8(x:Int):IntKind.u8.wrap x=x % 256:=wrap_uns rfl x
theorem wrap_u64n(n:Nat):IntKind.u64.wrap (n:Int)=((n % 18446744073709551616:Nat):Int):=by rw[wrap_u64];omega
end Go.AM

namespace Go.AM
theorem qi{a b:Prop}(x:a)(y:b):a∧b:=⟨x,y⟩
theorem qqs:type_of% (qi (qi @ev_tmp @ev_const) (qi @fset_apply (qi @decide_true @decide_false))):=(qi (qi @ev_tmp @ev_const) (qi @fset_apply (qi @decide_true @decide_false)))
theorem qv:type_of% (And.intro @fset_apply (And.intro @List.getD_cons_zero.{0} @List.getD_cons_succ.{0})):=(And.intro @fset_apply (And.intro @List.getD_cons_zero.{0} @List.getD_cons_succ.{0}))
theorem qqj:type_of% @WK.condT:=@WK.condT
theorem qqk:type_of% @WK.condF:=@WK.condF
def nxt:Code→List Fk→Option (Code × List Fk)
 | .seq a b,K=>some (a,.seq b::K)
 | .block i a,K=>some (a,.block i::K)
 | .skip,.seq b::K=>some (b,K)
 | .skip,.block _::K=>some (.skip,K)
 | .ret,.seq _::K=>some (.ret,K)
 | .ret,.block _::K=>some (.ret,K)
 | .exit i,.seq _::K=>some (.exit i,K)
 | .exit i,.block j::K=>bif Nat.beq i j then some (.skip,K) else some (.exit i,K)
 | _,_=>none
def nxe:Code→Bool
 | .ret=>true
 | .skip=>true
 | _=>false
def nxc(f:Fr):Code→List Fk→Option (Code × List Fk)
 | .cond x a b,K=>match evalA f x with
  | .bool true=>some (a,K)
  | .bool false=>some (b,K)
  | _=>none
 | c,K=>nxt c K
section
variable {P:Program} {s:St} {Q:AExit→St→Prop} {c d:Code} {K L:List Fk} {f:Fr} {n:Nat} {H:Heap} {id:Nat} {ops:Array Oper} {draw:Bool}
theorem qqn(e:nxt c K=some (d,L))(h:WK P d L s Q):WK P c K s Q:=by
 unfold nxt at e
 split at e
 ·cases e;exact WK.seq h
 ·cases e;exact WK.block h
 ·cases e;exact WK.skipSeq h
 ·cases e;exact WK.skipBlock h
 ·cases e;exact WK.retSeq h
 ·cases e;exact WK.retBlock h
 ·cases e;exact WK.exitSeq h
 ·rename_i i j K
  cases hb:Nat.beq i j with
  | true=>rw[hb]at e;cases e;cases Nat.eq_of_beq_eq_true hb;exact WK.exitHere h
  | false=>rw[hb]at e;cases e;exact WK.exitOn hb h
 ·cases e
theorem qqm(e:nxc s.f c K=some (d,L))(h:WK P d L s Q):WK P c K s Q:=by
 unfold nxc at e
 split at e
 ·split at e
  ·rename_i hb
   cases e
   exact WK.condT hb h
  ·rename_i hb
   cases e
   exact WK.condF hb h
  ·cases e
 ·exact qqn e h
theorem qqr(h:wx P draw ops K Q ops.toList f n H)(hp:_root_.cond draw (sPairs ops) []=[]:=by kernel_rfl):WK P (.region id ops draw) K ⟨f,n,H⟩ Q:=WK.rgn hp h
theorem qqt:type_of% @AtCall.now:=@AtCall.now
theorem qqf{rs:List ResultVar}{R:Value→Nat→Heap→Prop}{l:List Value}(h1:∀x,x<n→s.H x=H x)(h2:R (packed l) s.n s.H)(hc:nxe c=true:=by rfl)(h0:aresultsL P s rs=some l:=by rfl):WK P c [] s (Fin P rs n H R):=by
 unfold nxe at hc
 split at hc
 ·exact WK.retNil ⟨Or.inr rfl,l,h0,h1,h2⟩
 ·exact WK.skipNil ⟨Or.inl rfl,l,h0,h1,h2⟩
 ·cases hc
theorem qqg{X:Nat→Prop}{rs:List ResultVar}{R:Value→Nat→Heap→Prop}{l:List Value}(h1:∀x,x<n→¬X x→s.H x=H x)(h2:R (packed l) s.n s.H)(hc:nxe c=true:=by rfl)(h0:aresultsL P s rs=some l:=by rfl):WK P c [] s (FinX P X rs n H R):=by
 unfold nxe at hc
 split at hc
 ·exact WK.retNil ⟨Or.inr rfl,l,h0,h1,h2⟩
 ·exact WK.skipNil ⟨Or.inl rfl,l,h0,h1,h2⟩
 ·cases hc
end
theorem vcells_map(m:Option Nat):vcells (.map m)=[.map m]:=rfl
theorem qg0:type_of% (qi (qi (qi @wx.eq_1 (qi @wx.eq_2 @tguard.eq_1)) (qi @tguard.eq_2 (qi @acallee.eq_1 @top.eq_1))) (qi (qi @tval.eq_1 (qi @tval.eq_2 @fput.eq_1)) (qi (qi @fput.eq_2 @forall_const.{0}) (qi @forall_const.{1} @vcells_map)))):=(qi (qi (qi @wx.eq_1 (qi @wx.eq_2 @tguard.eq_1)) (qi @tguard.eq_2 (qi @acallee.eq_1 @top.eq_1))) (qi (qi @tval.eq_1 (qi @tval.eq_2 @fput.eq_1)) (qi (qi @fput.eq_2 @forall_const.{0}) (qi @forall_const.{1} @vcells_map))))
theorem qgb:type_of% (qi (qi (qi (qi (qi @vsh.eq_1 @vsh.eq_2) (qi @vsh.eq_3 (qi @vbin.eq_1 @vbin.eq_2))) (qi (qi @vbin.eq_3 @vbin.eq_4) (qi @vbin.eq_5 (qi @vbin.eq_6 @vbin.eq_7)))) (qi (qi (qi @vbin.eq_8 @vbin.eq_9) (qi @vbin.eq_10 (qi @vbin.eq_11 @vbin.eq_12))) (qi (qi @vbin.eq_13 @vbin.eq_14) (qi @vbin.eq_15 (qi @vbin.eq_16 @vbin.eq_17))))) (qi (qi (qi (qi @vbin.eq_18 @vbin.eq_19) (qi @vbin.eq_20 (qi @vbin.eq_21 @vbin.eq_22))) (qi (qi @vbin.eq_23 @vbin.eq_24) (qi @vbin.eq_25 (qi @vbin.eq_26 @vbin.eq_27)))) (qi (qi (qi @vbin.eq_28 @vbin.eq_29) (qi @vbin.eq_30 (qi @vbin.eq_31 @vbin.eq_32))) (qi (qi @vbin.eq_33 (qi @vbin.eq_34 @vbin.eq_35)) (qi @vbin.eq_36 (qi @vbin.eq_37 @vbin.eq_38)))))):=(qi (qi (qi (qi (qi @vsh.eq_1 @vsh.eq_2) (qi @vsh.eq_3 (qi @vbin.eq_1 @vbin.eq_2))) (qi (qi @vbin.eq_3 @vbin.eq_4) (qi @vbin.eq_5 (qi @vbin.eq_6 @vbin.eq_7)))) (qi (qi (qi @vbin.eq_8 @vbin.eq_9) (qi @vbin.eq_10 (qi @vbin.eq_11 @vbin.eq_12))) (qi (qi @vbin.eq_13 @vbin.eq_14) (qi @vbin.eq_15 (qi @vbin.eq_16 @vbin.eq_17))))) (qi (qi (qi (qi @vbin.eq_18 @vbin.eq_19) (qi @vbin.eq_20 (qi @vbin.eq_21 @vbin.eq_22))) (qi (qi @vbin.eq_23 @vbin.eq_24) (qi @vbin.eq_25 (qi @vbin.eq_26 @vbin.eq_27)))) (qi (qi (qi @vbin.eq_28 @vbin.eq_29) (qi @vbin.eq_30 (qi @vbin.eq_31 @vbin.eq_32))) (qi (qi @vbin.eq_33 (qi @vbin.eq_34 @vbin.eq_35)) (qi @vbin.eq_36 (qi @vbin.eq_37 @vbin.eq_38))))))
theorem qgl:type_of% (qi (qi (qi @tload.eq_1 @tload.eq_2) (qi @tload2.eq_1 (qi @tload2.eq_2 @tload2.eq_3))) (qi (qi @tload2.eq_4 (qi @tload2.eq_5 @tload2.eq_6)) (qi @tload2.eq_7 (qi @tload3.eq_1 @tload3.eq_2)))):=(qi (qi (qi @tload.eq_1 @tload.eq_2) (qi @tload2.eq_1 (qi @tload2.eq_2 @tload2.eq_3))) (qi (qi @tload2.eq_4 (qi @tload2.eq_5 @tload2.eq_6)) (qi @tload2.eq_7 (qi @tload3.eq_1 @tload3.eq_2))))
theorem qgs:type_of% (qi (qi @tstore.eq_1 @tstore.eq_2) (qi @tstore2.eq_1 (qi @tstore2.eq_2 @tstore3.eq_1))):=(qi (qi @tstore.eq_1 @tstore.eq_2) (qi @tstore2.eq_1 (qi @tstore2.eq_2 @tstore3.eq_1)))
theorem qgi:type_of% (qi (qi (qi @tidx.eq_1 @tidx.eq_2) (qi @tidx.eq_3 @tidx.eq_4)) (qi (qi @tidx2.eq_1 @tidx2.eq_2) (qi @tidx3.eq_1 @tidx3.eq_2))):=(qi (qi (qi @tidx.eq_1 @tidx.eq_2) (qi @tidx.eq_3 @tidx.eq_4)) (qi (qi @tidx2.eq_1 @tidx2.eq_2) (qi @tidx3.eq_1 @tidx3.eq_2)))
theorem qgf:type_of% (qi (qi @tfa.eq_1 @tfa.eq_2) (qi @tfa2.eq_1 @tfa2.eq_2)):=(qi (qi @tfa.eq_1 @tfa.eq_2) (qi @tfa2.eq_1 @tfa2.eq_2))
theorem qga:type_of% (qi (qi (qi (qi @talloc.eq_1 @talloc.eq_2) (qi @still.eq_1 @still.eq_2)) (qi (qi @still.eq_3 @still1.eq_1) (qi @still1.eq_2 @flat1.eq_1))) (qi (qi (qi @flat1.eq_2 @flat1.eq_3) (qi @flat1.eq_4 @flat1.eq_5)) (qi (qi @flat1.eq_6 @flat1.eq_7) (qi @flat1.eq_8 @flat1.eq_9)))):=(qi (qi (qi (qi @talloc.eq_1 @talloc.eq_2) (qi @still.eq_1 @still.eq_2)) (qi (qi @still.eq_3 @still1.eq_1) (qi @still1.eq_2 @flat1.eq_1))) (qi (qi (qi @flat1.eq_2 @flat1.eq_3) (qi @flat1.eq_4 @flat1.eq_5)) (qi (qi @flat1.eq_6 @flat1.eq_7) (qi @flat1.eq_8 @flat1.eq_9))))
theorem qgx:type_of% (qi (qi (qi (qi @tsl.eq_1 @tsl.eq_2) (qi @tsl.eq_3 @tsl.eq_4)) (qi (qi @tsl.eq_5 @tsl.eq_6) (qi @tsl2.eq_1 @tsl2.eq_2))) (qi (qi (qi @tsl3.eq_1 @tsl3.eq_2) (qi @tsl4.eq_1 @tsl4.eq_2)) (qi (qi @tsl5.eq_1 @tsl5.eq_2) (qi @bound.eq_1 (qi @bound.eq_2 @bound.eq_3))))):=(qi (qi (qi (qi @tsl.eq_1 @tsl.eq_2) (qi @tsl.eq_3 @tsl.eq_4)) (qi (qi @tsl.eq_5 @tsl.eq_6) (qi @tsl2.eq_1 @tsl2.eq_2))) (qi (qi (qi @tsl3.eq_1 @tsl3.eq_2) (qi @tsl4.eq_1 @tsl4.eq_2)) (qi (qi @tsl5.eq_1 @tsl5.eq_2) (qi @bound.eq_1 (qi @bound.eq_2 @bound.eq_3)))))
theorem qgy:type_of% (qi (qi @tix.eq_1 (qi @tix.eq_2 @tix1.eq_1)) (qi @tix1.eq_2 (qi @tix2.eq_1 @tix2.eq_2))):=(qi (qi @tix.eq_1 (qi @tix.eq_2 @tix1.eq_1)) (qi @tix1.eq_2 (qi @tix2.eq_1 @tix2.eq_2)))
theorem qgz:type_of% (qi (qi (qi @tap.eq_1 (qi @tap.eq_2 @tap2.eq_1)) (qi (qi @tap2.eq_2 @tap3.eq_1) (qi @tap3.eq_2 @tap3.eq_3))) (qi (qi (qi @tap4.eq_1 @tap4.eq_2) (qi @tsrc.eq_1 @tsrc.eq_2)) (qi (qi @tsrc.eq_3 @tsrc.eq_4) (qi @tsrc2.eq_1 @tsrc2.eq_2)))):=(qi (qi (qi @tap.eq_1 (qi @tap.eq_2 @tap2.eq_1)) (qi (qi @tap2.eq_2 @tap3.eq_1) (qi @tap3.eq_2 @tap3.eq_3))) (qi (qi (qi @tap4.eq_1 @tap4.eq_2) (qi @tsrc.eq_1 @tsrc.eq_2)) (qi (qi @tsrc.eq_3 @tsrc.eq_4) (qi @tsrc2.eq_1 @tsrc2.eq_2))))
theorem qge:type_of% (qi (qi @tbs.eq_1 (qi @tbs.eq_2 @tbs2.eq_1)) (qi @tbs2.eq_2 (qi @afill.eq_1 @afill.eq_2))):=(qi (qi @tbs.eq_1 (qi @tbs.eq_2 @tbs2.eq_1)) (qi @tbs2.eq_2 (qi @afill.eq_1 @afill.eq_2)))
def qx0:=(qi (qi (qi (qi @qg0 @qgb) (qi @qgl @qgi)) (qi (qi @qgf @tor.eq_1) (qi @tor.eq_2 (qi @tlen2.eq_1 @tlen2.eq_2)))) (qi (qi (qi @tlen2.eq_3 @tlen2.eq_4) (qi @tlen3.eq_1 (qi @tlen3.eq_2 @tpick.eq_1))) (qi (qi @tpick.eq_2 @tbox.eq_1) (qi @one.eq_1 (qi @one.eq_2 @one.eq_3)))))
def qx1:=(qi (qi @qg0 (qi @qgb @tor.eq_1)) (qi @tor.eq_2 (qi @tpick.eq_1 @tpick.eq_2)))
def qx2:=(qi (qi (qi (qi @qg0 (qi @qgb @qgl)) (qi @qgs (qi @qgi @qgf))) (qi (qi @qga (qi @tor.eq_1 @tor.eq_2)) (qi @splice.eq_1 (qi @splice.eq_2 @one.eq_1)))) (qi (qi (qi @one.eq_2 (qi @one.eq_3 @tlen2.eq_1)) (qi @tlen2.eq_2 (qi @tlen2.eq_3 @tlen2.eq_4))) (qi (qi @tlen3.eq_1 (qi @tlen3.eq_2 @textr.eq_1)) (qi (qi @textr.eq_2 @tbox.eq_1) (qi @tmake.eq_1 @tmake.eq_2)))))
def qx3:=(qi (qi (qi (qi @qg0 @qgb) (qi @qgl (qi @qgs @qgi))) (qi (qi @qgf (qi @qga @tor.eq_1)) (qi @tor.eq_2 (qi @splice.eq_1 @splice.eq_2)))) (qi (qi (qi @one.eq_1 (qi @one.eq_2 @one.eq_3)) (qi @tlen2.eq_1 (qi @tlen2.eq_2 @tlen2.eq_3))) (qi (qi @tlen2.eq_4 (qi @tlen3.eq_1 @tlen3.eq_2)) (qi @tpick.eq_1 (qi @tpick.eq_2 @tbox.eq_1)))))
def qx4:=(qi (qi (qi (qi @qg0 @qgb) (qi @qgl (qi @qgs @qgi))) (qi (qi @qgf (qi @qga @qgz)) (qi @qge (qi @tor.eq_1 @tor.eq_2)))) (qi (qi (qi @splice.eq_1 @splice.eq_2) (qi @one.eq_1 (qi @one.eq_2 @one.eq_3))) (qi (qi @tlen2.eq_1 (qi @tlen2.eq_2 @tlen2.eq_3)) (qi @tlen2.eq_4 (qi @tlen3.eq_1 @tlen3.eq_2)))))
def qx5:=(qi (qi (qi (qi @qg0 (qi @qgb @qgl)) (qi @qgs (qi @qgf @qga))) (qi (qi @tor.eq_1 (qi @tor.eq_2 @splice.eq_1)) (qi @splice.eq_2 (qi @one.eq_1 @one.eq_2)))) (qi (qi (qi @one.eq_3 (qi @tlen2.eq_1 @tlen2.eq_2)) (qi @tlen2.eq_3 (qi @tlen2.eq_4 @tlen3.eq_1))) (qi (qi @tlen3.eq_2 (qi @tpick.eq_1 @tpick.eq_2)) (qi @textr.eq_1 (qi @textr.eq_2 @tbox.eq_1)))))
def qx6:=(qi (qi (qi (qi @qg0 (qi @qgb @qgl)) (qi (qi @qgs @qgi) (qi @qgf @qga))) (qi (qi @qgx (qi @tor.eq_1 @tor.eq_2)) (qi (qi @splice.eq_1 @splice.eq_2) (qi @one.eq_1 @one.eq_2)))) (qi (qi (qi @one.eq_3 (qi @tlen2.eq_1 @tlen2.eq_2)) (qi (qi @tlen2.eq_3 @tlen2.eq_4) (qi @tlen3.eq_1 @tlen3.eq_2))) (qi (qi @tpick.eq_1 (qi @tpick.eq_2 @tbox.eq_1)) (qi (qi @tbuild.eq_1 @tbuild.eq_2) (qi @afill.eq_1 @afill.eq_2)))))
def qx7:=(qi (qi (qi (qi @qg0 (qi @qgb @qgl)) (qi @qgi (qi @qgf @qgz))) (qi (qi @qge (qi @tor.eq_1 @tor.eq_2)) (qi (qi @tlen2.eq_1 @tlen2.eq_2) (qi @tlen2.eq_3 @tlen2.eq_4)))) (qi (qi (qi @tlen3.eq_1 (qi @tlen3.eq_2 @tpick.eq_1)) (qi (qi @tpick.eq_2 @textr.eq_1) (qi @textr.eq_2 @tbox.eq_1))) (qi (qi @one.eq_1 (qi @one.eq_2 @one.eq_3)) (qi (qi @tbuild.eq_1 @tbuild.eq_2) (qi @splice.eq_1 @splice.eq_2)))))
def qx8:=(qi (qi (qi @qg0 @qgb) (qi @tor.eq_1 @tor.eq_2)) (qi (qi @tpick.eq_1 @tpick.eq_2) (qi @textr.eq_1 @textr.eq_2)))
def qx9:=(qi (qi (qi @qg0 (qi @qgb @qgy)) (qi @tor.eq_1 (qi @tor.eq_2 @tlen2.eq_1))) (qi (qi @tlen2.eq_2 (qi @tlen2.eq_3 @tlen2.eq_4)) (qi (qi @tlen3.eq_1 @tlen3.eq_2) (qi @tpick.eq_1 @tpick.eq_2))))
def qx10:=(qi (qi (qi (qi @qg0 (qi @qgb @qgl)) (qi @qgs (qi @qgi @qgf))) (qi (qi @qga (qi @qgx @tor.eq_1)) (qi (qi @tor.eq_2 @splice.eq_1) (qi @splice.eq_2 @one.eq_1)))) (qi (qi (qi @one.eq_2 (qi @one.eq_3 @tlen2.eq_1)) (qi @tlen2.eq_2 (qi @tlen2.eq_3 @tlen2.eq_4))) (qi (qi @tlen3.eq_1 (qi @tlen3.eq_2 @tbox.eq_1)) (qi (qi @tbuild.eq_1 @tbuild.eq_2) (qi @afill.eq_1 @afill.eq_2)))))
def qx11:=(qi (qi @qg0 @qgb) (qi @tor.eq_1 @tor.eq_2))
def qx12:=(qi (qi (qi @qg0 (qi @qgb @qgl)) (qi (qi @qgs @qgi) (qi @tor.eq_1 @tor.eq_2))) (qi (qi @splice.eq_1 (qi @splice.eq_2 @one.eq_1)) (qi (qi @one.eq_2 @one.eq_3) (qi @tpick.eq_1 @tpick.eq_2))))
def qx13:=(qi (qi (qi @qg0 (qi @qgb @qgl)) (qi @qgi (qi @tor.eq_1 @tor.eq_2))) (qi (qi @tlen2.eq_1 (qi @tlen2.eq_2 @tlen2.eq_3)) (qi @tlen2.eq_4 (qi @tlen3.eq_1 @tlen3.eq_2))))
def qx14:=(qi (qi (qi (qi (qi (qi (qi @wx.eq_1 @wx.eq_2) (qi @tguard.eq_1 @tguard.eq_2)) (qi (qi @acallee.eq_1 @top.eq_1) (qi @tval.eq_1 @tval.eq_2))) (qi (qi (qi @fput.eq_1 @fput.eq_2) (qi @tor.eq_1 @tor.eq_2)) (qi (qi @vsh.eq_1 @vsh.eq_2) (qi @vsh.eq_3 (qi @vbin.eq_1 @vbin.eq_2))))) (qi (qi (qi (qi @vbin.eq_3 @vbin.eq_4) (qi @vbin.eq_5 @vbin.eq_6)) (qi (qi @vbin.eq_7 @vbin.eq_8) (qi @vbin.eq_9 @vbin.eq_10))) (qi (qi (qi @vbin.eq_11 @vbin.eq_12) (qi @vbin.eq_13 @vbin.eq_14)) (qi (qi @vbin.eq_15 @vbin.eq_16) (qi @vbin.eq_17 (qi @vbin.eq_18 @vbin.eq_19)))))) (qi (qi (qi (qi (qi @vbin.eq_20 @vbin.eq_21) (qi @vbin.eq_22 @vbin.eq_23)) (qi (qi @vbin.eq_24 @vbin.eq_25) (qi @vbin.eq_26 @vbin.eq_27))) (qi (qi (qi @vbin.eq_28 @vbin.eq_29) (qi @vbin.eq_30 @vbin.eq_31)) (qi (qi @vbin.eq_32 @vbin.eq_33) (qi @vbin.eq_34 (qi @vbin.eq_35 @vbin.eq_36))))) (qi (qi (qi (qi @vbin.eq_37 @vbin.eq_38) (qi @tload.eq_1 @tload.eq_2)) (qi (qi @tload2.eq_1 @tload2.eq_2) (qi @tload2.eq_3 @tload2.eq_4))) (qi (qi (qi @tload2.eq_5 @tload2.eq_6) (qi @tload2.eq_7 @tload3.eq_1)) (qi (qi @tload3.eq_2 @tstore.eq_1) (qi @tstore.eq_2 (qi @tstore2.eq_1 @tstore2.eq_2))))))) (qi (qi (qi (qi (qi (qi @tstore3.eq_1 @splice.eq_1) (qi @splice.eq_2 @one.eq_1)) (qi (qi @one.eq_2 @one.eq_3) (qi @tidx.eq_1 @tidx.eq_2))) (qi (qi (qi @tidx.eq_3 @tidx.eq_4) (qi @tidx2.eq_1 @tidx2.eq_2)) (qi (qi @tidx3.eq_1 @tidx3.eq_2) (qi @tfa.eq_1 (qi @tfa.eq_2 @tfa2.eq_1))))) (qi (qi (qi (qi @tfa2.eq_2 @tlen2.eq_1) (qi @tlen2.eq_2 @tlen2.eq_3)) (qi (qi @tlen2.eq_4 @tlen3.eq_1) (qi @tlen3.eq_2 @tpick.eq_1))) (qi (qi (qi @tpick.eq_2 @tbox.eq_1) (qi @talloc.eq_1 @talloc.eq_2)) (qi (qi @still.eq_1 @still.eq_2) (qi @still.eq_3 (qi @still1.eq_1 @still1.eq_2)))))) (qi (qi (qi (qi (qi @flat1.eq_1 @flat1.eq_2) (qi @flat1.eq_3 @flat1.eq_4)) (qi (qi @flat1.eq_5 @flat1.eq_6) (qi @flat1.eq_7 @flat1.eq_8))) (qi (qi (qi @flat1.eq_9 @tbuild.eq_1) (qi @tbuild.eq_2 @afill.eq_1)) (qi (qi @afill.eq_2 @tbs.eq_1) (qi @tbs.eq_2 (qi @tbs2.eq_1 @tbs2.eq_2))))) (qi (qi (qi (qi @tsl.eq_1 @tsl.eq_2) (qi @tsl.eq_3 @tsl.eq_4)) (qi (qi @tsl.eq_5 @tsl.eq_6) (qi @tsl2.eq_1 @tsl2.eq_2))) (qi (qi (qi @tsl3.eq_1 @tsl3.eq_2) (qi @tsl4.eq_1 @tsl4.eq_2)) (qi (qi @tsl5.eq_1 @tsl5.eq_2) (qi @bound.eq_1 (qi @bound.eq_2 @bound.eq_3))))))))
def qx15:=(qi (qi (qi (qi (qi (qi @wx.eq_1 (qi @wx.eq_2 @tguard.eq_1)) (qi (qi @tguard.eq_2 @acallee.eq_1) (qi @top.eq_1 @tval.eq_1))) (qi (qi (qi @tval.eq_2 @fput.eq_1) (qi @fput.eq_2 @tor.eq_1)) (qi (qi @tor.eq_2 @vsh.eq_1) (qi @vsh.eq_2 @vsh.eq_3)))) (qi (qi (qi @vbin.eq_1 (qi @vbin.eq_2 @vbin.eq_3)) (qi (qi @vbin.eq_4 @vbin.eq_5) (qi @vbin.eq_6 @vbin.eq_7))) (qi (qi (qi @vbin.eq_8 @vbin.eq_9) (qi @vbin.eq_10 @vbin.eq_11)) (qi (qi @vbin.eq_12 @vbin.eq_13) (qi @vbin.eq_14 @vbin.eq_15))))) (qi (qi (qi (qi @vbin.eq_16 (qi @vbin.eq_17 @vbin.eq_18)) (qi (qi @vbin.eq_19 @vbin.eq_20) (qi @vbin.eq_21 @vbin.eq_22))) (qi (qi (qi @vbin.eq_23 @vbin.eq_24) (qi @vbin.eq_25 @vbin.eq_26)) (qi (qi @vbin.eq_27 @vbin.eq_28) (qi @vbin.eq_29 @vbin.eq_30)))) (qi (qi (qi @vbin.eq_31 (qi @vbin.eq_32 @vbin.eq_33)) (qi (qi @vbin.eq_34 @vbin.eq_35) (qi @vbin.eq_36 @vbin.eq_37))) (qi (qi (qi @vbin.eq_38 @tload.eq_1) (qi @tload.eq_2 @tload2.eq_1)) (qi (qi @tload2.eq_2 @tload2.eq_3) (qi @tload2.eq_4 @tload2.eq_5)))))) (qi (qi (qi (qi (qi @tload2.eq_6 (qi @tload2.eq_7 @tload3.eq_1)) (qi (qi @tload3.eq_2 @tstore.eq_1) (qi @tstore.eq_2 @tstore2.eq_1))) (qi (qi (qi @tstore2.eq_2 @tstore3.eq_1) (qi @splice.eq_1 @splice.eq_2)) (qi (qi @one.eq_1 @one.eq_2) (qi @one.eq_3 @tidx.eq_1)))) (qi (qi (qi @tidx.eq_2 (qi @tidx.eq_3 @tidx.eq_4)) (qi (qi @tidx2.eq_1 @tidx2.eq_2) (qi @tidx3.eq_1 @tidx3.eq_2))) (qi (qi (qi @tfa.eq_1 @tfa.eq_2) (qi @tfa2.eq_1 @tfa2.eq_2)) (qi (qi @tlen2.eq_1 @tlen2.eq_2) (qi @tlen2.eq_3 @tlen2.eq_4))))) (qi (qi (qi (qi @tlen3.eq_1 (qi @tlen3.eq_2 @textr.eq_1)) (qi (qi @textr.eq_2 @tbox.eq_1) (qi @talloc.eq_1 @talloc.eq_2))) (qi (qi (qi @still.eq_1 @still.eq_2) (qi @still.eq_3 @still1.eq_1)) (qi (qi @still1.eq_2 @flat1.eq_1) (qi @flat1.eq_2 @flat1.eq_3)))) (qi (qi (qi (qi @flat1.eq_4 @flat1.eq_5) (qi @flat1.eq_6 @flat1.eq_7)) (qi (qi @flat1.eq_8 @flat1.eq_9) (qi @tmake.eq_1 @tmake.eq_2))) (qi (qi (qi @tbuild.eq_1 @tbuild.eq_2) (qi @afill.eq_1 @afill.eq_2)) (qi (qi @tbs.eq_1 @tbs.eq_2) (qi @tbs2.eq_1 @tbs2.eq_2)))))))
def qx16:=(qi (qi (qi (qi @qg0 (qi @qgb @qgl)) (qi @qgs (qi @qgi @qgf))) (qi (qi @qga (qi @qgz @qge)) (qi @tor.eq_1 (qi @tor.eq_2 @splice.eq_1)))) (qi (qi (qi @splice.eq_2 (qi @one.eq_1 @one.eq_2)) (qi @one.eq_3 (qi @tlen2.eq_1 @tlen2.eq_2))) (qi (qi @tlen2.eq_3 (qi @tlen2.eq_4 @tlen3.eq_1)) (qi @tlen3.eq_2 (qi @textr.eq_1 @textr.eq_2)))))
def qx17:=(qi (qi (qi (qi @qg0 (qi @qgb @qgl)) (qi @qgs (qi @qgi @qgf))) (qi (qi @qga (qi @tor.eq_1 @tor.eq_2)) (qi @splice.eq_1 (qi @splice.eq_2 @one.eq_1)))) (qi (qi (qi @one.eq_2 (qi @one.eq_3 @tlen2.eq_1)) (qi @tlen2.eq_2 (qi @tlen2.eq_3 @tlen2.eq_4))) (qi (qi @tlen3.eq_1 (qi @tlen3.eq_2 @tpick.eq_1)) (qi (qi @tpick.eq_2 @tbox.eq_1) (qi @tmake.eq_1 @tmake.eq_2)))))
def qx18:=(qi (qi (qi @qg0 @qgb) (qi @qgl (qi @qgi @tor.eq_1))) (qi (qi @tor.eq_2 @tpick.eq_1) (qi @tpick.eq_2 (qi @textr.eq_1 @textr.eq_2))))
def qx19:=(qi (qi (qi (qi @qg0 (qi @qgb @qgl)) (qi (qi @qgs @qgf) (qi @qga @tor.eq_1))) (qi (qi @tor.eq_2 (qi @splice.eq_1 @splice.eq_2)) (qi (qi @one.eq_1 @one.eq_2) (qi @one.eq_3 @tlen2.eq_1)))) (qi (qi (qi @tlen2.eq_2 (qi @tlen2.eq_3 @tlen2.eq_4)) (qi (qi @tlen3.eq_1 @tlen3.eq_2) (qi @tpick.eq_1 @tpick.eq_2))) (qi (qi @textr.eq_1 (qi @textr.eq_2 @tbox.eq_1)) (qi (qi @tbuild.eq_1 @tbuild.eq_2) (qi @afill.eq_1 @afill.eq_2)))))
def qx20:=(qi (qi (qi @qg0 (qi @qgb @qgl)) (qi (qi @qgi @qgf) (qi @tor.eq_1 @tor.eq_2))) (qi (qi (qi @tlen2.eq_1 @tlen2.eq_2) (qi @tlen2.eq_3 @tlen2.eq_4)) (qi (qi @tlen3.eq_1 @tlen3.eq_2) (qi @textr.eq_1 @textr.eq_2))))
def qx21:=(qi (qi (qi (qi @qg0 @qgb) (qi @qgl @qgf)) (qi (qi @tor.eq_1 @tor.eq_2) (qi @tlen2.eq_1 (qi @tlen2.eq_2 @tlen2.eq_3)))) (qi (qi (qi @tlen2.eq_4 @tlen3.eq_1) (qi @tlen3.eq_2 @tpick.eq_1)) (qi (qi @tpick.eq_2 @tbox.eq_1) (qi @one.eq_1 (qi @one.eq_2 @one.eq_3)))))
def qx22:=(qi (qi (qi @qg0 @qgb) (qi @qgz (qi @qge @tor.eq_1))) (qi (qi @tor.eq_2 (qi @splice.eq_1 @splice.eq_2)) (qi @one.eq_1 (qi @one.eq_2 @one.eq_3))))
def qx23:=(qi (qi (qi @qg0 @qgl) (qi @qgf (qi @qge @tbox.eq_1))) (qi (qi @one.eq_1 @one.eq_2) (qi @one.eq_3 (qi @splice.eq_1 @splice.eq_2))))
def qx24:=(qi (qi (qi (qi @qg0 @qgb) (qi @qgl (qi @qgs @qgf))) (qi (qi @qgz (qi @qge @tor.eq_1)) (qi @tor.eq_2 (qi @splice.eq_1 @splice.eq_2)))) (qi (qi (qi @one.eq_1 (qi @one.eq_2 @one.eq_3)) (qi @tlen2.eq_1 (qi @tlen2.eq_2 @tlen2.eq_3))) (qi (qi @tlen2.eq_4 (qi @tlen3.eq_1 @tlen3.eq_2)) (qi @textr.eq_1 (qi @textr.eq_2 @tbox.eq_1)))))
def qx25:=(qi (qi (qi (qi @qg0 @qgb) (qi @qgl (qi @qgs @qgi))) (qi (qi @qga @qgx) (qi @tor.eq_1 (qi @tor.eq_2 @splice.eq_1)))) (qi (qi (qi @splice.eq_2 @one.eq_1) (qi @one.eq_2 (qi @one.eq_3 @tlen2.eq_1))) (qi (qi @tlen2.eq_2 @tlen2.eq_3) (qi @tlen2.eq_4 (qi @tlen3.eq_1 @tlen3.eq_2)))))
def qx27:=(qi (qi (qi (qi @qg0 @qgb) (qi @qgl @qgi)) (qi (qi @qgf @tor.eq_1) (qi @tor.eq_2 @tlen2.eq_1))) (qi (qi (qi @tlen2.eq_2 @tlen2.eq_3) (qi @tlen2.eq_4 @tlen3.eq_1)) (qi (qi @tlen3.eq_2 @tbox.eq_1) (qi @one.eq_1 (qi @one.eq_2 @one.eq_3)))))
def qx28:=(qi (qi (qi (qi @qg0 (qi @qgb @qgl)) (qi @qgs (qi @qgi @qgf))) (qi (qi @qga (qi @qgz @qge)) (qi (qi @tor.eq_1 @tor.eq_2) (qi @splice.eq_1 @splice.eq_2)))) (qi (qi (qi @one.eq_1 (qi @one.eq_2 @one.eq_3)) (qi (qi @tlen2.eq_1 @tlen2.eq_2) (qi @tlen2.eq_3 @tlen2.eq_4))) (qi (qi @tlen3.eq_1 (qi @tlen3.eq_2 @tbox.eq_1)) (qi (qi @tmake.eq_1 @tmake.eq_2) (qi @tbuild.eq_1 @tbuild.eq_2)))))
def qx30:=(qi (qi (qi (qi @qg0 (qi @qgb @qgl)) (qi @qgs (qi @qgi @qgf))) (qi (qi @qga (qi @qgz @qge)) (qi (qi @tor.eq_1 @tor.eq_2) (qi @splice.eq_1 @splice.eq_2)))) (qi (qi (qi @one.eq_1 (qi @one.eq_2 @one.eq_3)) (qi @tlen2.eq_1 (qi @tlen2.eq_2 @tlen2.eq_3))) (qi (qi @tlen2.eq_4 (qi @tlen3.eq_1 @tlen3.eq_2)) (qi (qi @tpick.eq_1 @tpick.eq_2) (qi @tbuild.eq_1 @tbuild.eq_2)))))
def qx31:=(qi (qi (qi (qi @qg0 (qi @qgb @qgl)) (qi @qgs (qi @qgi @qgf))) (qi (qi @qgz (qi @qge @tor.eq_1)) (qi @tor.eq_2 (qi @splice.eq_1 @splice.eq_2)))) (qi (qi (qi @one.eq_1 (qi @one.eq_2 @one.eq_3)) (qi @tlen2.eq_1 (qi @tlen2.eq_2 @tlen2.eq_3))) (qi (qi @tlen2.eq_4 (qi @tlen3.eq_1 @tlen3.eq_2)) (qi (qi @textr.eq_1 @textr.eq_2) (qi @tmake.eq_1 @tmake.eq_2)))))
def qx32:=(qi (qi (qi (qi @qg0 @qgb) (qi @qgl @qgi)) (qi (qi @tor.eq_1 @tor.eq_2) (qi @tlen2.eq_1 (qi @tlen2.eq_2 @tlen2.eq_3)))) (qi (qi (qi @tlen2.eq_4 @tlen3.eq_1) (qi @tlen3.eq_2 @tpick.eq_1)) (qi (qi @tpick.eq_2 @tbox.eq_1) (qi @one.eq_1 (qi @one.eq_2 @one.eq_3)))))
def qx33:=(qi (qi (qi (qi @qg0 @qgb) (qi @qgl (qi @qgs @qgi))) (qi (qi @qgf @tor.eq_1) (qi @tor.eq_2 (qi @splice.eq_1 @splice.eq_2)))) (qi (qi (qi @one.eq_1 @one.eq_2) (qi @one.eq_3 (qi @tlen2.eq_1 @tlen2.eq_2))) (qi (qi @tlen2.eq_3 (qi @tlen2.eq_4 @tlen3.eq_1)) (qi @tlen3.eq_2 (qi @textr.eq_1 @textr.eq_2)))))
def qx34:=(qi (qi (qi (qi @qg0 (qi @qgb @qgl)) (qi @qgs (qi @qgi @qgf))) (qi (qi @qgz (qi @qge @tor.eq_1)) (qi @tor.eq_2 (qi @splice.eq_1 @splice.eq_2)))) (qi (qi (qi @one.eq_1 (qi @one.eq_2 @one.eq_3)) (qi @tlen2.eq_1 (qi @tlen2.eq_2 @tlen2.eq_3))) (qi (qi @tlen2.eq_4 (qi @tlen3.eq_1 @tlen3.eq_2)) (qi @tbox.eq_1 (qi @tmake.eq_1 @tmake.eq_2)))))
def qx35:=(qi (qi (qi (qi @qg0 @qgb) (qi @qgl @qgs)) (qi (qi @qgi @qga) (qi @tor.eq_1 (qi @tor.eq_2 @splice.eq_1)))) (qi (qi (qi @splice.eq_2 @one.eq_1) (qi @one.eq_2 (qi @one.eq_3 @tlen2.eq_1))) (qi (qi @tlen2.eq_2 @tlen2.eq_3) (qi @tlen2.eq_4 (qi @tlen3.eq_1 @tlen3.eq_2)))))
def qx36:=(qi (qi (qi (qi @qg0 (qi @qgb @qgl)) (qi @qgf (qi @qgz @qge))) (qi (qi @tor.eq_1 (qi @tor.eq_2 @tlen2.eq_1)) (qi @tlen2.eq_2 (qi @tlen2.eq_3 @tlen2.eq_4)))) (qi (qi (qi @tlen3.eq_1 (qi @tlen3.eq_2 @tpick.eq_1)) (qi @tpick.eq_2 (qi @textr.eq_1 @textr.eq_2))) (qi (qi @tbuild.eq_1 (qi @tbuild.eq_2 @splice.eq_1)) (qi (qi @splice.eq_2 @one.eq_1) (qi @one.eq_2 @one.eq_3)))))
def qx37:=(qi (qi (qi @qg0 @qgl) (qi @qgi (qi @qgf @tpick.eq_1))) (qi (qi @tpick.eq_2 @tbox.eq_1) (qi @one.eq_1 (qi @one.eq_2 @one.eq_3))))
def qx39:=(qi (qi (qi @qg0 @qgb) (qi @qgl @tor.eq_1)) (qi (qi @tor.eq_2 @tbox.eq_1) (qi @one.eq_1 (qi @one.eq_2 @one.eq_3))))
def qx40:=(qi (qi @qg0 @qgb) (qi @qgx (qi @tor.eq_1 @tor.eq_2)))
def qx41:=(qi (qi (qi @qg0 (qi @qgb @qga)) (qi @qgx (qi @qgz @tor.eq_1))) (qi (qi @tor.eq_2 (qi @textr.eq_1 @textr.eq_2)) (qi @one.eq_1 (qi @one.eq_2 @one.eq_3))))
def qx42:=(qi (qi @qg0 @qgb) (qi @qgy (qi @tor.eq_1 @tor.eq_2)))
def qx44:=(qi (qi (qi @qg0 @tor.eq_1) (qi @tor.eq_2 @tlen2.eq_1)) (qi (qi @tlen2.eq_2 @tlen2.eq_3) (qi @tlen2.eq_4 (qi @tlen3.eq_1 @tlen3.eq_2))))
def qx45:=(qi (qi (qi @qg0 (qi @qgb @qgl)) (qi (qi @qgi @tor.eq_1) (qi @tor.eq_2 @tlen2.eq_1))) (qi (qi @tlen2.eq_2 (qi @tlen2.eq_3 @tlen2.eq_4)) (qi (qi @tlen3.eq_1 @tlen3.eq_2) (qi @tpick.eq_1 @tpick.eq_2))))
def qx46:=(qi (qi (qi (qi (qi @wx.eq_1 @wx.eq_2) (qi @tguard.eq_1 (qi @tguard.eq_2 @acallee.eq_1))) (qi (qi @top.eq_1 @tval.eq_1) (qi @tval.eq_2 (qi @fput.eq_1 @fput.eq_2)))) (qi (qi (qi @tload.eq_1 @tload.eq_2) (qi @tload2.eq_1 (qi @tload2.eq_2 @tload2.eq_3))) (qi (qi @tload2.eq_4 @tload2.eq_5) (qi @tload2.eq_6 (qi @tload2.eq_7 @tload3.eq_1))))) (qi (qi (qi (qi @tload3.eq_2 @tstore.eq_1) (qi @tstore.eq_2 (qi @tstore2.eq_1 @tstore2.eq_2))) (qi (qi @tstore3.eq_1 @splice.eq_1) (qi @splice.eq_2 (qi @one.eq_1 @one.eq_2)))) (qi (qi (qi @one.eq_3 @tfa.eq_1) (qi @tfa.eq_2 (qi @tfa2.eq_1 @tfa2.eq_2))) (qi (qi @tlen2.eq_1 (qi @tlen2.eq_2 @tlen2.eq_3)) (qi @tlen2.eq_4 (qi @tlen3.eq_1 @tlen3.eq_2))))))
def qx47:=(qi (qi (qi (qi (qi (qi @wx.eq_1 @wx.eq_2) (qi @tguard.eq_1 @tguard.eq_2)) (qi (qi @acallee.eq_1 @top.eq_1) (qi @tval.eq_1 (qi @tval.eq_2 @fput.eq_1)))) (qi (qi (qi @fput.eq_2 @tor.eq_1) (qi @tor.eq_2 (qi @vsh.eq_1 @vsh.eq_2))) (qi (qi @vsh.eq_3 @vbin.eq_1) (qi @vbin.eq_2 (qi @vbin.eq_3 @vbin.eq_4))))) (qi (qi (qi (qi @vbin.eq_5 @vbin.eq_6) (qi @vbin.eq_7 (qi @vbin.eq_8 @vbin.eq_9))) (qi (qi @vbin.eq_10 @vbin.eq_11) (qi @vbin.eq_12 (qi @vbin.eq_13 @vbin.eq_14)))) (qi (qi (qi @vbin.eq_15 @vbin.eq_16) (qi @vbin.eq_17 (qi @vbin.eq_18 @vbin.eq_19))) (qi (qi @vbin.eq_20 @vbin.eq_21) (qi @vbin.eq_22 (qi @vbin.eq_23 @vbin.eq_24)))))) (qi (qi (qi (qi (qi @vbin.eq_25 @vbin.eq_26) (qi @vbin.eq_27 @vbin.eq_28)) (qi (qi @vbin.eq_29 @vbin.eq_30) (qi @vbin.eq_31 (qi @vbin.eq_32 @vbin.eq_33)))) (qi (qi (qi @vbin.eq_34 @vbin.eq_35) (qi @vbin.eq_36 (qi @vbin.eq_37 @vbin.eq_38))) (qi (qi @tload.eq_1 @tload.eq_2) (qi @tload2.eq_1 (qi @tload2.eq_2 @tload2.eq_3))))) (qi (qi (qi (qi @tload2.eq_4 @tload2.eq_5) (qi @tload2.eq_6 (qi @tload2.eq_7 @tload3.eq_1))) (qi (qi @tload3.eq_2 @tstore.eq_1) (qi @tstore.eq_2 (qi @tstore2.eq_1 @tstore2.eq_2)))) (qi (qi (qi @tstore3.eq_1 @splice.eq_1) (qi @splice.eq_2 (qi @one.eq_1 @one.eq_2))) (qi (qi @one.eq_3 @tfa.eq_1) (qi @tfa.eq_2 (qi @tfa2.eq_1 @tfa2.eq_2)))))))
def qx48:=(qi (qi @qg0 (qi @qgl @tbox.eq_1)) (qi @one.eq_1 (qi @one.eq_2 @one.eq_3)))
end Go.AM
