/- A part of a proof. Its conditions: none. -/
import Derived.Test.YtjlgpanihjnaeaaGreatDoorAmE
set_option linter.all false
namespace Go.AM
open Go.RowKit
def apartRec(r q:Rec):Bool:=match r.wr with
 | some x=>!(q.rd.contains x) && (match q.wr with|some y=>!(Nat.beq x y)|none=>true)
 | none=>true
def pairsOK(ps:List (Nat × Nat))(l:List Rec):Bool :=
 ps.all fun p=>match l[p.1]?,l[p.2]? with
  | some r,some q=>apartRec r q && apartRec q r
  | _,_=>true
def evFl(draw:Bool)(all:Array Oper)(k n fl:Nat):Nat:=match draw with
 | false=>fl
 | true=>match soloB all (all.size - k)with
  | true=>fl
  | false=>n
section
variable (P:Program) (okF:FuncId→Bool)
def evOps(cf:Nat→FuncId→List Value→Nat→Heap→Option (Value × Nat × Heap))(draw:Bool)(fl:Nat)(all:Array Oper):List Oper→St→Option (St × List Rec)
 | [],s=>some (s,[])
 | o::rest,s =>
  match wantedA all s.f o with
  | false=>match evOps cf draw fl all rest ⟨fput s.f o.dst undef,s.n,s.H⟩with
   | some (s1,l)=>some (s1,⟨s,undef,s.n,s.H,[],none,false⟩::l)
   | none=>none
  | true=>match aop P (evalA s.f) s.n s.H o with
   | some r =>
    match(match r.wr with|some (x,_)=>Nat.ble fl x|none=>true)with
    | true=>match evOps cf draw fl all rest ⟨fput s.f o.dst r.v,r.next s.n,r.heap s.n s.H⟩with
     | some (s1,l)=>some (s1,⟨s,r.v,r.next s.n,r.heap s.n s.H,r.rd,r.wr.map (·.1),false⟩::l)
     | none=>none
    | false=>none
   | none=>match acallee (evalA s.f) o with
    | some (g,args)=>match cf (evFl draw all (rest.length+1) s.n fl) g args s.n s.H with
     | some (v,n,H)=>match evOps cf draw fl all rest ⟨fput s.f o.dst v,n,H⟩with
      | some (s1,l)=>some (s1,⟨s,v,n,H,[],none,true⟩::l)
      | none=>none
     | none=>none
    | none=>none
def evCode(cf:Nat→FuncId→List Value→Nat→Heap→Option (Value × Nat × Heap)):Nat→Nat→Code→St→Option (AExit × St)
 | 0,_,_,_=>none
 | k+1,fl,c,s=>match c with
  | .skip|.label _=>some (.normal,s)
  | .ret=>some (.ret,s)
  | .exit id=>some (.exit id,s)
  | .seq a b=>match evCode cf k fl a s with
   | some (.normal,s1)=>evCode cf k fl b s1
   | r=>r
  | .cond x a b=>match evalA s.f x with
   | .bool t=>match t with
    | true=>evCode cf k fl a s
    | false=>evCode cf k fl b s
   | _=>none
  | .block id a=>match evCode cf k fl a s with
   | some (e,s1)=>some (blockExit id e,s1)
   | none=>none
  | .loop a=>match evCode cf k fl a s with
   | some (.normal,s1)=>evCode cf k fl (.loop a) s1
   | r=>r
  | .region _ ops draw=>match evOps P cf draw fl ops ops.toList s with
   | some (s1,l)=>match draw with
    | false=>some (.normal,s1)
    | true=>match pairsOK (sPairs ops) l with
     | true=>some (.normal,s1)
     | false=>none
   | none=>none
  | _=>none
def evCall:Nat→Nat→FuncId→List Value→Nat→Heap→Option (Value × Nat × Heap)
 | 0,_,_,_,_,_=>none
 | k+1,fl,g,args,n,H =>
  match okF g with
  | true=>match P.funcs[g]? with
   | some fn=>match fn.body with
    | some c=>match Nat.ble args.length fn.ntmps with
     | true=>match evCode P (evCall k) (k+1) fl c ⟨fun t=>args.getD t undef,n,H⟩with
      | some (.normal,s)|some (.ret,s)=>match aresults P fn s with
       | some v=>some (v,s.n,s.H)
       | none=>none
      | _=>none
     | false=>none
    | none=>none
   | none=>none
  | false=>none
end
def CfOK(P:Program)(cf:Nat→FuncId→List Value→Nat→Heap→Option (Value × Nat × Heap)):Prop :=
 ∀fl g args n H v n' H',cf fl g args n H=some (v,n',H')→BS P (.call g args n H) (.ret v n' H')∧∀x,x<fl→x<n→H' x=H x
section
variable {P:Program} {okF:FuncId→Bool}
theorem res_low{r:Res}{fl n x:Nat}{H:Heap}(h:(match r.wr with|some (x,_)=>Nat.ble fl x|none=>true)=true)(hx:x<fl)(hn:x<n):r.heap n H x=H x:=by
 apply Classical.byContradiction
 intro hc
 rcases res_heap hc with⟨_,e⟩|⟨o,e⟩
 ·omega
 ·simp only[e]at h
  have:=Nat.le_of_ble_eq_true h
  omega
theorem next_le(r:Res)(n:Nat):n≤r.next n:=by unfold Res.next;split <;> omega
theorem evOps_sound {cf : Nat → FuncId → List Value → Nat → Heap → Option (Value × Nat × Heap)} (hcf : CfOK P cf) (hmono : ∀ g args n H v n' H', BS P (.call g args n H) (.ret v n' H') → n ≤ n') {draw : Bool} {fl : Nat} {all : Array Oper} :
    ∀ (rest : List Oper) (s s1 : St) (l : List Rec), rest.length ≤ all.size → evOps P cf draw fl all rest s = some (s1, l) →
      BS P (.ops all rest s) (.log s1 l) ∧ s.n ≤ s1.n ∧ (∀ x, x < fl → x < s.n → s1.H x = s.H x) ∧ (draw = true → ∀ (k : Nat) (r : Rec), l[k]? = some r → r.call = true → soloB all (all.size - rest.length + k) = true ∨ ∀ x, x < r.pre.n → r.H x = r.pre.H x) := by
  suffices hmain : ∀ (rest : List Oper) (s s1 : St) (l : List Rec), rest.length ≤ all.size → evOps P cf draw fl all rest s = some (s1, l) →
      BS P (.ops all rest s) (.log s1 l) ∧ s.n ≤ s1.n ∧ (∀ x, x < fl → x < s.n → s1.H x = s.H x) ∧ (draw = true → ∀ (k : Nat) (r : Rec), l[k]? = some r → r.call = true → soloB all (all.size - rest.length + k) = true ∨ ∀ x, x < r.pre.n → r.H x = r.pre.H x) from
    fun rest s s1 l hl h => hmain rest s s1 l hl h
  intro rest
  induction rest with
  | nil => intro s s1 l _ h; simp only [evOps] at h; cases h; exact ⟨.opsNil all s, Nat.le_refl _, fun _ _ _ => rfl, fun _ k r hr => by simp at hr⟩
  | cons o rest ih =>
    intro s s1 l hlen h
    simp only [List.length_cons] at hlen
    have shift : ∀ k, all.size - (rest.length + 1) + (k + 1) = all.size - rest.length + k := fun k => by omega
    simp only [evOps] at h
    split at h
    · rename_i hw
      split at h
      case h_2 => cases h
      rename_i s2 l2 h2
      cases h
      obtain ⟨b, c, d, e⟩ := ih _ _ _ (by omega) h2
      refine ⟨.opsSkip hw b, c, d, fun hd k r hr hc => ?_⟩
      cases k with
      | zero => simp at hr; subst hr; cases hc
      | succ k => simp only [List.length_cons, shift]; exact e hd k r (by simpa using hr) hc
    · rename_i hw
      split at h
      · rename_i r hr
        split at h
        case h_2 => cases h
        rename_i hfl
        split at h
        case h_2 => cases h
        rename_i s2 l2 h2
        cases h
        obtain ⟨b, c, d, e⟩ := ih _ _ _ (by omega) h2
        refine ⟨.opsOp hw hr b, Nat.le_trans (next_le r s.n) c, fun x h1 h3 => ?_, fun hd k r hr hc => ?_⟩
        · rw [d x h1 (Nat.lt_of_lt_of_le h3 (next_le r s.n))]; exact res_low hfl h1 h3
        · cases k with
          | zero => simp at hr; subst hr; cases hc
          | succ k => simp only [List.length_cons, shift]; exact e hd k r (by simpa using hr) hc
      · split at h
        case h_2 => cases h
        rename_i g args hg
        split at h
        case h_2 => cases h
        rename_i v n H hc
        split at h
        case h_2 => cases h
        rename_i s2 l2 h2
        cases h
        obtain ⟨b, c, d, e⟩ := ih _ _ _ (by omega) h2
        obtain ⟨f1, f2⟩ := hcf _ _ _ _ _ _ _ _ hc
        have hle := hmono _ _ _ _ _ _ _ f1
        refine ⟨.opsCall hw hg f1 b, Nat.le_trans hle c, fun x h1 h3 => ?_, fun hd k r hr hc => ?_⟩
        · rw [d x h1 (Nat.lt_of_lt_of_le h3 hle)]
          refine f2 x ?_ h3
          unfold evFl
          split
          · exact h1
          · split
            · exact h1
            · exact h3
        · cases k with
          | zero =>
            simp at hr
            subst hr
            simp only [List.length_cons, Nat.add_zero]
            by_cases hs : soloB all (all.size - (rest.length + 1)) = true
            · exact .inl hs
            · refine .inr fun x hx => f2 x ?_ hx
              subst hd
              have hs' : soloB all (all.size - (rest.length + 1)) = false := by simpa using hs
              unfold evFl
              simp only [hs']
              exact hx
          | succ k => simp only [List.length_cons, shift]; exact e hd k r (by simpa using hr) hc
theorem pairs_sound{ops:Array Oper}{l:List Rec}(h:pairsOK (sPairs ops) l=true)(hc:∀(k:Nat) (r:Rec),l[k]? = some r→r.call=true→soloB ops k=true∨∀x,x<r.pre.n→r.H x=r.pre.H x):drawOK ops l:=by
 refine⟨fun p hp x=>?_,hc⟩
 unfold pairsOK at h
 rw[List.all_eq_true]at h
 have h1:=h p hp
 have key:∀r q:Rec,apartRec r q=true→¬(r.wr=some x∧(x∈q.rd∨q.wr=some x)):=by
  rintro r q h ⟨e1,e2⟩
  unfold apartRec at h
  rw[e1]at h
  simp only[Bool.and_eq_true,Bool.not_eq_true']at h
  rcases e2 with e2|e2
  ·have:=h.1;simp at this;exact this e2
  ·rw[e2]at h;simp at h
 constructor
 ·rintro⟨⟨r,e1,e2⟩,q,e3,e4⟩
  rw[e1,e3]at h1
  simp only[Bool.and_eq_true]at h1
  exact key r q h1.1 ⟨e2,e4⟩
 ·rintro⟨⟨r,e1,e2⟩,q,e3,e4⟩
  rw[e1,e3]at h1
  simp only[Bool.and_eq_true]at h1
  exact key r q h1.2 ⟨e2,e4⟩
theorem evCode_sound {cf : Nat → FuncId → List Value → Nat → Heap → Option (Value × Nat × Heap)} (hcf : CfOK P cf) (hmono : ∀ g args n H v n' H', BS P (.call g args n H) (.ret v n' H') → n ≤ n') :
    ∀ (k fl : Nat) (c : Code) (s s1 : St) (e : AExit), evCode P cf k fl c s = some (e, s1) → BS P (.code c s) (.at e s1) ∧ s.n ≤ s1.n ∧ ∀ x, x < fl → x < s.n → s1.H x = s.H x := by
  intro k
  induction k with
  | zero => intro fl c s s1 e h; simp [evCode] at h
  | succ k ih =>
    intro fl c s s1 e h
    cases c with
    | skip => simp only [evCode] at h; cases h; exact ⟨.skip s, Nat.le_refl _, fun _ _ _ => rfl⟩
    | label l => simp only [evCode] at h; cases h; exact ⟨.label l s, Nat.le_refl _, fun _ _ _ => rfl⟩
    | ret => simp only [evCode] at h; cases h; exact ⟨.ret s, Nat.le_refl _, fun _ _ _ => rfl⟩
    | exit id => simp only [evCode] at h; cases h; exact ⟨.exit id s, Nat.le_refl _, fun _ _ _ => rfl⟩
    | seq a b =>
      simp only [evCode] at h
      cases ha : evCode P cf k fl a s with
      | none => simp [ha] at h
      | some p =>
        obtain ⟨e1, s2⟩ := p
        obtain ⟨b1, b2, b3⟩ := ih _ _ _ _ _ ha
        by_cases he : e1 = .normal
        · subst he
          simp only [ha] at h
          obtain ⟨c1, c2, c3⟩ := ih _ _ _ _ _ h
          exact ⟨.seq b1 c1, Nat.le_trans b2 c2, fun x h1 h2 => (c3 x h1 (Nat.lt_of_lt_of_le h2 b2)).trans (b3 x h1 h2)⟩
        · have h' : some (e1, s2) = some (e, s1) := by
            rw [ha] at h
            cases e1 with
            | normal => exact absurd rfl he
            | exit id => exact h
            | ret => exact h
          cases h'
          exact ⟨.seqOut he b1, b2, b3⟩
    | cond x a b =>
      simp only [evCode] at h
      split at h
      case h_2 => cases h
      rename_i t ht
      cases t with
      | true => obtain ⟨b1, b2, b3⟩ := ih _ _ _ _ _ h; exact ⟨.cond true ht b1, b2, b3⟩
      | false => obtain ⟨b1, b2, b3⟩ := ih _ _ _ _ _ h; exact ⟨.cond false ht b1, b2, b3⟩
    | block id a =>
      simp only [evCode] at h
      split at h
      case h_2 => cases h
      rename_i e1 s2 ha
      cases h
      obtain ⟨b1, b2, b3⟩ := ih _ _ _ _ _ ha
      exact ⟨.block b1, b2, b3⟩
    | loop a =>
      simp only [evCode] at h
      cases ha : evCode P cf k fl a s with
      | none => simp [ha] at h
      | some p =>
        obtain ⟨e1, s2⟩ := p
        obtain ⟨b1, b2, b3⟩ := ih _ _ _ _ _ ha
        by_cases he : e1 = .normal
        · subst he
          simp only [ha] at h
          obtain ⟨c1, c2, c3⟩ := ih _ _ _ _ _ h
          exact ⟨.loop b1 c1, Nat.le_trans b2 c2, fun x h1 h2 => (c3 x h1 (Nat.lt_of_lt_of_le h2 b2)).trans (b3 x h1 h2)⟩
        · have h' : some (e1, s2) = some (e, s1) := by
            rw [ha] at h
            cases e1 with
            | normal => exact absurd rfl he
            | exit id => exact h
            | ret => exact h
          cases h'
          exact ⟨.loopOut he b1, b2, b3⟩
    | region id ops draw =>
      simp only [evCode] at h
      split at h
      case h_2 => cases h
      rename_i s2 l h2
      obtain ⟨b1, b2, b3, b4⟩ := evOps_sound hcf hmono _ _ _ _ (by simp) h2
      cases draw with
      | false => cases h; exact ⟨.region b1, b2, b3⟩
      | true =>
        simp only at h
        split at h
        case h_2 => cases h
        rename_i hp
        cases h
        exact ⟨.regionDraw b1 (pairs_sound hp (by simpa using b4 rfl)), b2, b3⟩
    | _ => simp [evCode] at h
theorem call_mono(hm:P.follows .mixedOrders=true):∀g args n H v n' H',BS P (.call g args n H) (.ret v n' H')→n≤n':=fun _ _ _ _ _ _ _ h=>(sound hm h).1.le
theorem evCall_sound(hm:P.follows .mixedOrders=true)(hok:∀g fn c,okF g=true→P.funcs[g]? = some fn→fn.body=some c→FnOK P g fn c):∀k,CfOK P (evCall P okF k):=by
 intro k
 induction k with
 | zero=>intro fl g args n H v n' H' h;simp[evCall]at h
 | succ k ih =>
  intro fl g args n H v n' H' h
  simp only[evCall]at h
  split at h
  case h_2=>cases h
  rename_i hg
  split at h
  case h_2=>cases h
  rename_i fn hfn
  split at h
  case h_2=>cases h
  rename_i c hc
  split at h
  case h_2=>cases h
  rename_i hl
  have hl':=Nat.le_of_ble_eq_true hl
  split at h
  ·rename_i s hs
   split at h
   case h_2=>cases h
   rename_i v' hv
   cases h
   obtain⟨b1,b2,b3⟩:=evCode_sound ih (call_mono hm) _ _ _ _ _ _ hs
   exact⟨.call (hok g fn c hg hfn hc) hl' b1 (.inl rfl) hv,b3⟩
  ·rename_i s hs
   split at h
   case h_2=>cases h
   rename_i v' hv
   cases h
   obtain⟨b1,b2,b3⟩:=evCode_sound ih (call_mono hm) _ _ _ _ _ _ hs
   exact⟨.call (hok g fn c hg hfn hc) hl' b1 (.inr rfl) hv,b3⟩
  ·cases h
end
def fnOKb(P:Program)(g:FuncId):Bool:=match P.funcs[g]? with
 | some fn=>match fn.body with
  | some c => !(fn.name == "runtime.NumGoroutine") && codeOK (ngl P) fn.ntmps c && resultsOK fn
  | none=>true
 | none=>true
theorem fnOK_of{P:Program}{l:List FuncId}(h:l.all (fnOKb P)=true):∀g fn c,l.contains g=true→P.funcs[g]? = some fn→fn.body=some c→FnOK P g fn c:=by
 intro g fn c hg hfn hc
 rw[List.all_eq_true]at h
 have:=h g (by simpa using hg)
 unfold fnOKb at this
 simp only[hfn,hc,Bool.and_eq_true,Bool.not_eq_true']at this
 exact⟨hfn,hc,this.1.1,this.1.2,this.2⟩
end Go.AM
namespace Go.AM
open Go.RowKit
def AW(P:Program)(c:Code)(s:St)(Q:AExit→St→Prop):Prop:=∃e s1,BS P (.code c s) (.at e s1)∧Q e s1
def Ret(P:Program)(g:FuncId)(args:List Value)(n:Nat)(H:Heap)(Q:Value→Nat→Heap→Prop):Prop :=
 ∃v n' H',BS P (.call g args n H) (.ret v n' H')∧n≤n'∧(∀x,x<n→H' x=H x)∧Q v n' H'
def wpOps(P:Program)(all:Array Oper):List Oper→St→(St→Prop)→Prop
 | [],s,Q=>Q s
 | o::rest,s,Q=>match wantedA all s.f o with
  | false=>wpOps P all rest ⟨fput s.f o.dst undef,s.n,s.H⟩ Q
  | true=>match aop P (evalA s.f) s.n s.H o with
   | some r=>wpOps P all rest ⟨fput s.f o.dst r.v,r.next s.n,r.heap s.n s.H⟩ Q
   | none=>match acallee (evalA s.f) o with
    | some (g,args)=>Ret P g args s.n s.H fun v n H=>wpOps P all rest ⟨fput s.f o.dst v,n,H⟩ Q
    | none=>False
def free(ops:Array Oper)(draw:Bool):Bool:=!draw || (sPairs ops).isEmpty
def wpRegion(P:Program)(id:Nat)(ops:Array Oper)(draw:Bool)(s:St)(Q:AExit→St→Prop):Prop:=AW P (.region id ops draw) s Q
def wpLoop(P:Program)(c:Code)(s:St)(Q:AExit→St→Prop):Prop:=AW P (.loop c) s Q
def after(e:AExit)(Q:AExit→Prop)(R:Prop):Prop:=match e with
 | .normal=>R
 | e=>Q e
def wp(P:Program):Code→St→(AExit→St→Prop)→Prop
 | .skip,s,Q|.label _,s,Q=>Q .normal s
 | .ret,s,Q=>Q .ret s
 | .exit id,s,Q=>Q (.exit id) s
 | .seq a b,s,Q=>wp P a s fun e s1=>after e (fun e=>Q e s1) (wp P b s1 Q)
 | .cond x a b,s,Q=>match evalA s.f x with
  | .bool t=>match t with
   | true=>wp P a s Q
   | false=>wp P b s Q
  | _=>False
 | .block id a,s,Q=>wp P a s fun e s1=>Q (blockExit id e) s1
 | .loop c,s,Q=>wpLoop P c s Q
 | .region id ops draw,s,Q=>wpRegion P id ops draw s Q
 | _,_,_=>False
end Go.AM
namespace Go.AM
open Go.RowKit
def isz(P:Program)(t:TypeId):Option Nat:=(P.info? t).map (·.size)
def esz(P:Program)(t:TypeId):Option (TypeId × Nat):=match P.underlying t with
 | some (.slice e)=>(isz P e).map fun k=>(e,k)
 | _=>none
def fofs(P:Program)(t:TypeId)(i:Nat):Option Nat:=match P.underlying t with
 | some (.struct fields)=>match fields[i]? with
  | some f=>match isz P f.type with
   | some j=>if j=0 then none else some f.offset
   | none=>none
  | none=>none
 | _=>none
def eapp(P:Program)(ts:Array TypeId):Option (TypeId × Nat):=match ts[0]?,ts[1]? with
 | some t,some u=>match P.underlying t with
  | some (.slice elem)=>match P.info? elem,zeroCellsOf P elem,P.underlying u with
   | some j,some zs,some du=>if j.bytes>4096∨j.size=0∨zs.length≠j.size∨srcT du=false then none else some (elem,j.size)
   | _,_,_=>none
  | _=>none
 | _,_=>none
def emk(P:Program)(t:TypeId):Option (TypeId × List Value):=match P.underlying t with
 | some (.slice elem)=>match P.info? elem,zeroCellsOf P elem with
  | some j,some zs=>if j.bytes≤4096∧zs.length=j.size∧j.size≠0 then some (elem,zs) else none
  | _,_=>none
 | _=>none
def undT(P:Program)(ts:Array TypeId):Option TypeDesc:=(ts[0]?).bind P.underlying
def zeroT(P:Program)(t:TypeId):Option Value:=(P.info? t).bind (·.zero)
def fcel(P:Program)(t:TypeId)(i:Nat):Option (Bool × Nat × Nat):=match P.underlying t with
 | some (.struct fields)=>match fields[i]? with
  | some f=>match P.info? f.type,aggT P f.type with
   | some j,some b=>some (b,f.offset,j.size)
   | _,_=>none
  | none=>none
 | _=>none
def ebd(P:Program)(t:TypeId):Option (List Value × List (Nat × Nat)):=match P.underlying t,zeroCellsOf P t with
 | some (.struct fields),some zs=>(fplaces P fields.toList).map fun l=>(zs,l)
 | some (.array n elem),some zs=>(P.info? elem).map fun j=>(zs,(List.range n).map fun i=>(i*j.size,j.size))
 | _,_=>none
theorem afill_arr{n:Nat}{f:Nat→Nat × Nat}:∀(ps:List (Nat × Value)) (zs cs:List Value),afill (fun i=>((List.range n).map f)[i]?) zs ps=some cs→afill (fun i=>some (f i)) zs ps=some cs
 | [],zs,cs,h=>h
 | (i,v)::ps,zs,cs,h=>by
  unfold afill at h ⊢
  by_cases hi:i<n
  ·have e:((List.range n).map f)[i]? = some (f i):=by simp[hi]
   simp only[e]at h
   simp only
   split at h
   ·cases h
   ·rename_i hc
    rw[if_neg hc]
    exact afill_arr ps _ cs h
  ·have e:((List.range n).map f)[i]? = none:=by simp;omega
   simp only[e]at h
   cases h
def ebs(P:Program)(t:TypeId)(len:Nat):Option (TypeId × Nat × List Value):=match P.underlying t with
 | some (.slice elem)=>match P.info? elem,zeroCellsOf P elem with
  | some j,some zs=>if len*j.size>16777216∨len>1048576∨zs.length≠j.size∨j.size=0 then none else some (elem,j.size,zs)
  | _,_=>none
 | _=>none
def vbin (P : Program) (op : BinOp) (t : TypeId) (x y : Value) : Option Value :=
  match x, y with
  | .int k a, .int k' b => if k = k' then match op with
      | .eql => some (.bool (decide (a = b)))
      | .neq => some (.bool (!decide (a = b)))
      | .lss => some (.bool (decide (a < b)))
      | .leq => some (.bool (decide (a ≤ b)))
      | .gtr => some (.bool (decide (b < a)))
      | .geq => some (.bool (decide (b ≤ a)))
      | .add => some (.int k (k.wrap (a + b)))
      | .sub => some (.int k (k.wrap (a - b)))
      | .mul => some (.int k (k.wrap (a * b)))
      | .and => some (.int k (k.wrap (BitVec.ofInt k.bits a &&& BitVec.ofInt k.bits b).toNat))
      | .or => some (.int k (k.wrap (BitVec.ofInt k.bits a ||| BitVec.ofInt k.bits b).toNat))
      | .xor => some (.int k (k.wrap (BitVec.ofInt k.bits a ^^^ BitVec.ofInt k.bits b).toNat))
      | .quo => if b = 0 then none else some (.int k (k.wrap (a.tdiv b)))
      | .rem => if b = 0 then none else some (.int k (a.tmod b))
      | _ => none
    else none
  | .string a, .string b => match op with
      | .eql => some (.bool (a.toList == b.toList))
      | .neq => some (.bool (!(a.toList == b.toList)))
      | .lss => some (.bool (Op.bytesLess a.toList b.toList))
      | .leq => some (.bool (Op.bytesLess a.toList b.toList || a.toList == b.toList))
      | .gtr => some (.bool (!(Op.bytesLess a.toList b.toList || a.toList == b.toList)))
      | .geq => some (.bool (!Op.bytesLess a.toList b.toList))
      | .add => if ((a.size + b.size : Nat) : Int) > IntKind.i64.max then none else some (.string (a ++ b))
      | _ => none
  | .bool a, .bool b => match P.underlying t with
      | some .bool => match op with
        | .eql => some (.bool (a == b))
        | .neq => some (.bool (!(a == b)))
        | _ => none
      | _ => none
  | .float k a, .float k' b => if k = k' then match op with
      | .eql => some (.bool (k.format.order a b == some .eq))
      | .neq => some (.bool (k.format.order a b != some .eq))
      | .lss => some (.bool (k.format.order a b == some .lt))
      | .leq => some (.bool (k.format.order a b == some .lt || k.format.order a b == some .eq))
      | .gtr => some (.bool (k.format.order a b == some .gt))
      | .geq => some (.bool (k.format.order a b == some .gt || k.format.order a b == some .eq))
      | .add => (k.format.add a b).map (.float k ·)
      | .sub => (k.format.sub a b).map (.float k ·)
      | .mul => (k.format.mul a b).map (.float k ·)
      | .quo => (k.format.div a b).map (.float k ·)
      | _ => none
    else none
  | _, _ => none
def vsh(op:BinOp)(x y:Value):Option Value :=
 match op,x,y with
 | .shl,.int k a,.int _ b=>if b<0 then none else some (.int k (k.wrap (a*2 ^ (min b.toNat k.bits))))
 | .shr,.int k a,.int _ b=>if b<0 then none else some (.int k (a.fdiv (2 ^ (min b.toNat k.bits))))
 | _,_,_=>none
def vun(op:UnOp)(x:Value):Option Value :=
 match op,x with
 | .not,.bool b=>some (.bool !b)
 | .neg,.int k n=>some (.int k (k.wrap (0 - n)))
 | .neg,.float k b=>some (.float k (Op.negFloat k b))
 | .xor,.int k n=>some (.int k (k.wrap (BitVec.ofInt k.bits (if k.signed then -1 else k.max) ^^^ BitVec.ofInt k.bits n).toNat))
 | _,_=>none
def vconv(P:Program)(src dst:TypeId)(x:Value):Option Value :=
 match P.underlying src,P.underlying dst,x with
 | some (.int _),some (.int k),.int _ n=>some (.int k (k.wrap n))
 | some (.int _),some (.float k),.int _ n=>some (.float k (k.nearest n))
 | some .string,some .string,.string s=>some (.string s)
 | some (.float _),some (.int dst),.float k b=>match(k.decode b).toInt .zero with
  | some n=>if dst.min≤n∧n≤dst.max then some (.int dst n) else none
  | none=>none
 | _,_,_=>none
def sop (P : Program) (ρ : Operand → Value) (n : Nat) (H : Heap) (o : Oper) : Option Res :=
  match o.op with
  | .binOp op t x y _ => match vbin P op t (ρ x) (ρ y) with
    | some v => some { v := v }
    | none => aop P ρ n H o
  | .unOp op _ x => match vun op (ρ x) with
    | some v => some { v := v }
    | none => aop P ρ n H o
  | .convert s d x => match vconv P s d (ρ x) with
    | some v => some { v := v }
    | none => aop P ρ n H o
  | .index t x i => match ρ x, ρ i with
    | .string s, .int _ i => match P.underlying t with
      | some .string => if 0 ≤ i then (s[i.toNat]?).map fun b => { v := .int .u8 b.toNat } else none
      | _ => none
    | _, _ => aop P ρ n H o
  | .fieldAddr t x i => match ρ x with
    | .pointer (some ⟨y, k, none⟩) => (fofs P t i).map fun f => { v := .pointer (some ⟨y, k + f, none⟩) }
    | _ => none
  | .indexAddr t x i => match ρ x, ρ i with
    | .slice (some ⟨y, k, none⟩) len _, .int _ i => match esz P t with
      | some (_, j) => if 0 ≤ i ∧ i < len then some { v := .pointer (some ⟨y, k + i.toNat * j, none⟩) } else none
      | none => none
    | _, _ => aop P ρ n H o
  | .alloc t => match zeroT P t with
    | some z => if still z = true ∧ (vcells z).all one = true then some { v := .pointer (some ⟨n, 0, none⟩), news := [.cells (vcells z) t true] } else none
    | none => none
  | .store t a x => match ρ a with
    | .pointer (some ⟨y, k, none⟩) => match H y with
      | .cells cs ty true => if isz P t = some (vcells (ρ x)).length ∧ (vcells (ρ x)).all one = true ∧ k + (vcells (ρ x)).length ≤ cs.length then
          some { v := undef, wr := some (y, .cells (splice cs k (vcells (ρ x))) ty true) } else none
      | _ => none
    | _ => none
  | .makeSlice t l c => match emk P t, ρ l, ρ c with
    | some (elem, zs), .int _ l, .int _ c => if 0 ≤ l ∧ l ≤ c ∧ c ≤ bigN then
        some { v := .slice (some ⟨n, 0, none⟩) l.toNat l.toNat, news := [.cells (rep l.toNat zs) elem true] } else none
    | _, _, _ => none
  | .field t x i => match ρ x with
    | .agg cs => match fcel P t i with
      | some (true, off, sz) => if off + sz ≤ cs.toList.length then some { v := .agg ((cs.toList.drop off).take sz).toArray } else none
      | some (false, off, _) => (cs.toList[off]?).map fun v => { v := v }
      | none => none
    | _ => none
  | .build t ps => match ebd P t with
    | some (zs, places) => (afill (fun i => places[i]?) zs (ps.toList.map fun (i, x) => (i, ρ x))).map fun cs => { v := .agg cs.toArray }
    | none => aop P ρ n H o
  | .buildSlice t len ps => match ebs P t len with
    | some (elem, sz, zs) => (afill (fun i => some (i * sz, sz)) (rep len zs) (ps.toList.map fun (i, x) => (i, ρ x))).map fun cs => { v := .slice (some ⟨n, 0, none⟩) len len, news := [.cells cs elem true] }
    | none => none
  | .slice t x lo hi none => match ρ x with
    | .slice (some ⟨y, k, none⟩) len _ => match esz P t, bound (lo.map ρ) 0, bound (hi.map ρ) len, H y with
      | some (_, j), some l, some h, .cells _ ty own =>
        if l ≤ h ∧ h ≤ len ∧ (own = true → isz P ty = some j) then some { v := .slice (some ⟨y, k + l * j, none⟩) (h - l) (h - l), rd := [y] } else none
      | _, _, _, _ => none
    | _ => aop P ρ n H o
  | .call { callee := .builtin .len, args, argTypes } => match args.toList with
    | [x] => match undT P argTypes, ρ x with
      | some (.slice _), .slice _ m _ => some { v := .int .i64 m }
      | some .string, .string s => some { v := .int .i64 s.size }
      | _, _ => aop P ρ n H o
    | _ => none
  | .call { callee := .builtin .append, args, argTypes } => match args.toList with
    | [s, x] => match growT P argTypes, eapp P argTypes with
      | false, some (elem, j) => match asrc H j (ρ x) with
        | some (ys, rd, m) => match ρ s with
          | .slice none 0 0 => if m > bigN then none else if m = 0 then some { v := .slice none 0 0, rd := rd } else some { v := .slice (some ⟨n, 0, none⟩) m m, news := [.cells ys elem true], rd := rd }
          | .slice (some ⟨y, k, none⟩) len _ =>
            match H y with
            | .cells cs ty true =>
              if len + m ≤ bigN ∧ k + len * j ≤ cs.length ∧ ty = elem ∧ rd.contains y = false then
                some { v := .slice (some ⟨n, 0, none⟩) (len + m) (len + m), news := [.cells ((cs.drop k).take (len * j) ++ ys) elem true], wr := some (y, .dead), rd := rd } else none
            | _ => none
          | _ => none
        | none => none
      | _, _ => none
    | _ => none
  | _ => aop P ρ n H o
section
variable {P:Program} {ρ:Operand→Value} {n:Nat} {H:Heap}
theorem flat_op{o:Oper}{v:Value}(h1:opFlat ρ o=true)(h2:pureRun P (execOp ρ o)=some (.value v))(h3:flat v=true):aflat P ρ o=some { v:=v }:=by
 simp[aflat,h1,h2,h3]
theorem pureRun_bind{α β:Type}(s:Sem α)(f:α→Sem β){a:α}(h:pureRun P s=some a):pureRun P (s.bind f)=pureRun P (f a):=by
 induction s with
 | pure x=>simp only[pureRun,Option.some.injEq]at h;subst h;rfl
 | program k ih=>simp only[pureRun]at h;exact ih P h
 | _=>simp[pureRun]at h
theorem equal_bool{t:TypeId}(hu:P.underlying t=some .bool)(a b:Bool):pureRun P (Op.equal t (.bool a) (.bool b))=some (a == b):=by
 have key:∀d:Nat,pureRun P (Op.equalIn (d+1) t (.bool a) (.bool b))=some (a == b):=fun d=>by
  simp[Op.equalIn,underlying,program,hu,pureRun,bind,Sem.bind,pure]
 exact key 9999
theorem anan_none{op:BinOp}{t:TypeId}{x y v:Value}(h:vbin P op t x y=some v):anan P op t x y=none:=by
 unfold anan
 split
 case h_2=>rfl
 unfold vbin at h
 split at h
 ·simp[isF]
 ·simp[isF]
 ·simp[isF]
 ·rename_i k a k' b
  split at h
  case isFalse=>cases h
  rename_i hk;subst hk
  cases k
  ·simp[isF]
  ·simp only
   cases op <;> simp only[fop] <;> (try rfl) <;> simp only[Option.map_eq_some_iff]at h <;> obtain⟨r,hr,_⟩:=h <;> simp only[FloatKind.format]at hr <;> rw[hr]
 ·cases h
theorem anan_int{op:BinOp}{t:TypeId}{k k':IntKind}{a b:Int}:anan P op t (.int k a) (.int k' b)=none:=by
 unfold anan
 split
 case h_2=>rfl
 simp[isF]
theorem vbin_sound {o : Oper} {op : BinOp} {t u : TypeId} {x y : Operand} {v : Value} (ho : o.op = .binOp op t x y u) (h : vbin P op t (ρ x) (ρ y) = some v) : aop P ρ n H o = some { v := v } := by
  have h0 : aeqNil P t (ρ x) (ρ y) = none := by
    unfold vbin at h
    unfold aeqNil
    split at h <;> rename_i e1 e2 <;> first | (cases h; done) | (rw [e1, e2]; split <;> first | rfl | simp_all)
  have key : opFlat ρ o = true ∧ pureRun P (execOp ρ o) = some (.value v) ∧ flat v = true := by
    unfold vbin at h
    unfold opFlat execOp
    simp only [ho, Op.operands]
    split at h <;> rename_i e1 e2 <;> (try (cases h; done)) <;> rw [e1, e2]
    · split at h
      case isFalse => cases h
      rename_i hk; subst hk
      cases op <;> simp only [Option.some.injEq, reduceCtorEq, ite_eq_left_iff, Option.ite_none_left_eq_some] at h <;> (first | subst h | (obtain ⟨hb, h⟩ := h; subst h)) <;> refine ⟨by simp [e1, e2, flat, flat1], ?_, by simp [flat, flat1]⟩ <;>
        simp [eqGuard, binOp, Op.intCmp, Op.intArith, Op.intBits, Op.intDiv, pureRun, bind, Sem.bind, pure, Bool.beq_eq_decide_eq, bne, *]
    · cases op <;> simp only [Option.some.injEq, reduceCtorEq, Option.ite_none_left_eq_some] at h <;> (first | subst h | (obtain ⟨hb, h⟩ := h; subst h)) <;> refine ⟨by simp [e1, e2, flat, flat1], ?_, by simp [flat, flat1]⟩ <;>
        simp [eqGuard, binOp, Op.stringOp, pureRun, bind, Sem.bind, pure, bne]
      rename_i hb
      have hm : IntKind.max .i64 = 9223372036854775807 := rfl
      rw [hm] at hb
      rw [if_neg (by omega)]
      rfl
    · split at h
      case h_2 => cases h
      rename_i hu
      cases op <;> simp only [Option.some.injEq, reduceCtorEq] at h <;> subst h <;> refine ⟨by simp [e1, e2, flat, flat1], ?_, by simp [flat, flat1]⟩
      all_goals
        refine (pureRun_bind _ _ (a := .bool _) ?_).trans rfl
        refine (pureRun_bind _ _ (a := ()) rfl).trans ?_
        exact (pureRun_bind _ _ (equal_bool hu _ _)).trans rfl
    · split at h
      case isFalse => cases h
      rename_i hk; subst hk
      cases op <;> simp only [Option.some.injEq, reduceCtorEq, Option.map_eq_some_iff] at h <;> (first | subst h | (obtain ⟨r, hr, h⟩ := h; subst h)) <;> refine ⟨by simp [e1, e2, flat, flat1], ?_, by simp [flat, flat1]⟩ <;>
        simp [eqGuard, binOp, Op.floatCmp, Op.floatArith, pureRun, bind, Sem.bind, pure, bne, *]
  unfold aop
  simp only [ho, h0, anan_none h]
  exact flat_op key.1 key.2.1 key.2.2
theorem vsh_sound{o:Oper}{op:BinOp}{t u:TypeId}{x y:Operand}{v:Value}(ho:o.op=.binOp op t x y u)(h:vsh op (ρ x) (ρ y)=some v):aop P ρ n H o=some { v:=v }:=by
 unfold vsh at h
 split at h
 ·rename_i e1 e2
  have h0:aeqNil P t (ρ x) (ρ y)=none:=by
   unfold aeqNil;rw[e1,e2];split <;> first|rfl|simp_all
  split at h
  ·cases h
  ·rename_i hb
   cases h
   have h2:∀op,anan P op t (ρ x) (ρ y)=none:=fun op=>by rw[e1,e2];exact anan_int
   unfold aop
   simp only[ho,h0,h2]
   refine flat_op (by simp[opFlat,ho,Op.operands,e1,e2,flat,flat1]) ?_ (by simp[flat,flat1])
   simp[execOp,ho,eqGuard,binOp,Op.shift,pureRun,bind,Sem.bind,pure,e1,e2,hb]
 ·rename_i e1 e2
  have h0:aeqNil P t (ρ x) (ρ y)=none:=by
   unfold aeqNil;rw[e1,e2];split <;> first|rfl|simp_all
  split at h
  ·cases h
  ·rename_i hb
   cases h
   have h2:∀op,anan P op t (ρ x) (ρ y)=none:=fun op=>by rw[e1,e2];exact anan_int
   unfold aop
   simp only[ho,h0,h2]
   refine flat_op (by simp[opFlat,ho,Op.operands,e1,e2,flat,flat1]) ?_ (by simp[flat,flat1])
   simp[execOp,ho,eqGuard,binOp,Op.shift,pureRun,bind,Sem.bind,pure,e1,e2,hb]
 ·cases h
theorem vun_sound{o:Oper}{op:UnOp}{t:TypeId}{x:Operand}{v:Value}(ho:o.op=.unOp op t x)(h:vun op (ρ x)=some v):aop P ρ n H o=some { v:=v }:=by
 unfold aop
 simp only[ho]
 unfold vun at h
 split at h <;> rename_i e1 <;> (try (cases h;done)) <;> cases h <;>
  refine flat_op (by simp[opFlat,ho,Op.operands,flat,flat1, *]) ?_ (by simp[flat,flat1]) <;>
  simp[execOp,ho,Op.unary,Op.intArith,Op.intBits,pureRun,bind,Sem.bind,pure, *]
theorem vconv_sound{o:Oper}{s d:TypeId}{x:Operand}{v:Value}(ho:o.op=.convert s d x)(h:vconv P s d (ρ x)=some v):aop P ρ n H o=some { v:=v }:=by
 unfold aop
 simp only[ho]
 unfold vconv at h
 split at h
 case h_4 dst k b e1 e2 e3 =>
  split at h
  case h_2=>cases h
  rename_i m hm
  split at h
  case isFalse=>cases h
  rename_i hb
  cases h
  simp only[e3]
  refine flat_op (by simp[opFlat,ho,Op.operands,flat,flat1,e3]) ?_ (by simp[flat,flat1])
  simp[execOp,ho,convert,Conv.floatToInt,underlying,program,pureRun,bind,Sem.bind,pure,e1,e2,e3,hm,hb]
 all_goals
  rename_i e1 e2 e3
  (try (cases h;done)) <;> cases h <;> simp only[e3] <;>
  refine flat_op (by simp[opFlat,ho,Op.operands,flat,flat1, *]) ?_ (by simp[flat,flat1]) <;>
  simp[execOp,ho,convert,Conv.intToInt,Conv.intToFloat,underlying,program,pureRun,bind,Sem.bind,pure, *]
theorem isz_some{t:TypeId}{k:Nat}(h:isz P t=some k):∃j,P.info? t=some j∧j.size=k:=by
 unfold isz at h
 cases hj:P.info? t with
 | none=>simp[hj]at h
 | some j=>exact⟨j,rfl,by simpa [hj] using h⟩
theorem sop_sound{o:Oper}{r:Res}(h:sop P ρ n H o=some r):aop P ρ n H o=some r:=by
 unfold sop at h
 split at h
 ·split at h
  ·rename_i ho _ _ hv;cases h;exact vbin_sound ho hv
  ·exact h
 ·split at h
  ·rename_i ho _ _ hv;cases h;exact vun_sound ho hv
  ·exact h
 ·split at h
  ·rename_i ho _ _ hv;cases h;exact vconv_sound ho hv
  ·exact h
 ·rename_i t x i ho
  split at h
  ·rename_i hx hi
   split at h
   case h_2=>cases h
   rename_i hu
   split at h
   case isFalse=>cases h
   rename_i h0
   simp only[Option.map_eq_some_iff]at h
   obtain⟨b,hb,rfl⟩:=h
   unfold aop
   simp only[ho,hx]
   refine flat_op (by simp[opFlat,ho,Op.operands,flat,flat1, *]) ?_ (by simp[flat,flat1])
   simp[execOp,ho,hx,hi,Instr.index,asIntOf,underlying,program,pureRun,bind,Sem.bind,pure,hu,h0,hb]
  ·exact h
 ·rename_i t x i ho
  split at h
  case h_2=>cases h
  rename_i y k hx
  simp only[Option.map_eq_some_iff]at h
  obtain⟨f,hf,rfl⟩:=h
  unfold aop
  simp only[ho,hx]
  unfold fofs at hf
  unfold afieldAddr
  split at hf
  case h_2=>cases hf
  rename_i fields hu
  split at hf
  case h_2=>cases hf
  rename_i fd hfd
  split at hf
  case h_2=>cases hf
  rename_i j hj
  obtain⟨j',hj',rfl⟩:=isz_some hj
  split at hf
  ·cases hf
  ·rename_i hne
   cases hf
   simp[hu,hfd,hj',hne,ok]
 ·rename_i t x i ho
  split at h
  ·rename_i y k len _ _ i hx hi
   split at h
   case h_2=>cases h
   rename_i j he
   unfold esz at he
   split at he
   case h_2=>cases he
   rename_i e hu
   simp only[Option.map_eq_some_iff,Prod.mk.injEq]at he
   obtain⟨k',he,rfl,rfl⟩:=he
   obtain⟨j',hj',rfl⟩:=isz_some he
   split at h
   case isFalse=>cases h
   rename_i hb
   cases h
   unfold aop aindexAddr
   simp[ho,hx,hi,hu,hj',hb,ok]
  ·exact h
 ·rename_i t ho
  split at h
  case h_2=>cases h
  rename_i z hz
  split at h
  case isFalse=>cases h
  rename_i hb
  cases h
  unfold zeroT at hz
  unfold aop aalloc abox
  simp[ho,hz,hb]
 ·rename_i t a x ho
  split at h
  case h_2=>cases h
  rename_i y k ha
  split at h
  case h_2=>cases h
  rename_i cs ty hy
  split at h
  case isFalse=>cases h
  rename_i hb
  cases h
  obtain⟨j',hj',hs⟩:=isz_some hb.1
  unfold aop astore
  simp[ho,ha,hy,hj',hs,hb]
 ·rename_i t l c ho
  split at h
  case h_2=>cases h
  rename_i elem zs _ _ l' _ c' he hl hc
  unfold emk at he
  split at he
  case h_2=>cases he
  rename_i elem' hu
  split at he
  case h_2=>cases he
  rename_i j zs' hj hz
  split at he
  case isFalse=>cases he
  rename_i hb
  cases he
  split at h
  case isFalse=>cases h
  rename_i hb2
  cases h
  unfold aop amakeSlice
  simp[ho,hu,hl,hc,hj,hz,hb,hb2]
 ·rename_i t x i ho
  split at h
  case h_2=>cases h
  rename_i cs hx
  unfold aop
  simp only[ho,hx]
  unfold fcel at h
  unfold afield apart
  split at h
  ·rename_i off sz hf
   split at hf
   case h_2=>cases hf
   rename_i fields hu
   split at hf
   case h_2=>cases hf
   rename_i fd hfd
   split at hf
   case h_2=>cases hf
   rename_i j b hj hb
   cases hf
   simp only[hu,hfd,hj,hb]
   split at h
   case isFalse=>cases h
   rename_i hle
   cases h
   rw[if_pos hle];rfl
  ·rename_i off sz hf
   split at hf
   case h_2=>cases hf
   rename_i fields hu
   split at hf
   case h_2=>cases hf
   rename_i fd hfd
   split at hf
   case h_2=>cases hf
   rename_i j b hj hb
   cases hf
   simp only[hu,hfd,hj,hb]
   exact h
  ·cases h
 ·rename_i t ps ho
  split at h
  ·rename_i zs places he
   unfold ebd at he
   split at he
   ·rename_i fields zs' hu hz
    simp only[Option.map_eq_some_iff,Prod.mk.injEq]at he
    obtain⟨l,hl,rfl,rfl⟩:=he
    unfold aop abuild
    simp only[ho,hu,hz,hl,ok]
    simpa [Option.map_map,Function.comp_def] using h
   ·rename_i n elem zs' hu hz
    simp only[Option.map_eq_some_iff,Prod.mk.injEq]at he
    obtain⟨j,hj,rfl,rfl⟩:=he
    simp only[Option.map_eq_some_iff]at h
    obtain⟨cs,hcs,rfl⟩:=h
    unfold aop abuild
    simp only[ho,hu,hz,hj,ok,afill_arr _ _ _ hcs]
    rfl
   ·cases he
  ·exact h
 ·rename_i t len ps ho
  split at h
  case h_2=>cases h
  rename_i elem sz zs he
  unfold ebs at he
  split at he
  case h_2=>cases he
  rename_i elem' hu
  split at he
  case h_2=>cases he
  rename_i j zs' hj hz
  split at he
  case isTrue=>cases he
  rename_i hb
  cases he
  unfold aop abuildSlice
  simp only[ho,hu,hj,hz]
  rw[if_neg hb]
  exact h
 ·rename_i t x lo hi ho
  split at h
  ·rename_i y k len _ hx
   split at h
   case h_2=>cases h
   rename_i j l h' _ ty own he hl hh hy
   unfold esz at he
   split at he
   case h_2=>cases he
   rename_i e hu
   simp only[Option.map_eq_some_iff,Prod.mk.injEq]at he
   obtain⟨k',he,rfl,rfl⟩:=he
   obtain⟨j',hj',rfl⟩:=isz_some he
   split at h
   case isFalse=>cases h
   rename_i hb
   cases h
   have hc:own=true→P.cellsOf ty=j'.size:=fun e=>by
    obtain⟨j2,hj2,e2⟩:=isz_some (hb.2.2 e)
    simp only[Program.cellsOf,hj2,Option.map_some,Option.getD_some];exact e2
   unfold aop
   simp only[ho,hx]
   unfold aslice
   simp only[hu,hj',hl,hh,hy]
   rw[if_pos ⟨hb.1,hb.2.1,hc⟩]
  ·exact h
 ·rename_i args argTypes ho
  split at h
  case h_2=>cases h
  rename_i x hx
  split at h
  ·rename_i hu hv;cases h
   unfold undT at hu
   unfold aop alen
   simp[ho,hx,hu,hv]
  ·rename_i hu hv;cases h
   unfold undT at hu
   unfold aop alen
   simp[ho,hx,hu,hv]
  ·exact h
 ·rename_i args argTypes ho
  split at h
  case h_2=>cases h
  rename_i s x hx
  split at h
  case h_2=>cases h
  rename_i elem j hgt he
  unfold eapp at he
  split at he
  case h_2=>cases he
  rename_i t u ht hu
  split at he
  case h_2=>cases he
  rename_i elem' hut
  split at he
  case h_2=>cases he
  rename_i j' zs du hj hz hdu
  split at he
  case isTrue=>cases he
  rename_i hb
  cases he
  unfold aop aappend
  simp only[ho,hx,hgt,ht,hu,hut,hj,hz,hdu]
  rw[if_neg hb]
  exact h
 ·exact h
end
theorem vcells_int(k:IntKind)(n:Int):vcells (.int k n)=[.int k n]:=rfl
theorem vcells_bool(b:Bool):vcells (.bool b)=[.bool b]:=rfl
theorem vcells_float(k:FloatKind)(b:Nat):vcells (.float k b)=[.float k b]:=rfl
theorem vcells_string(s:ByteArray):vcells (.string s)=[.string s]:=rfl
theorem vcells_slice(a:Option Addr)(l c:Nat):vcells (.slice a l c)=[.slice a l c]:=rfl
theorem vcells_pointer(a:Option Addr):vcells (.pointer a)=[.pointer a]:=rfl
theorem vcells_agg(cs:Array Value):vcells (.agg cs)=cs.toList:=rfl
end Go.AM
