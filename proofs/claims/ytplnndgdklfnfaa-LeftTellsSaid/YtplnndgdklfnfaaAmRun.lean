/- Regions by rewriting. -/
import Derived.Test.YtplnndgdklfnfaaAmTop
import Derived.Test.YtplnndgdklfnfaaAmRep
set_option linter.all false
namespace Go.AM
open Go.RowKit

def w3 (k : Fr → Nat → Heap → Prop) (f : Fr) (d : Option Nat) (n : Nat) (H : Heap) : Option Res → Prop
  | some r => k (fput f d r.v) (r.next n) (r.heap n H)
  | none => False
/-- At a call: what must hold. -/
def AtCall (P : Program) (draw : Bool) (k : Fr → Nat → Heap → Prop) (f : Fr) (d : Option Nat) (n : Nat) (H : Heap) (g : FuncId) (args : List Value) (ext : Option Res) : Prop :=
  w3 k f d n H ext ∨ Call P draw g args n H fun v n H => k (fput f d v) n H
def w2 (P : Program) (draw : Bool) (k : Fr → Nat → Heap → Prop) (o : Oper) (f : Fr) (n : Nat) (H : Heap) : Option (FuncId × List Value) → Prop
  | none => w3 k f o.dst n H (top P (evalA f) n H o)
  | some (g, args) => AtCall P draw k f o.dst n H g args (aop P (evalA f) n H o)
def w1 (P : Program) (draw : Bool) (k : Fr → Nat → Heap → Prop) (o : Oper) (f : Fr) (n : Nat) (H : Heap) : Bool → Prop
  | false => k (fput f o.dst undef) n H
  | true => w2 P draw k o f n H (acallee (evalA f) o)

def wx (P : Program) (draw : Bool) (all : Array Oper) (K : List Fk) (Q : AExit → St → Prop) : List Oper → Fr → Nat → Heap → Prop
  | [], f, n, H => WK P .skip K ⟨f, n, H⟩ Q
  | o :: rest, f, n, H => w1 P draw (wx P draw all K Q rest) o f n H (wantedA all f o)

theorem wx_sound {P : Program} {draw : Bool} {all : Array Oper} {K : List Fk} {Q : AExit → St → Prop} (hp : _root_.cond draw (sPairs all) [] = []) : ∀ (rest : List Oper) (f : Fr) (n : Nat) (H : Heap) (l : List LR), wx P draw all K Q rest f n H →
    ∃ s1 l, BS P (.ops all rest ⟨f, n, H⟩) (.log s1 l) ∧ (draw = true → ∀ r ∈ l, r.call = true → ∀ x, x < r.pre.n → r.H x = r.pre.H x) ∧ WK P .skip K s1 Q := by
  intro rest
  induction rest with
  | nil => intro f n H l h; exact ⟨⟨f, n, H⟩, [], .opsNil all _, (fun _ r hr => by cases hr), h⟩
  | cons o rest ih =>
    intro f n H l h
    simp only [wx] at h
    have op : ∀ t, (∀ r, t = some r → aop P (evalA f) n H o = some r) → wantedA all f o = true → w3 (wx P draw all K Q rest) f o.dst n H t →
        ∃ s1 l, BS P (.ops all (o :: rest) ⟨f, n, H⟩) (.log s1 l) ∧ (draw = true → ∀ r ∈ l, r.call = true → ∀ x, x < r.pre.n → r.H x = r.pre.H x) ∧ WK P .skip K s1 Q := fun t ht hw h => by
      cases t with
      | none => cases h
      | some r =>
        obtain ⟨s1, l, h1, h2, h3⟩ := ih _ _ _ l h
        refine ⟨s1, _, .opsOp hw (ht r rfl) h1, fun hd r hr hc => ?_, h3⟩
        rcases List.mem_cons.1 hr with hr | hr
        · subst hr; cases hc
        · exact h2 hd r hr hc
    cases hw : wantedA all f o with
    | false =>
      rw [hw] at h
      obtain ⟨s1, l, h1, h2, h3⟩ := ih _ _ _ l h
      refine ⟨s1, _, .opsSkip hw h1, fun hd r hr hc => ?_, h3⟩
      rcases List.mem_cons.1 hr with hr | hr
      · subst hr; cases hc
      · exact h2 hd r hr hc
    | true =>
      rw [hw] at h
      simp only [w1] at h
      cases hg : acallee (evalA f) o with
      | none => rw [hg] at h; exact op _ (fun r hr => top_sound hr) hw h
      | some c =>
        obtain ⟨g, args⟩ := c
        rw [hg] at h
        rcases h with h | ⟨v, n1, H1, hb, hf, h⟩
        · exact op _ (fun r hr => hr) hw h
        · obtain ⟨s1, l, h1, h2, h3⟩ := ih _ _ _ l h
          refine ⟨s1, _, .opsCall hw hg hb h1, fun hd r hr hc => ?_, h3⟩
          rcases List.mem_cons.1 hr with hr | hr
          · subst hr; exact hf hd
          · exact h2 hd r hr hc

theorem WK.rgn {P : Program} {K : List Fk} {Q : AExit → St → Prop} {f : Fr} {n : Nat} {H : Heap} {id : Nat} {ops : Array Oper} {draw : Bool} (hp : _root_.cond draw (sPairs ops) [] = []) (h : wx P draw ops K Q ops.toList f n H) :
    WK P (.region id ops draw) K ⟨f, n, H⟩ Q := by
  obtain ⟨s1, l, h1, h2, h3⟩ := wx_sound hp _ _ _ _ [] h
  refine WK.imp (d := .skip) (t := s1) (fun e s2 h => ?_) h3
  cases h
  cases draw with
  | false => exact .region h1
  | true =>
    refine .regionDraw h1 ⟨fun p hp' => ?_, h2 rfl⟩
    have hp : sPairs ops = [] := hp
    rw [hp] at hp'; cases hp'

/-! ### Rewriting -/
section
variable {P : Program} {draw : Bool} {k : Fr → Nat → Heap → Prop} {o : Oper} {f : Fr} {d : Option Nat} {n : Nat} {H : Heap}
theorem w1_false : w1 P draw k o f n H false = k (fput f o.dst undef) n H := rfl
theorem w1_true : w1 P draw k o f n H true = w2 P draw k o f n H (acallee (evalA f) o) := rfl
theorem w2_none : w2 P draw k o f n H none = w3 k f o.dst n H (top P (evalA f) n H o) := rfl
theorem w2_some (g : FuncId) (args : List Value) : w2 P draw k o f n H (some (g, args)) = AtCall P draw k f o.dst n H g args (aop P (evalA f) n H o) := rfl
theorem w3_some (r : Res) : w3 k f d n H (some r) = k (fput f d r.v) (r.next n) (r.heap n H) := rfl
theorem w3_none : w3 k f d n H none = False := rfl
end
section
variable {P : Program} {f : Fr} {n : Nat} {H : Heap}
def tgb (w : Bool) : Value → Bool
  | .bool b => b == w
  | _ => false
def tguard (w : Bool) (f : Fr) : Option Nat → Bool
  | some d => tgb w (f d)
  | none => false
theorem wanted_none {all : Array Oper} {d : Option Nat} {op : Op} {ty : TypeId} {p : String} {af : Array Edge} : wantedA all f ⟨d, op, ty, p, af, none⟩ = true := rfl
theorem wanted_some {all : Array Oper} {d : Option Nat} {op : Op} {ty : TypeId} {p : String} {af : Array Edge} {j : Nat} {w : Bool} : wantedA all f ⟨d, op, ty, p, af, some (j, w)⟩ = tguard w f ((all[j]?).bind (·.dst)) := by
  simp only [wantedA]
  cases (all[j]?).bind (·.dst) with
  | none => rfl
  | some d => simp only [tguard]; cases f d <;> rfl
theorem tgb_true (b : Bool) : tgb true (.bool b) = b := by cases b <;> rfl
theorem tgb_false (b : Bool) : tgb false (.bool b) = !b := by cases b <;> rfl
theorem tgb_undef (w : Bool) : tgb w undef = false := rfl
theorem ev_tmp (t : Nat) : evalA f (.tmp t) = f t := rfl
theorem ev_const (v : Value) : evalA f (.const v) = v := rfl
theorem ev_func (g : FuncId) : evalA f (.func g) = .func (.func g) #[] #[] := rfl
theorem heap_0 (n : Nat) (H : Heap) (v : Value) (rd : List Nat) : Res.heap ⟨v, [], none, rd⟩ n H = H := rfl
theorem heap_1 (n : Nat) (H : Heap) (v : Value) (rd : List Nat) (o : AObj) : Res.heap ⟨v, [o], none, rd⟩ n H = hset H n o := rfl
theorem heap_2 (n : Nat) (H : Heap) (v : Value) (rd : List Nat) (x : Nat) (o : AObj) : Res.heap ⟨v, [], some (x, o), rd⟩ n H = hset H x o := rfl
theorem heap_3 (n : Nat) (H : Heap) (v : Value) (rd : List Nat) (x : Nat) (o q : AObj) : Res.heap ⟨v, [o], some (x, q), rd⟩ n H = hset (hset H x q) n o := rfl
theorem next_0 (n : Nat) (v : Value) (rd : List Nat) (w : Option (Nat × AObj)) : Res.next ⟨v, [], w, rd⟩ n = n := rfl
theorem next_1 (n : Nat) (v : Value) (rd : List Nat) (w : Option (Nat × AObj)) (o : AObj) : Res.next ⟨v, [o], w, rd⟩ n = n + 1 := rfl
end

/-- A call whose contract is known. -/
theorem AtCall.by {P : Program} {draw : Bool} {k : Fr → Nat → Heap → Prop} {f : Fr} {d : Option Nat} {n : Nat} {H : Heap} {g : FuncId} {args : List Value} {ext : Option Res} {Q : Value → Nat → Heap → Prop} (h : Gives P g args n H Q)
    (hk : ∀ v n' H', Kp n H n' H' → Q v n' H' → k (fput f d v) n' H') : AtCall P draw k f d n H g args ext := .inr (h.call hk)

/-- A call of a function of the library that the machine knows itself. -/
theorem AtCall.now {P : Program} {draw : Bool} {k : Fr → Nat → Heap → Prop} {f : Fr} {d : Option Nat} {n : Nat} {H : Heap} {g : FuncId} {args : List Value} {r : Res} (h : k (fput f d r.v) (r.next n) (r.heap n H)) :
    AtCall P draw k f d n H g args (some r) := .inl h
theorem aop_ext {P : Program} {f : Fr} {n : Nat} {H : Heap} {d : Option Nat} {g : FuncId} {args : Array Operand} {ats : Array TypeId} {ty : TypeId} {p : String} {af : Array Edge} {gd : Option (Nat × Bool)} :
    aop P (evalA f) n H ⟨d, .call ⟨.value (.func g), args, ats⟩, ty, p, af, gd⟩ = ok (aext P g (args.toList.map (evalA f))) := by
  simp [aop, evalA]
theorem ok_some (v : Value) : ok (some v) = some { v := v } := rfl

/-- A contract by the evaluator. -/
theorem Gives.ev {P : Program} (hm : P.follows .mixedOrders = true) {okF : FuncId → Bool} (hok : ∀ g fn c, okF g = true → P.funcs[g]? = some fn → fn.body = some c → FnOK P g fn c) {k : Nat} {g : FuncId} {args : List Value} {n : Nat} {H : Heap} {v : Value}
    (h : evCall P okF k n g args n H = some (v, n, H)) : Gives P g args n H fun v' n' H' => v' = v ∧ n' = n ∧ H' = H := by
  obtain ⟨h1, h2⟩ := evCall_sound hm hok k _ _ _ _ _ _ _ _ h
  exact ⟨v, n, H, h1, Kp.refl n H, rfl, rfl, rfl⟩

/-- A code that ends as codes do, and what holds behind it. -/
theorem WK.cut {P : Program} {c : Code} {K : List Fk} {s : St} {Q : AExit → St → Prop} (R : St → Prop) (h1 : WK P c [] s fun e s1 => e = .normal ∧ R s1) (h2 : ∀ s1, R s1 → WK P .skip K s1 Q) : WK P c K s Q := by
  obtain ⟨e, s1, hb, rfl, hr⟩ := h1.run
  exact WK.imp (fun e s2 h => by cases h; exact hb) (h2 s1 hr)

/-- The complement of an int. -/
theorem bnot_i64 {n : Int} (h1 : -9223372036854775808 ≤ n) (h2 : n ≤ 9223372036854775807) :
    IntKind.i64.wrap ((BitVec.ofInt IntKind.i64.bits (if IntKind.i64.signed = true then -1 else IntKind.i64.max) ^^^ BitVec.ofInt IntKind.i64.bits n).toNat : Int) = -n - 1 := by
  have e : (BitVec.ofInt IntKind.i64.bits (if IntKind.i64.signed = true then -1 else IntKind.i64.max) ^^^ BitVec.ofInt IntKind.i64.bits n).toNat = (~~~ (BitVec.ofInt 64 n)).toNat := by
    show (BitVec.ofInt 64 (-1) ^^^ BitVec.ofInt 64 n).toNat = _
    congr 1
  rw [e, BitVec.toNat_not, BitVec.toNat_ofInt]
  simp only [IntKind.wrap, IntKind.signed, IntKind.bits]
  simp
  omega

theorem WK.unseq {P : Program} {a b : Code} {K : List Fk} {s : St} {Q : AExit → St → Prop} (h : WK P (.seq a b) K s Q) : WK P a (.seq b :: K) s Q := ⟨h.run⟩
theorem WK.rets {P : Program} {s : St} {Q : AExit → St → Prop} (h : Q .ret s) : ∀ K : List Fk, WK P .ret K s Q
  | [] => WK.retNil h
  | .seq _ :: K => WK.retSeq (WK.rets h K)
  | .block _ :: K => WK.retBlock (WK.rets h K)
/-- .. or returns. -/
theorem WK.cutRet {P : Program} {c : Code} {K : List Fk} {s : St} {Q : AExit → St → Prop} (R : St → Prop) (h1 : WK P c [] s fun e s1 => e = .normal ∧ R s1 ∨ e = .ret ∧ Q .ret s1) (h2 : ∀ s1, R s1 → WK P .skip K s1 Q) : WK P c K s Q := by
  obtain ⟨e, s1, hb, ⟨rfl, hr⟩ | ⟨rfl, hr⟩⟩ := h1.run
  · exact WK.imp (fun e s2 h => by cases h; exact hb) (h2 s1 hr)
  · exact WK.imp (fun e s2 h => by cases h; exact hb) (WK.rets hr K)

/-! ### Functions that change objects of their caller -/

/-- What a function leaves as it was, that changes some objects. -/
structure Kx (X : Nat → Prop) (n : Nat) (H : Heap) (n' : Nat) (H' : Heap) : Prop where
  le : n ≤ n'
  keep : ∀ x, x < n → ¬ X x → H' x = H x
  wf : WF n H → WF n' H'

theorem Kx.refl (X : Nat → Prop) (n : Nat) (H : Heap) : Kx X n H n H := ⟨Nat.le_refl _, fun _ _ _ => rfl, id⟩
theorem Kx.trans {X : Nat → Prop} {n n1 n2 : Nat} {H H1 H2 : Heap} (a : Kx X n H n1 H1) (b : Kx X n1 H1 n2 H2) : Kx X n H n2 H2 :=
  ⟨Nat.le_trans a.le b.le, fun x hx hX => (b.keep x (Nat.lt_of_lt_of_le hx a.le) hX).trans (a.keep x hx hX), fun h => b.wf (a.wf h)⟩
theorem Kp.kx {X : Nat → Prop} {n n' : Nat} {H H' : Heap} (a : Kp n H n' H') : Kx X n H n' H' := ⟨a.le, fun x hx _ => a.keep x hx, a.wf⟩
theorem Kx.mono {X Y : Nat → Prop} {n n' : Nat} {H H' : Heap} (a : Kx X n H n' H') (h : ∀ x, x < n → X x → Y x) : Kx Y n H n' H' := ⟨a.le, fun x hx hY => a.keep x hx fun hX => hY (h x hx hX), a.wf⟩
theorem Kx.kp {X : Nat → Prop} {n n' : Nat} {H H' : Heap} (a : Kx X n H n' H') (h : ∀ x, x < n → ¬ X x) : Kp n H n' H' := ⟨a.le, fun x hx => a.keep x hx (h x hx), a.wf⟩

/-- A CONTRACT of a function that changes objects. -/
def GivesX (P : Program) (X : Nat → Prop) (g : FuncId) (args : List Value) (n : Nat) (H : Heap) (Q : Value → Nat → Heap → Prop) : Prop :=
  ∃ v n' H', BS P (.call g args n H) (.ret v n' H') ∧ Kx X n H n' H' ∧ Q v n' H'

def FinX (P : Program) (X : Nat → Prop) (results : List ResultVar) (n : Nat) (H : Heap) (Q : Value → Nat → Heap → Prop) (e : AExit) (s : St) : Prop :=
  (e = .normal ∨ e = .ret) ∧ ∃ l, aresultsL P s results = some l ∧ (∀ x, x < n → ¬ X x → s.H x = H x) ∧ Q (packed l) s.n s.H

theorem GivesX.of {P : Program} {X : Nat → Prop} (hm : P.follows .mixedOrders = true) {g : FuncId} {args : List Value} {n : Nat} {H : Heap} {Q : Value → Nat → Heap → Prop} {fn : Func} {c : Code} (hok : FnOK P g fn c) (hl : args.length ≤ fn.ntmps)
    (h : WK P c [] ⟨fun t => args.getD t undef, n, H⟩ (FinX P X fn.results.toList n H Q)) : GivesX P X g args n H Q := by
  obtain ⟨e, s, h1, he, l, hv, hx, hq⟩ := h.run
  have hb := BS.call hok hl h1 he (v := packed l) (by
    unfold aresults
    rw [hv]
    match l with
    | [] => rfl
    | [v] => rfl
    | _ :: _ :: _ => rfl)
  obtain ⟨hmono, _⟩ := sound hm hb
  exact ⟨_, s.n, s.H, hb, ⟨hmono.le, hx, hmono.wf⟩, hq⟩

/-- A call, in a region that draws no order, whose contract is known. -/
theorem AtCall.byX {P : Program} {X : Nat → Prop} {k : Fr → Nat → Heap → Prop} {f : Fr} {d : Option Nat} {n : Nat} {H : Heap} {g : FuncId} {args : List Value} {ext : Option Res} {Q : Value → Nat → Heap → Prop} (h : GivesX P X g args n H Q)
    (hk : ∀ v n' H', Kx X n H n' H' → Q v n' H' → k (fput f d v) n' H') : AtCall P false k f d n H g args ext := by
  obtain ⟨v, n', H', a, b, c⟩ := h
  exact .inr ⟨v, n', H', a, fun h => (by cases h), hk v n' H' b c⟩

theorem hset_ne' (H : Heap) (n : Nat) (o : AObj) {x : Nat} (h : x ≠ n) : hset H n o x = H x := by rw [hset_apply, if_neg h]
/-- Objects that may change. -/
theorem Kx.set {X : Nat → Prop} {n n1 : Nat} {H H1 : Heap} (h : Kx X n H n1 H1) {x : Nat} (o : AObj) (hx : X x ∨ n ≤ x) (hx1 : x < n1) : Kx X n H n1 (hset H1 x o) :=
  ⟨h.le, fun y hy hX => by rw [hset_ne' _ _ _ (by rintro rfl; rcases hx with hx | hx; exact hX hx; omega)]; exact h.keep y hy hX, fun hw y hy => by rw [hset_ne' _ _ _ (by omega)]; exact h.wf hw y hy⟩

theorem hset_hset (H : Heap) (n : Nat) (a b : AObj) : hset (hset H n a) n b = hset H n b := by
  funext x
  rw [hset_apply, hset_apply, hset_apply]
  split <;> rfl

theorem aop_mkf {P : Program} {f : Fr} {n : Nat} {H : Heap} {d : Option Nat} {g : FuncId} {first captured : Array Operand} {ty : TypeId} {p : String} {af : Array Edge} {gd : Option (Nat × Bool)} :
    aop P (evalA f) n H ⟨d, .makeFunc (.func g) first captured, ty, p, af, gd⟩ = some { v := .func (.func g) (first.toList.map (evalA f)).toArray (captured.toList.map (evalA f)).toArray } := rfl
theorem rep_1 (z : List Value) : rep 1 z = z := by simp [rep]
theorem rep_0 (z : List Value) : rep 0 z = [] := rfl
theorem big_1 : (1 > bigN) = False := by simp [bigN]
theorem big_1' : (1 ≤ bigN) = True := by simp [bigN]
/-- Laws for rewriting, all together. -/
theorem SS : type_of% (And.intro (And.intro (And.intro (And.intro (And.intro (And.intro @w1_false (And.intro @w1_true @w2_none)) (And.intro @w2_some (And.intro @w3_some @w3_none))) (And.intro (And.intro @tgb_undef (And.intro @wanted_none @wanted_some)) (And.intro @tgb_true (And.intro @tgb_false @hset_at)))) (And.intro (And.intro (And.intro @Bool.not_not (And.intro @true_implies @Nat.zero_le)) (And.intro @Nat.sub_zero (And.intro @hset_hset @aop_mkf))) (And.intro (And.intro @rep_1 (And.intro @rep_0 @big_1)) (And.intro @ne_eq.{1} (And.intro @not_true_eq_false @not_false_eq_true))))) (And.intro (And.intro (And.intro (And.intro @or_self (And.intro @or_false @false_or)) (And.intro @gt_iff_lt.{0} (And.intro @Nat.one_ne_zero @List.nil_append.{0}))) (And.intro (And.intro @List.append_nil.{0} (And.intro @List.cons_append.{0} @List.all_cons.{0})) (And.intro @List.all_nil.{0} (And.intro @Bool.and_true @Bool.true_and)))) (And.intro (And.intro (And.intro @Bool.and_self (And.intro @List.set_cons_zero.{0} @List.set_cons_succ.{0})) (And.intro @List.length_cons.{0} (And.intro @List.length_nil.{0} @vcells_int))) (And.intro (And.intro @vcells_bool (And.intro @vcells_float @vcells_string)) (And.intro @vcells_slice (And.intro @vcells_pointer @vcells_agg)))))) (And.intro (And.intro (And.intro (And.intro (And.intro @Nat.le_refl (And.intro @Bool.true_beq @Bool.false_beq)) (And.intro @aop_ext (And.intro @ok_some @ev_tmp))) (And.intro (And.intro @ev_const (And.intro @ev_func @fset_apply)) (And.intro @heap_0 (And.intro @heap_1 @heap_2)))) (And.intro (And.intro (And.intro @heap_3 (And.intro @next_0 @next_1)) (And.intro @List.toList_toArray.{0} (And.intro @List.getD_cons_zero.{0} @List.getD_cons_succ.{0}))) (And.intro (And.intro @List.getElem?_toArray.{0} (And.intro @List.getElem?_cons_zero.{0} @List.getElem?_cons_succ.{0})) (And.intro @List.map_cons.{0, 0} (And.intro @List.map_nil.{0, 0} @Option.map_some.{0, 0}))))) (And.intro (And.intro (And.intro (And.intro @Option.map_none.{0, 0} (And.intro @Option.bind_some.{0, 0} @Option.bind_none.{0, 0})) (And.intro @and_true (And.intro @true_and @and_self))) (And.intro (And.intro @and_false (And.intro @false_and @decide_true)) (And.intro @decide_false (And.intro @Bool.not_true @Bool.not_false)))) (And.intro (And.intro (And.intro @cond_true.{1} (And.intro @cond_false.{1} @Int.ofNat_lt)) (And.intro @Int.ofNat_le (And.intro @Int.natCast_nonneg @Int.toNat_natCast))) (And.intro (And.intro @Nat.mul_one (And.intro @Nat.add_zero @Nat.zero_add)) (And.intro (And.intro @eq_self.{1} @Nat.lt_irrefl) (And.intro @Int.le_refl @Nat.zero_mul))))))) := And.intro (And.intro (And.intro (And.intro (And.intro (And.intro @w1_false (And.intro @w1_true @w2_none)) (And.intro @w2_some (And.intro @w3_some @w3_none))) (And.intro (And.intro @tgb_undef (And.intro @wanted_none @wanted_some)) (And.intro @tgb_true (And.intro @tgb_false @hset_at)))) (And.intro (And.intro (And.intro @Bool.not_not (And.intro @true_implies @Nat.zero_le)) (And.intro @Nat.sub_zero (And.intro @hset_hset @aop_mkf))) (And.intro (And.intro @rep_1 (And.intro @rep_0 @big_1)) (And.intro @ne_eq.{1} (And.intro @not_true_eq_false @not_false_eq_true))))) (And.intro (And.intro (And.intro (And.intro @or_self (And.intro @or_false @false_or)) (And.intro @gt_iff_lt.{0} (And.intro @Nat.one_ne_zero @List.nil_append.{0}))) (And.intro (And.intro @List.append_nil.{0} (And.intro @List.cons_append.{0} @List.all_cons.{0})) (And.intro @List.all_nil.{0} (And.intro @Bool.and_true @Bool.true_and)))) (And.intro (And.intro (And.intro @Bool.and_self (And.intro @List.set_cons_zero.{0} @List.set_cons_succ.{0})) (And.intro @List.length_cons.{0} (And.intro @List.length_nil.{0} @vcells_int))) (And.intro (And.intro @vcells_bool (And.intro @vcells_float @vcells_string)) (And.intro @vcells_slice (And.intro @vcells_pointer @vcells_agg)))))) (And.intro (And.intro (And.intro (And.intro (And.intro @Nat.le_refl (And.intro @Bool.true_beq @Bool.false_beq)) (And.intro @aop_ext (And.intro @ok_some @ev_tmp))) (And.intro (And.intro @ev_const (And.intro @ev_func @fset_apply)) (And.intro @heap_0 (And.intro @heap_1 @heap_2)))) (And.intro (And.intro (And.intro @heap_3 (And.intro @next_0 @next_1)) (And.intro @List.toList_toArray.{0} (And.intro @List.getD_cons_zero.{0} @List.getD_cons_succ.{0}))) (And.intro (And.intro @List.getElem?_toArray.{0} (And.intro @List.getElem?_cons_zero.{0} @List.getElem?_cons_succ.{0})) (And.intro @List.map_cons.{0, 0} (And.intro @List.map_nil.{0, 0} @Option.map_some.{0, 0}))))) (And.intro (And.intro (And.intro (And.intro @Option.map_none.{0, 0} (And.intro @Option.bind_some.{0, 0} @Option.bind_none.{0, 0})) (And.intro @and_true (And.intro @true_and @and_self))) (And.intro (And.intro @and_false (And.intro @false_and @decide_true)) (And.intro @decide_false (And.intro @Bool.not_true @Bool.not_false)))) (And.intro (And.intro (And.intro @cond_true.{1} (And.intro @cond_false.{1} @Int.ofNat_lt)) (And.intro @Int.ofNat_le (And.intro @Int.natCast_nonneg @Int.toNat_natCast))) (And.intro (And.intro @Nat.mul_one (And.intro @Nat.add_zero @Nat.zero_add)) (And.intro (And.intro @eq_self.{1} @Nat.lt_irrefl) (And.intro @Int.le_refl @Nat.zero_mul))))))
end Go.AM
