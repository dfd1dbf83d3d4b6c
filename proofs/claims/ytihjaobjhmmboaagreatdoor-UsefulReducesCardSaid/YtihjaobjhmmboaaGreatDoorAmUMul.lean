/- A part of a proof. Its conditions: none. -/
import Derived.Test.YtihjaobjhmmboaaGreatDoorAmUKey
import Derived.Test.YtihjaobjhmmboaaGreatDoorAmC
import Derived.Test.YtihjaobjhmmboaaGreatDoorAmULfTold
import Derived.Test.YtihjaobjhmmboaaGreatDoorAmD
set_option linter.all false
namespace Go.Proofs.YtihjaobjhmmboaaGreatDoor
open Go.AM
set_option maxRecDepth 100000
def rvG (r : GRule) (p : Option Addr) : List Value := [.int .i64 r.left, .slice p r.right.length r.right.length, .float .f64 r.weight]
theorem rvG_0 (r : GRule) (p : Option Addr) : (rvG r p)[0]? = some (.int .i64 r.left) := rfl
theorem rvG_1 (r : GRule) (p : Option Addr) : (rvG r p)[1]? = some (.slice p r.right.length r.right.length) := rfl
theorem rvG_2 (r : GRule) (p : Option Addr) : (rvG r p)[2]? = some (.float .f64 r.weight) := rfl
theorem rvG_len (r : GRule) (p : Option Addr) : (rvG r p).length = 3 := rfl
theorem rvG_cells (r : GRule) (p : Option Addr) : vcells (.agg (rvG r p).toArray) = rvG r p := rfl
theorem rvG_one (r : GRule) (p : Option Addr) : (rvG r p).all one = true := rfl
theorem rvG_all (r : GRule) (p : Option Addr) : ((rvG r p).drop 0).take 3 = rvG r p := rfl
theorem rvG_splice (a b c : Value) (r : GRule) (p : Option Addr) : AM.splice [a, b, c] 0 (rvG r p) = rvG r p := rfl
set_option maxHeartbeats 8000000 in
theorem sameR_gives {r : GRule} {p q : Option Addr} {n : Nat} {H : Heap} (hw : WF n H) (hp : RA (Value.int .i64) H p r.right) (hq : RA (Value.int .i64) H q r.right) (hl : r.right.length ≤ maxL) :
  Gives Tryz.prog 57 [.agg (rvG r p).toArray, .agg (rvG r q).toArray] n H fun v _ _ => v = .bool true := by
 refine Gives.of orders ok57 (Nat.le_of_ble_eq_true rfl) ?_
 repeat refine qqn rfl ?_
 (refine qqr ?_; simp only [SS, qx37, simprocAttr, abox, rvG_cells, rvG_one, ff_57])
 have k2 : Kp n H (n + 1 + 1) (hset (hset H n (.cells (rvG r p) 44 true)) (n + 1) (.cells (rvG r q) 44 true)) := (Kp.new n H _).trans (Kp.new (n + 1) _ _)
 have h0 : hset (hset H n (.cells (rvG r p) 44 true)) (n + 1) (.cells (rvG r q) 44 true) n = _ := (hset_ne _ _ _ (by omega)).trans (hset_at _ _ _)
 have h1 : hset (hset H n (.cells (rvG r p) 44 true)) (n + 1) (.cells (rvG r q) 44 true) (n + 1) = _ := hset_at _ _ _
 generalize hset (hset H n (.cells (rvG r p) 44 true)) (n + 1) (.cells (rvG r q) 44 true) = H2 at *
 repeat (first | refine qqm rfl ?_ | ((first | refine qqr ?_ | refine qqt ?_); simp only [SS, qx37, simprocAttr, h0, h1, rvG_0, rvG_1, rvG_2, rvG_len, decide_true, ff_57]))
 refine AtCall.by (equalI_self (hp.mono hw k2) (hq.mono hw k2) hl) ?_
 rintro v n3 H3 k3 ⟨rfl, rfl, rfl⟩
 simp only [SS, qx37, simprocAttr, h0, h1, rvG_0, rvG_1, rvG_2, rvG_len, ff_57]
 refine AtCall.by (keysame_gives _ _ _ _) ?_
 rintro v n4 H4 k4 ⟨rfl, rfl, rfl⟩
 simp only [SS, qx37, simprocAttr, decide_true, ff_57]
 repeat (first | refine qqm rfl ?_ | ((first | refine qqr ?_ | refine qqt ?_); simp only [SS, qx37, simprocAttr, ff_57]))
 first | refine qqf ?_ ?_ | refine qqg ?_ ?_
 ·exact k2.keep
 ·simp only [packed, qv, Nat.reduceEqDiff, ↓reduceIte, ff_57]
  all_goals simp
set_option maxHeartbeats 8000000 in
theorem equalR_gives {p q : Option Addr} {l : List GRule} {n : Nat} {H : Heap} (hw : WF n H) (hp : RR H p l) (hq : RR H q l) (hl : l.length ≤ maxL) (hr : ∀ r ∈ l, r.right.length ≤ maxL) :
  Gives Tryz.prog 56 [.slice p l.length l.length, .slice q l.length l.length, .func (.func 57) #[] #[]] n H fun v _ _ => v = .bool true := by
 refine Gives.of orders ok56 (Nat.le_of_ble_eq_true rfl) ?_
 have hab' : ((l.length : Int) = (l.length : Int)) = True := eq_self _
 repeat (first | refine qqm rfl ?_ | ((first | refine qqr ?_ | refine qqt ?_); simp only [SS, qx38, vun, simprocAttr, hab', decide_true, ff_56]))
 refine WK.loop (fun k s' => ∃ i, Kp n H s'.n s'.H ∧ s'.f 0 = .slice p l.length l.length ∧ s'.f 1 = .slice q l.length l.length ∧ s'.f 2 = .func (.func 57) #[] #[] ∧ s'.f 15 = .slice p l.length l.length ∧ s'.f 16 = .int .i64 (l.length : Nat) ∧ s'.f 17 = .int .i64 (i : Nat) ∧ i ≤ l.length ∧ k = l.length - i) l.length ?_ ?_
 ·exact ⟨0, Kp.refl _ _, rfl, rfl, rfl, rfl, rfl, rfl, Nat.zero_le _, rfl⟩
 rintro k ⟨f, n1, H1⟩ ⟨i, k1, f0, f1, f2, f15, f16, f17, hi, rfl⟩ ih
 simp only at k1 f0 f1 f2 f15 f16 f17 ih
 have hw1 := k1.wf hw
 by_cases hlt : i < l.length
 ·have hiw : IntKind.i64.wrap ((i : Int) + 1) = ((i + 1 : Nat) : Int) := by unfold maxL at hl; rw [wrap_in (by omega) (by omega)]; rfl
  obtain ⟨z, kz, ds, tz, oz, a, hpz, hz0, d0, d1, d2, ha⟩ := hp.at hlt
  obtain ⟨y, ky, es, ty, oy, b, hqy, hy0, e0, e1, e2, hb⟩ := hq.at hlt
  have hrl := hr _ (List.getElem_mem hlt)
  generalize l[i] = r at *
  have hz := (k1.keep z (live_lt hw (live_of hz0))).trans hz0
  have hy := (k1.keep y (live_lt hw (live_of hy0))).trans hy0
  have d3 : (ds.drop (kz + i * 3)).take 3 = rvG r a := take3 d0 d1 d2
  have d4 := len3 d2
  have e3 : (es.drop (ky + i * 3)).take 3 = rvG r b := take3 e0 e1 e2
  have e4 := len3 e2
  have hzl := live_lt hw1 (live_of hz)
  have hyl := live_lt hw1 (live_of hy)
  rw [hpz] at f0 f15
  rw [hqy] at f1
  have q1 : ∀ ob, hset H1 n1 ob y = _ := fun ob => (hset_ne _ _ _ (by omega)).trans hy
  have q2 : ∀ (H : Heap) ob, hset H (n1 + 1) ob n1 = H n1 := fun H ob => hset_ne _ _ _ (by omega)
  have k3 : Kp n H (n1 + 1 + 1) (hset (hset H1 n1 (.cells (rvG r a) 44 true)) (n1 + 1) (.cells (rvG r b) 44 true)) := (k1.trans (Kp.new n1 H1 _)).trans (Kp.new (n1 + 1) _ _)
  repeat (first | refine qqm rfl ?_ | ((first | refine qqr ?_ | refine qqt ?_); simp only [SS, qx38, vun, simprocAttr, f0, f1, f2, f15, f16, f17, hlt, hz, hy, d3, d4, e3, e4, q1, q2, rvG_cells, rvG_one, rvG_len, rvG_splice, rvG_all, ff_56]))
  refine AtCall.by (sameR_gives (k3.wf hw) (ha.mono hw k3) (hb.mono hw k3) hrl) ?_
  rintro v n4 H4 k4 rfl
  simp only [SS, qx38, vun, simprocAttr, Bool.not_true, ff_56]
  repeat (first | refine qqm rfl ?_ | ((first | refine qqr ?_ | refine qqt ?_); simp only [SS, qx38, vun, simprocAttr, f17, hiw, ff_56]))
  exact ih (l.length - (i + 1)) (by omega) _ ⟨i + 1, k3.trans k4, by rw [hpz]; exact f0, by rw [hqy]; exact f1, f2, by rw [hpz]; exact f15, f16, rfl, hlt, rfl⟩
 ·repeat (first | refine qqm rfl ?_ | ((first | refine qqr ?_ | refine qqt ?_); simp only [SS, qx38, vun, simprocAttr, f15, f16, f17, hlt, ff_56]))
  first | refine qqf ?_ ?_ | refine qqg ?_ ?_
  ·exact k1.keep
  ·simp only [packed, qv, Nat.reduceEqDiff, ↓reduceIte, ff_56]
   all_goals simp
set_option maxHeartbeats 8000000 in
theorem gSame_gives {pt pv pr bt bv br : Option Addr} {g : Gram} {n : Nat} {H : Heap} (hw : WF n H) (ht : RA Value.string H pt g.terms) (hv : RA Value.string H pv g.vars) (hr : RR H pr g.rules) (ht' : RA Value.string H bt g.terms) (hv' : RA Value.string H bv g.vars) (hr' : RR H br g.rules) (wg : WG g) :
  Gives Tryz.prog 29 [.agg (gcells pt pv pr g).toArray, .agg (gcells bt bv br g).toArray] n H fun v _ _ => v = .bool true := by
 refine Gives.of orders ok29 (Nat.le_of_ble_eq_true rfl) ?_
 repeat refine qqn rfl ?_
 (refine qqr ?_; simp only [SS, qx32, simprocAttr, abox, box_cells, box_one, ff_29])
 have k2 : Kp n H (n + 1 + 1) (hset (hset H n (.cells (gcells pt pv pr g) 25 true)) (n + 1) (.cells (gcells bt bv br g) 25 true)) := (Kp.new n H _).trans (Kp.new (n + 1) _ _)
 have h0 : hset (hset H n (.cells (gcells pt pv pr g) 25 true)) (n + 1) (.cells (gcells bt bv br g) 25 true) n = _ := (hset_ne _ _ _ (by omega)).trans (hset_at _ _ _)
 have h1 : hset (hset H n (.cells (gcells pt pv pr g) 25 true)) (n + 1) (.cells (gcells bt bv br g) 25 true) (n + 1) = _ := hset_at _ _ _
 generalize hset (hset H n (.cells (gcells pt pv pr g) 25 true)) (n + 1) (.cells (gcells bt bv br g) 25 true) = H2 at *
 have hw2 := k2.wf hw
 repeat (first | refine qqm rfl ?_ | ((first | refine qqr ?_ | refine qqt ?_); simp only [SS, qx32, simprocAttr, h0, h1, gc_0, gc_1, gc_2, gc_len, ff_29]))
 refine AtCall.by (equalS_self (ht.mono hw k2) (ht'.mono hw k2) wg.terms) ?_
 rintro v n3 H3 k3 ⟨rfl, rfl, rfl⟩
 simp only [SS, qx32, simprocAttr, h0, h1, gc_0, gc_1, gc_2, gc_len, ff_29]
 refine AtCall.by (equalS_self (hv.mono hw k2) (hv'.mono hw k2) wg.vars) ?_
 rintro v n4 H4 k4 ⟨rfl, rfl, rfl⟩
 simp only [SS, qx32, simprocAttr, h0, h1, gc_0, gc_1, gc_2, gc_len, ff_29]
 refine AtCall.by (equalR_gives hw2 (hr.mono hw k2) (hr'.mono hw k2) wg.rules fun r hr => (wg.right r hr).1) ?_
 rintro v n5 H5 k5 rfl
 simp only [SS, qx32, simprocAttr, ff_29]
 repeat (first | refine qqm rfl ?_ | ((first | refine qqr ?_ | refine qqt ?_); simp only [SS, qx32, simprocAttr, ff_29]))
 first | refine qqf ?_ ?_ | refine qqg ?_ ?_
 ·exact (k2.trans k5).keep
 ·simp only [packed, qv, Nat.reduceEqDiff, ↓reduceIte, ff_29]
  all_goals simp
end Go.Proofs.YtihjaobjhmmboaaGreatDoor

namespace Go.Proofs.YtihjaobjhmmboaaGreatDoor
open Go.AM
set_option maxRecDepth 100000
theorem min32 : min 32 IntKind.u64.bits = 32 := rfl
theorem min16 : min 16 IntKind.u64.bits = 16 := rfl
theorem min8 : min 8 IntKind.u64.bits = 8 := rfl
theorem min2 : min 2 IntKind.u64.bits = 2 := rfl
theorem and32 (x : Nat) (h : x < 18446744073709551616) : IntKind.u64.wrap (BitVec.ofInt IntKind.u64.bits (x : Int) &&& BitVec.ofInt IntKind.u64.bits 4294967295).toNat = ((x % 4294967296 : Nat) : Int) := by
 have := and_u64 x 4294967295 h (by omega)
 have h' : IntKind.u64.wrap (BitVec.ofInt IntKind.u64.bits (x : Int) &&& BitVec.ofInt IntKind.u64.bits 4294967295).toNat = ((x &&& 4294967295 : Nat) : Int) := this
 rw [h', show (4294967295 : Nat) = 2 ^ 32 - 1 by rfl, and_mask]
theorem shr32 (x : Nat) : (x : Int).fdiv (2 ^ 32) = ((x / 4294967296 : Nat) : Int) := shr_nat x 32
theorem wmul (a b c : Nat) (h : a * b = c) (hc : c < 18446744073709551616) : IntKind.u64.wrap ((a : Int) * (b : Int)) = (c : Int) := by
 have : (a : Int) * (b : Int) = ((c : Nat) : Int) := by rw [← h]; simp
 rw [this, wrap_u64n, Nat.mod_eq_of_lt hc]
theorem wadd (a b c : Nat) (h : a + b = c) (hc : c < 18446744073709551616) : IntKind.u64.wrap ((a : Int) + (b : Int)) = (c : Int) := by
 have : (a : Int) + (b : Int) = ((c : Nat) : Int) := by rw [← h]; simp
 rw [this, wrap_u64n, Nat.mod_eq_of_lt hc]
theorem wmul_mod (a b : Nat) : IntKind.u64.wrap ((a : Int) * (b : Int)) = ((a * b % 18446744073709551616 : Nat) : Int) := by
 have : (a : Int) * (b : Int) = ((a * b : Nat) : Int) := by simp
 rw [this, wrap_u64n]
theorem mul64_gives (x y : Nat) (hx : x < 18446744073709551616) (hy : y < 18446744073709551616) (n : Nat) (H : Heap) :
  Gives Tryz.prog 115 [.int .u64 x, .int .u64 y] n H fun v n' H' => v = .tuple #[.int .u64 ((x * y / 18446744073709551616 : Nat) : Int), .int .u64 ((x * y % 18446744073709551616 : Nat) : Int)] ∧ n' = n ∧ H' = H := by
 refine Gives.of orders ok115 (Nat.le_of_ble_eq_true rfl) ?_
 have a1 := and32 x hx
 have a2 := shr32 x
 have a3 := and32 y hy
 have a4 := shr32 y
 have key : x * y = x / 4294967296 * (y / 4294967296) * 18446744073709551616 + (x / 4294967296 * (y % 4294967296) + x % 4294967296 * (y / 4294967296)) * 4294967296 + x % 4294967296 * (y % 4294967296) := by
  have e1 : x = x / 4294967296 * 4294967296 + x % 4294967296 := by omega
  have e2 : y = y / 4294967296 * 4294967296 + y % 4294967296 := by omega
  generalize x / 4294967296 = p at *
  generalize x % 4294967296 = q at *
  generalize y / 4294967296 = r at *
  generalize y % 4294967296 = s at *
  rw [e1, e2, Nat.add_mul, Nat.mul_add, Nat.mul_add]
  have e3 : p * 4294967296 * (r * 4294967296) = p * r * 18446744073709551616 := by
   rw [Nat.mul_mul_mul_comm]
  have e4 : p * 4294967296 * s = p * s * 4294967296 := by rw [Nat.mul_right_comm]
  have e5 : q * (r * 4294967296) = q * r * 4294967296 := by rw [Nat.mul_assoc]
  rw [e3, e4, e5]
  omega
 have b1 : x / 4294967296 < 4294967296 := by omega
 have b2 : x % 4294967296 < 4294967296 := by omega
 have b3 : y / 4294967296 < 4294967296 := by omega
 have b4 : y % 4294967296 < 4294967296 := by omega
 have ml := wmul_mod x y
 generalize x / 4294967296 = x1 at *
 generalize x % 4294967296 = x0 at *
 generalize y / 4294967296 = y1 at *
 generalize y % 4294967296 = y0 at *
 have prod : ∀ a b : Nat, a < 4294967296 → b < 4294967296 → a * b ≤ 18446744065119617025 := fun a b ha hb => by
  have := Nat.mul_le_mul (show a ≤ 4294967295 by omega) (show b ≤ 4294967295 by omega)
  omega
 have pA := prod x1 y1 b1 b3
 have pB := prod x1 y0 b1 b4
 have pC := prod x0 y1 b2 b3
 have pD := prod x0 y0 b2 b4
 have m1 := wmul x0 y0 _ rfl (by omega)
 have m2 := wmul x1 y0 _ rfl (by omega)
 have m3 := wmul x0 y1 _ rfl (by omega)
 have m4 := wmul x1 y1 _ rfl (by omega)
 generalize x1 * y1 = A at *
 generalize x1 * y0 = B at *
 generalize x0 * y1 = C at *
 generalize x0 * y0 = D at *
 have s1 := shr32 D
 have t1 := wadd B (D / 4294967296) (B + D / 4294967296) rfl (by omega)
 have u1 := and32 (B + D / 4294967296) (by omega)
 have u2 := shr32 (B + D / 4294967296)
 have t2 := wadd ((B + D / 4294967296) % 4294967296) C _ rfl (by omega)
 have t3 := wadd A ((B + D / 4294967296) / 4294967296) _ rfl (by omega)
 have u3 := shr32 ((B + D / 4294967296) % 4294967296 + C)
 have t4 := wadd (A + (B + D / 4294967296) / 4294967296) (((B + D / 4294967296) % 4294967296 + C) / 4294967296) _ rfl (by omega)
 have fin : A + (B + D / 4294967296) / 4294967296 + ((B + D / 4294967296) % 4294967296 + C) / 4294967296 = x * y / 18446744073709551616 := by omega
 repeat (first | apply WK.seq | apply WK.block | apply WK.skipSeq | apply WK.skipBlock | apply WK.retSeq | apply WK.retBlock | apply WK.exitSeq | apply WK.exitHere | refine WK.exitOn rfl ?_ | ((first | (refine WK.rgn ?_ ?_; kernel_rfl) | refine AtCall.now ?_); simp (config := { maxSteps := 1000000 }) only [SS, qx8, forall_const, Int.reduceEq, Int.reduceNeg, Nat.reduceGT, Nat.reduceLT, Nat.reduceLeDiff, Nat.reduceEqDiff, ↓reduceIte, reduceCtorEq, Int.reduceToNat, Int.reduceLE, Int.reduceLT, Nat.reduceAdd, Nat.reduceMul, min32, a1, a2, a3, a4, m1, m2, m3, m4, s1, t1, u1, u2, t2, t3, u3, t4, ml]) | (refine WK.condT ?_ ?_; focus (simp only [ev_tmp, ev_const, fset_apply, Nat.reduceEqDiff, ↓reduceIte, decide_true, decide_false, min32, a1, a2, a3, a4, m1, m2, m3, m4, s1, t1, u1, u2, t2, t3, u3, t4, ml]; done)) | (refine WK.condF ?_ ?_; focus (simp only [ev_tmp, ev_const, fset_apply, Nat.reduceEqDiff, ↓reduceIte, decide_true, decide_false, min32, a1, a2, a3, a4, m1, m2, m3, m4, s1, t1, u1, u2, t2, t3, u3, t4, ml]; done)))
 (first | refine WK.retNil ⟨Or.inr rfl, _, rfl, ?_, ?_⟩ | refine WK.skipNil ⟨Or.inl rfl, _, rfl, ?_, ?_⟩)
 ·exact fun _ _ => rfl
 ·simp only [packed, fset_apply, Nat.reduceEqDiff, ↓reduceIte, List.getD_cons_zero, List.getD_cons_succ]
  rw [fin]
  exact ⟨rfl, trivial, trivial⟩
end Go.Proofs.YtihjaobjhmmboaaGreatDoor
