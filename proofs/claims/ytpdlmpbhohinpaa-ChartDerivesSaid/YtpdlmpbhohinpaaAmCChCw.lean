/- A part of a proof. Its conditions: none. -/
import Derived.Test.YtpdlmpbhohinpaaAmCChNxt
import Derived.Test.YtpdlmpbhohinpaaAmCChNew
import Derived.Test.YtpdlmpbhohinpaaAmCChAcc
set_option linter.all false
namespace Go.Proofs.Ytpdlmpbhohinpaa
open Go.AM Go.RowKit
set_option maxRecDepth 100000
noncomputable section
theorem snocInd {α : Type} {P : List α → Prop} (h0 : P []) (h1 : ∀ l a, P l → P (l ++ [a])) : ∀ l, P l := by
  intro l
  suffices ∀ l : List α, P l.reverse by have := this l.reverse; rwa [List.reverse_reverse] at this
  intro l
  induction l with
  | nil => exact h0
  | cons a l ih => rw [List.reverse_cons]; exact h1 _ a ih
def runS (g : Gram) (w : List Int) : Option (List (List It)) := w.foldlM (pushS g (gdG g) (emG g)) (newS g (gdG g) (emG g))
theorem runS_snoc (g : Gram) (w : List Int) (t : Int) : runS g (w ++ [t]) = (runS g w).bind fun s => pushS g (gdG g) (emG g) s t := by
  unfold runS
  rw [List.foldlM_append]
  cases List.foldlM (pushS g (gdG g) (emG g)) (newS g (gdG g) (emG g)) w with
  | none => rfl
  | some s => simp [List.foldlM]
theorem runS_ok {g : Gram} : ∀ (w : List Int) (sets : List (List It)), runS g w = some sets → okS g sets ∧ sets.length = w.length + 1 := by
  refine snocInd ?_ ?_
  · intro sets h; cases h; exact ⟨okS.new, rfl⟩
  · intro w t ih sets h
    rw [runS_snoc] at h
    cases hr : runS g w with
    | none => rw [hr] at h; cases h
    | some s =>
      rw [hr] at h
      obtain ⟨h1, h2⟩ := ih s hr
      exact ⟨h1.push h, by rw [pushS_len h, h2]; simp⟩
def accR (g : Gram) (w : List Int) : Bool := accB g ((runS g w).getD [])
def nextR (g : Gram) (w : List Int) : List Int := nextL g ((runS g w).getD [])
def shortR (g : Gram) (c : Nat → Nat) (w : List Int) : Nat := shortL g c ((runS g w).getD [])
structure Ch (S : Heap) (N o : Nat) (pt pv pr pg pe pc : Option Addr) (g : Gram) (co : List Nat) : Prop where
  st : Stat S N pr pg pe pc g (gdG g) (emG g) co
  so : S o = .dead
  oN : o < N
  cost : ∃ b, CostOK g (cF co) b
  ro : RRO S pr g.rules
  ok : RightOK g
  few : few g = true
section
variable {S : Heap} {N o : Nat} {pt pv pr pg pe pc : Option Addr} {g : Gram} {co : List Nat}
theorem Ch.cap (h : Ch S N o pt pv pr pg pe pc g co) : ∀ k ∈ co, k ≤ farN := by
  intro k hk
  obtain ⟨b, hb⟩ := h.cost
  obtain ⟨i, hi, rfl⟩ := List.getElem_of_mem hk
  have := hb.cap i (by have := h.st.coL; omega)
  simpa [cF, hi] using this
theorem Ch.hts (h : Ch S N o pt pv pr pg pe pc g co) : ∀ r ∈ g.rules, ∀ s ∈ r.right, -s - 1 < (g.terms.length : Int) := by
  intro r hr s hs
  rcases Int.lt_or_le s 0 with h0 | h0
  · exact h.ok.inG.rightT r hr s hs h0
  · omega
theorem Ch.htl (h : Ch S N o pt pv pr pg pe pc g co) : g.terms.length ≤ 6 := by
  have := h.few
  simp [Go.Proofs.Ytpdlmpbhohinpaa.few] at this
  omega
def CW (Z : Nat → Prop) (n : Nat) (H : Heap) (S : Heap) (N o : Nat) (pt pv pr pg pe pc : Option Addr) (g : Gram) (co : List Nat) (w : List Int) : Prop :=
  WF n H ∧ Sub S H ∧ N ≤ n ∧ ∃ y x sets, CHR H N o y x pt pv pr pg pe pc g (gdG g) (emG g) co sets w ∧ y < n ∧ x < n ∧ (∀ z, Z z → z ≠ o ∧ z ≠ y ∧ z ≠ x) ∧ runS g w = some sets
theorem CHR.norm {H : Heap} {n y x : Nat} {gd em : List Bool} {sets : List (List It)} {w : List Int} (hw : WF n H) (hc : CHR H N o y x pt pv pr pg pe pc g gd em co sets w) : o < n ∧ y < n ∧ ∃ x', x' < n ∧ (x' = x ∨ x' = o) ∧ CHR H N o y x' pt pv pr pg pe pc g gd em co sets w := by
  have low : ∀ {z cs ty own}, H z = .cells cs ty own → z < n := fun {z cs ty own} e => Classical.byContradiction fun hc => by rw [hw z (by omega)] at e; cases e
  obtain ⟨c, wv, cs, h1, h2, h3, h4, h5, h6⟩ := hc
  refine ⟨low h1, low h3, ?_⟩
  rcases h6 with ⟨rfl, rfl⟩ | ⟨cw, cx, rfl, a1, a2, a3, a4⟩
  · exact ⟨o, low h1, .inr rfl, c, _, cs, h1, h2, h3, h4, h5, .inl ⟨rfl, rfl⟩⟩
  · exact ⟨x, low a2, .inl rfl, c, _, cs, h1, h2, h3, h4, h5, .inr ⟨cw, cx, rfl, a1, a2, a3, a4⟩⟩
theorem CW.some {Z : Nat → Prop} {n : Nat} {H : Heap} {w : List Int} (h : CW Z n H S N o pt pv pr pg pe pc g co w) : (runS g w).isSome = true := by
  obtain ⟨_, _, _, y, x, sets, _, _, _, _, h⟩ := h
  rw [h]; rfl
theorem CW.kp {Z : Nat → Prop} {n n' : Nat} {H H' : Heap} {w : List Int} (h : CW Z n H S N o pt pv pr pg pe pc g co w) (k : Kp n H n' H') : CW Z n' H' S N o pt pv pr pg pe pc g co w := by
  obtain ⟨hw, h1, h2, y, x, sets, h3, h4, h5, h6, h7⟩ := h
  exact ⟨k.wf hw, h1.kp hw k, Nat.le_trans h2 k.le, y, x, sets, h3.kp hw k, Nat.lt_of_lt_of_le h4 k.le, Nat.lt_of_lt_of_le h5 k.le, h6, h7⟩
def ZK (Z : Nat → Prop) (H H' : Heap) : Prop := RK H H' ∧ ∀ z cs ty own, Z z → H z = .cells cs ty own → H' z = .cells cs ty own
theorem RC.zk {P Z : Nat → Prop} {H H' : Heap} (h : RC P H H') (hz : ∀ z, Z z → ¬ P z) : ZK Z H H' := ⟨h.1, fun z cs ty own hZ e => h.2 z cs ty own (hz z hZ) e⟩
theorem push_cw {Z : Nat → Prop} {n : Nat} {H : Heap} {w : List Int} {t : Int} (K : Ch S N o pt pv pr pg pe pc g co) (h : CW Z n H S N o pt pv pr pg pe pc g co w) (hwl : w.length ≤ 3998) (ht : inI t) (hZ : ∀ z, Z z → z < n) :
    GivesX Try.prog (fun z => z = o ∨ N ≤ z) 12 [.pointer (some ⟨o, 0, none⟩), .int .i64 t] n H fun v n' H' => v = .bool (runS g (w ++ [t])).isSome ∧ ZK Z H H' ∧ CW Z n' H' S N o pt pv pr pg pe pc g co (if (runS g (w ++ [t])).isSome then w ++ [t] else w) := by
  obtain ⟨hw, h1, h2, y, x, sets, h3, h4, h5, h6, h7⟩ := h
  obtain ⟨hk, hl⟩ := runS_ok w sets h7
  obtain ⟨v, n', H', hb, kx, hv, rc, y', x', hc, hy', hx'⟩ := push_gives (t := t) K.st K.so hw h1 h2 K.oN h3 hk (by omega) (by omega) ht
  have hw' := kx.wf hw
  have hs : runS g (w ++ [t]) = pushS g (gdG g) (emG g) sets t := by rw [runS_snoc, h7]; rfl
  have hS' := sub_kxo h1 K.st.wf K.so kx h2
  obtain ⟨_, hyn, x2, hx2, hx3, hc2⟩ := hc.norm hw'
  refine ⟨v, n', H', hb, kx, by rw [hs]; exact hv, rc.zk fun z hz => by have := h6 z hz; omega, hw', hS', Nat.le_trans h2 kx.le, y', x2, (pushS g (gdG g) (emG g) sets t).getD sets, by rw [hs]; exact hc2, hyn, hx2, fun z hz => ?_, ?_⟩
  · have a := h6 z hz
    have b := hZ z hz
    omega
  · rw [hs]
    cases hp : pushS g (gdG g) (emG g) sets t with
    | none => simpa using h7
    | some s' => simp only [Option.isSome_some, if_true, Option.getD_some]; rw [hs, hp]
theorem acc_cw {Z : Nat → Prop} {n : Nat} {H : Heap} {w : List Int} (K : Ch S N o pt pv pr pg pe pc g co) (h : CW Z n H S N o pt pv pr pg pe pc g co w) (hwl : w.length ≤ 3998) :
    Gives Try.prog 19 [.pointer (some ⟨o, 0, none⟩)] n H fun v _ _ => v = .bool (accR g w) := by
  obtain ⟨hw, h1, h2, y, x, sets, h3, h4, h5, h6, h7⟩ := h
  obtain ⟨hk, hl⟩ := runS_ok w sets h7
  unfold accR; rw [h7, Option.getD_some]
  exact accm_gives K.st hw h1 h3 hk (by omega)
theorem next_cw {Z : Nat → Prop} {n : Nat} {H : Heap} {w : List Int} (K : Ch S N o pt pv pr pg pe pc g co) (h : CW Z n H S N o pt pv pr pg pe pc g co w) (hwl : w.length ≤ 3998) :
    Gives Try.prog 23 [.pointer (some ⟨o, 0, none⟩)] n H fun v _ H' => WO n H' v (nextR g w) := by
  obtain ⟨hw, h1, h2, y, x, sets, h3, h4, h5, h6, h7⟩ := h
  obtain ⟨hk, hl⟩ := runS_ok w sets h7
  unfold nextR; rw [h7, Option.getD_some]
  exact nextm_gives K.st hw h1 h3 hk (by omega) K.hts K.htl
theorem short_cw {Z : Nat → Prop} {n : Nat} {H : Heap} {w : List Int} (K : Ch S N o pt pv pr pg pe pc g co) (h : CW Z n H S N o pt pv pr pg pe pc g co w) (hwl : w.length ≤ 3998) :
    Gives Try.prog 22 [.pointer (some ⟨o, 0, none⟩)] n H fun v _ _ => v = .int .i64 (shortR g (cF co) w : Nat) := by
  obtain ⟨hw, h1, h2, y, x, sets, h3, h4, h5, h6, h7⟩ := h
  obtain ⟨hk, hl⟩ := runS_ok w sets h7
  unfold shortR; rw [h7, Option.getD_some]
  exact shortm_gives K.st K.ro hw h1 h3 hk (by omega) K.cap
end
theorem new_cw {g : Gram} {n : Nat} {H H0 : Heap} {pt pv pr : Option Addr} (hw : WF n H) (hg : RG H (.agg (gcells pt pv pr g).toArray) g) (wg : WG g) (ok : RightOK g) (hf : few g = true) (hro : RRO H pr g.rules) :
    Gives Try.prog 11 [.agg (gcells pt pv pr g).toArray] n H fun r n' H' => ∃ (S : Heap) (N o : Nat) (pt pv pr pg pe pc : Option Addr) (co : List Nat), r = .pointer (some ⟨o, 0, none⟩) ∧ Ch S N o pt pv pr pg pe pc g co ∧ n ≤ o ∧ CW (fun z => z < n) n' H' S N o pt pv pr pg pe pc g co [] := by
  obtain ⟨v, n', H', hb, k, S, N, o, y, x, pt', pv', pr', pg, pe, pc, co, hr, st, hso, hS2, hN2, hoN, hno, hny, hnx, hc, hco, hHS, hv⟩ := new_gives hw hg wg ok hf
  have hpr : pr' = pr := by
    have h1 := congrArg (fun v => match v with | Value.agg xs => xs.toList | _ => []) hv
    simp only at h1
    have h2 := congrArg (fun l : List Value => l[2]?) h1
    simp [gcells] at h2
    exact h2.symm
  subst hpr
  obtain ⟨h1, h2, x2, h3, h4, h5⟩ := hc.norm (k.wf hw)
  exact ⟨v, n', H', hb, k, S, N, o, pt', pv', pr', pg, pe, pc, co, hr, ⟨st, hso, hoN, hco, hro.sub hHS, ok, hf⟩, hno, k.wf hw, hS2, hN2, y, x2, _, h5, h2, h3, fun z hz => by omega, rfl⟩
end
end Go.Proofs.Ytpdlmpbhohinpaa
