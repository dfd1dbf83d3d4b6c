/- A part of a proof. Its conditions: none. -/
import Derived.Test.YtigijncdfkbaoaaGreatDoorAmYAtClo
import Derived.Test.YtigijncdfkbaoaaGreatDoorAmYAtStart
import Derived.Test.YtigijncdfkbaoaaGreatDoorAmC
import Derived.Test.YtigijncdfkbaoaaGreatDoorAmYAtSame
import Derived.Test.YtigijncdfkbaoaaGreatDoorAmYAtClose
set_option linter.all false
namespace Go.Proofs.YtigijncdfkbaoaaGreatDoor
open Go.AM
set_option maxRecDepth 100000
inductive RchC (g : Gram) (cl : List (List (Int × Int))) (l : List Cfg) : Cfg → Prop where
 | base {c : Cfg} (h : c ∈ l) : RchC g cl l c
 | step {c d : Cfg} (h : RchC g cl l c) (k : d ∈ stepL g cl c) : RchC g cl l d
structure Full (g : Gram) (cl : List (List (Int × Int))) (deep most : Nat) (l A : List Cfg) : Prop where
 nd : A.Nodup
 mem : ∀ c, c ∈ A ↔ RchC g cl l c
 len : A.length ≤ most
 dp : ∀ c ∈ A, c.stack.length ≤ deep
def Short (g : Gram) (cl : List (List (Int × Int))) (deep most : Nat) (l : List Cfg) : Prop :=
 (∃ c, RchC g cl l c ∧ deep < c.stack.length) ∨ ∃ A : List Cfg, A.Nodup ∧ (∀ c ∈ A, RchC g cl l c) ∧ most < A.length
variable {g : Gram} {cl : List (List (Int × Int))} {deep most : Nat} {l : List Cfg}
theorem Full.of {A : List Cfg} (nd : A.Nodup) (hr : ∀ c ∈ A, RchC g cl l c) (hb : ∀ c ∈ l, c ∈ A) (hs : ∀ c ∈ A, ∀ d ∈ stepL g cl c, d ∈ A) (len : A.length ≤ most) (dp : ∀ c ∈ A, c.stack.length ≤ deep) : Full g cl deep most l A :=
 ⟨nd, fun c => ⟨hr c, fun h => by induction h with | base h => exact hb _ h | step _ k ih => exact hs _ ih _ k⟩, len, dp⟩
theorem Come.more {S T S' T' : List CA} {x : CA} (h : Come deep most S T x S' T') (hn : (S.map (·.1)).Nodup) (hT : ∀ y ∈ T, y.1 ∈ S.map (·.1)) (hl : S.length ≤ most) :
  (S'.map (·.1)).Nodup ∧ (∀ y ∈ T', y.1 ∈ S'.map (·.1)) ∧ (∀ y ∈ T, y ∈ T') ∧ (∀ c ∈ S'.map (·.1), c ∈ S.map (·.1) ∨ c ∈ T'.map (·.1)) ∧ S'.length ≤ most := by
 have hm := h.mem
 cases h with
 | old h => exact ⟨hn, hT, fun y hy => hy, fun c hc => .inl hc, hl⟩
 | new h hd hlt i hi =>
  refine ⟨?_, fun y hy => ?_, fun y hy => List.mem_append_left _ hy, fun c hc => ?_, by simp; omega⟩
  ·rw [List.map_append, List.map_append, List.append_assoc]
   have e : S.map (·.1) = (S.take i).map (·.1) ++ (S.drop i).map (·.1) := by rw [← List.map_append, List.take_append_drop]
   rw [e] at hn h
   rw [List.nodup_append] at hn ⊢
   obtain ⟨h1, h2, h3⟩ := hn
   refine ⟨h1, ?_, fun a ha b hb => ?_⟩
   ·rw [List.map_cons, List.map_nil, List.singleton_append, List.nodup_cons]
    exact ⟨fun hx => h (List.mem_append_right _ hx), h2⟩
   ·rw [List.map_cons, List.map_nil, List.singleton_append, List.mem_cons] at hb
    rcases hb with rfl | hb
    ·rintro rfl; exact h (List.mem_append_left _ ha)
    ·exact h3 a ha b hb
  ·rcases List.mem_append.1 hy with hy | hy
   ·exact (hm _).2 (.inl (hT y hy))
   ·rw [List.mem_singleton] at hy; rw [hy]; exact (hm _).2 (.inr rfl)
  ·rcases (hm c).1 hc with hc | rfl
   ·exact .inl hc
   ·exact .inr (List.mem_map.2 ⟨x, by simp, rfl⟩)
theorem Comes.more {S T S' T' : List CA} {r : List Cfg} {b : Bool} (h : Comes deep most S T r b S' T') (hn : (S.map (·.1)).Nodup) (hT : ∀ y ∈ T, y.1 ∈ S.map (·.1)) (hl : S.length ≤ most) :
  (S'.map (·.1)).Nodup ∧ (∀ y ∈ T', y.1 ∈ S'.map (·.1)) ∧ (∀ y ∈ T, y ∈ T') ∧ (∀ c ∈ S'.map (·.1), c ∈ S.map (·.1) ∨ c ∈ T'.map (·.1)) ∧ S'.length ≤ most := by
 induction h with
 | nil => exact ⟨hn, hT, fun y hy => hy, fun c hc => .inl hc, hl⟩
 | fail => exact ⟨hn, hT, fun y hy => hy, fun c hc => .inl hc, hl⟩
 | cons h _ ih =>
  obtain ⟨a1, a2, a3, a4, a5⟩ := h.more hn hT hl
  obtain ⟨b1, b2, b3, b4, b5⟩ := ih a1 a2 a5
  refine ⟨b1, b2, fun y hy => b3 y (a3 y hy), fun c hc => ?_, b5⟩
  rcases b4 c hc with hc | hc
  ·rcases a4 c hc with hc | hc
   ·exact .inl hc
   ·obtain ⟨y, hy, rfl⟩ := List.mem_map.1 hc
    exact .inr (List.mem_map.2 ⟨y, b3 y hy, rfl⟩)
  ·exact .inr hc
theorem Comes.bad {S T S' T' : List CA} {r : List Cfg} {b : Bool} (h : Comes deep most S T r b S' T') (hb : b = false) : (∃ c ∈ r, deep < c.stack.length) ∨ ∃ c ∈ r, c ∉ S'.map (·.1) ∧ most ≤ S'.length := by
 induction h with
 | nil => cases hb
 | fail h =>
  rcases h with h | ⟨h1, h2⟩
  ·exact .inl ⟨_, List.mem_cons_self .., h⟩
  ·exact .inr ⟨_, List.mem_cons_self .., h1, h2⟩
 | cons _ _ ih =>
  rcases ih hb with ⟨c, hc, h⟩ | ⟨c, hc, h⟩
  ·exact .inl ⟨c, List.mem_cons_of_mem _ hc, h⟩
  ·exact .inr ⟨c, List.mem_cons_of_mem _ hc, h⟩
structure PI (g : Gram) (cl : List (List (Int × Int))) (deep most : Nat) (l : List Cfg) (S T : List CA) : Prop where
 nd : (S.map (·.1)).Nodup
 r : ∀ y ∈ S ++ T, RchC g cl l y.1
 dp : ∀ y ∈ S ++ T, y.1.stack.length ≤ deep
 sub : ∀ y ∈ T, y.1 ∈ S.map (·.1)
 cls : ∀ c ∈ S.map (·.1), (∀ d ∈ stepL g cl c, d ∈ S.map (·.1)) ∨ c ∈ T.map (·.1)
 base : ∀ c ∈ l, c ∈ S.map (·.1)
 len : S.length ≤ most
theorem short_of {S T S' T' : List CA} {r : List Cfg} (h : Comes deep most S T r false S' T') (hn : (S.map (·.1)).Nodup) (hT : ∀ y ∈ T, y.1 ∈ S.map (·.1)) (hl : S.length ≤ most) (hR : ∀ y ∈ S ++ T, RchC g cl l y.1) (hr : ∀ c ∈ r, RchC g cl l c) : Short g cl deep most l := by
 rcases h.bad rfl with ⟨c, hc, hd⟩ | ⟨c, hc, h1, h2⟩
 ·exact .inl ⟨c, hr c hc, hd⟩
 ·refine .inr ⟨c :: S'.map (·.1), List.nodup_cons.2 ⟨h1, (h.more hn hT hl).1⟩, fun d hd => ?_, by simp; omega⟩
  rcases List.mem_cons.1 hd with rfl | hd
  ·exact hr _ hc
  ·obtain ⟨y, hy, rfl⟩ := List.mem_map.1 hd
   exact h.all hR (fun c hc _ => hr c hc) y (List.mem_append_left _ hy)
theorem Pops.spec {S T S' : List CA} {b : Bool} (h : Pops g cl deep most S T b S') (hp : PI g cl deep most l S T) : (b = true → Full g cl deep most l (S'.map (·.1))) ∧ (b = false → Short g cl deep most l) := by
 induction h with
 | done S =>
  refine ⟨fun _ => Full.of hp.nd (fun c hc => ?_) hp.base (fun c hc => ?_) (by rw [List.length_map]; exact hp.len) (fun c hc => ?_), fun e => by cases e⟩
  ·obtain ⟨y, hy, rfl⟩ := List.mem_map.1 hc
   exact hp.r y (List.mem_append_left _ hy)
  ·rcases hp.cls c hc with h | h
   ·exact h
   ·simp at h
  ·obtain ⟨y, hy, rfl⟩ := List.mem_map.1 hc
   exact hp.dp y (List.mem_append_left _ hy)
 | @fail S T S' T' x h =>
  refine ⟨fun e => (by cases e), fun _ => short_of h hp.nd (fun y hy => hp.sub y (List.mem_append_left _ hy)) hp.len (fun y hy => ?_) fun c hc => .step (hp.r x (by simp)) hc⟩
  rcases List.mem_append.1 hy with hy | hy
  ·exact hp.r y (List.mem_append_left _ hy)
  ·exact hp.r y (List.mem_append_right _ (List.mem_append_left _ hy))
 | @step S T S' T' S2 x b h k ih =>
  obtain ⟨a1, a2, a3, a4, a5⟩ := h.more hp.nd (fun y hy => hp.sub y (List.mem_append_left _ hy)) hp.len
  have hST : ∀ y ∈ S ++ T, y ∈ S ++ (T ++ [x]) := fun y hy => by
   rcases List.mem_append.1 hy with hy | hy
   ·exact List.mem_append_left _ hy
   ·exact List.mem_append_right _ (List.mem_append_left _ hy)
  have hm := h.mem rfl
  refine ih ⟨a1, h.all (fun y hy => hp.r y (hST y hy)) fun c hc _ => .step (hp.r x (by simp)) hc, h.all (fun y hy => hp.dp y (hST y hy)) fun c _ hd => hd, a2, fun c hc => ?_, fun c hc => (hm c).2 (.inl (hp.base c hc)), a5⟩
  rcases a4 c hc with h1 | h1
  ·rcases hp.cls c h1 with h2 | h2
   ·exact .inl fun d hd => (hm d).2 (.inl (h2 d hd))
   ·rw [List.map_append, List.mem_append] at h2
    rcases h2 with h2 | h2
    ·obtain ⟨y, hy, rfl⟩ := List.mem_map.1 h2
     exact .inr (List.mem_map.2 ⟨y, a3 y hy, rfl⟩)
    ·rw [List.map_cons, List.map_nil, List.mem_singleton] at h2
     rw [h2]
     exact .inl fun d hd => (hm d).2 (.inr hd)
  ·exact .inr h1
theorem Clo.spec {S : List CA} {b : Bool} (h : Clo g cl deep most l b S) : (b = true → Full g cl deep most l (S.map (·.1))) ∧ (b = false → Short g cl deep most l) := by
 cases h with
 | fail h => exact ⟨fun e => (by cases e), fun _ => short_of h (by simp) (by simp) (Nat.zero_le _) (by simp) fun c hc => .base hc⟩
 | run h k =>
  obtain ⟨a1, a2, a3, a4, a5⟩ := h.more (by simp) (by simp) (Nat.zero_le _)
  have hm := h.mem rfl
  refine k.spec ⟨a1, h.all (by simp) fun c hc _ => .base hc, h.all (by simp) fun c _ hd => hd, a2, fun c hc => ?_, fun c hc => (hm c).2 (.inr hc), a5⟩
  rcases a4 c hc with h1 | h1
  ·simp at h1
  ·exact .inr h1
structure DI (g : Gram) (cl : List (List (Int × Int))) (deep most : Nat) (l A : List Cfg) (at_ : Nat) : Prop where
 nd : A.Nodup
 r : ∀ c ∈ A, RchC g cl l c
 base : ∀ c ∈ l, c ∈ A
 dp : ∀ k (h : k < A.length), k < at_ → A[k].stack.length ≤ deep
 cls : ∀ k (h : k < A.length), k < at_ → ∀ d ∈ stepL g cl A[k], d ∈ A
 len : A.length ≤ most ∨ at_ < A.length
 le : at_ ≤ A.length
end Go.Proofs.YtigijncdfkbaoaaGreatDoor

namespace Go.Proofs.YtigijncdfkbaoaaGreatDoor
open Go.AM
set_option maxRecDepth 100000
abbrev lv {α : Type} (y : Nat) (L : List α) : Value := .slice (some ⟨y, 0, none⟩) L.length L.length
end Go.Proofs.YtigijncdfkbaoaaGreatDoor

namespace Go.Proofs.YtigijncdfkbaoaaGreatDoor
open Go.AM
set_option maxRecDepth 100000
end Go.Proofs.YtigijncdfkbaoaaGreatDoor

namespace Go.Proofs.YtigijncdfkbaoaaGreatDoor
open Go.AM
set_option maxRecDepth 100000
def XD (H : Heap) (x : CA) : Prop := StOK H x ∧ ∀ z k, x.2 = some ⟨z, k, none⟩ → ∃ cs own, H z = .cells cs 63 own
end Go.Proofs.YtigijncdfkbaoaaGreatDoor

namespace Go.Proofs.YtigijncdfkbaoaaGreatDoor
open Go.AM
set_option maxRecDepth 100000
theorem cmpC_X (a b : Cfg) : cmpC a b = if a.alt = b.alt then cmpL ((a.rule, a.dot) :: a.stack) ((b.rule, b.dot) :: b.stack) else cmpI a.alt b.alt := by
 rw [cmpC_eq]
 by_cases h : a.alt = b.alt
 ·rw [if_pos h, if_pos h]
  conv => rhs; unfold cmpL
  by_cases h2 : (a.rule, a.dot) = (b.rule, b.dot)
  ·rw [if_pos h2, if_pos (cmpS_zero.2 h2)]
  ·rw [if_neg h2, if_neg (fun e => h2 (cmpS_zero.1 e))]
 ·rw [if_neg h, if_neg h]
end Go.Proofs.YtigijncdfkbaoaaGreatDoor

namespace Go.Proofs.YtigijncdfkbaoaaGreatDoor
open Go.AM
set_option maxRecDepth 100000
structure LS (H : Heap) (n0 N y : Nat) (A : List CA) : Prop where
 lo : n0 ≤ y
 hi : y < N
 c : H y = .cells (A.flatMap ccell) 66 true
 x : ∀ z ∈ A, XD H z
end Go.Proofs.YtigijncdfkbaoaaGreatDoor

namespace Go.Proofs.YtigijncdfkbaoaaGreatDoor
open Go.AM
set_option maxRecDepth 100000
theorem startL_map {g : Gram} (ok : RightOK g) (v : Int) : (startL g v).map (·.1) = (ruleIx g v).map fun r : Nat => (⟨(r : Nat), (r : Nat), 0, []⟩ : Cfg) := by
 unfold startL
 split
 ·rw [List.map_map]; rfl
 ·rename_i h
  have : ruleIx g v = [] := by
   unfold ruleIx
   refine List.filter_eq_nil_iff.2 fun i hi => ?_
   rw [List.mem_range] at hi
   rw [List.getElem?_eq_getElem hi]
   have h0 := ok.inG.left0 _ (List.getElem_mem hi)
   have h1 := ok.inG.left1 _ (List.getElem_mem hi)
   simp only [Option.map_some, Option.some.injEq, decide_eq_true_eq]
   rintro rfl
   exact h ⟨h0, h1⟩
  rw [this]; rfl
def mvC (c : Cfg) : Cfg := ⟨c.alt, c.rule, c.dot + 1, c.stack⟩
def moveL (g : Gram) (t : Int) (l : List Cfg) : List Cfg := (l.filter fun c => decide (0 ≤ t ∧ nextL g c = t)).map mvC
theorem moveL_take {g : Gram} {t : Int} {L : List CA} {i : Nat} (h : i < L.length) : moveL g t ((L.take (i + 1)).map (·.1)) = moveL g t ((L.take i).map (·.1)) ++ if 0 ≤ t ∧ nextL g L[i].1 = t then [mvC L[i].1] else [] := by
 unfold moveL
 rw [List.take_add_one, List.getElem?_eq_getElem h, List.map_append, List.filter_append, List.map_append]
 congr 1
 by_cases hc : 0 ≤ t ∧ nextL g L[i].1 = t <;> simp [hc]
theorem moveL_len {g : Gram} {t : Int} {l : List Cfg} : (moveL g t l).length ≤ l.length := by
 unfold moveL
 rw [List.length_map]
 exact List.length_filter_le _ _
theorem moveL_at {g : Gram} {t : Int} {l : List Cfg} {c : Cfg} (h : c ∈ moveL g t l) : ∃ d ∈ l, c = mvC d ∧ 0 ≤ t ∧ nextL g d = t := by
 unfold moveL at h
 obtain ⟨d, hd, rfl⟩ := List.mem_map.1 h
 obtain ⟨h1, h2⟩ := List.mem_filter.1 hd
 simp only [decide_eq_true_eq] at h2
 exact ⟨d, h1, rfl, h2⟩
theorem next_dot {g : Gram} {c : Cfg} {t : Int} (gc : GC g c) (h0 : 0 ≤ t) (h : nextL g c = t) : ∃ r : GRule, 0 ≤ c.rule ∧ g.rules[c.rule.toNat]? = some r ∧ 0 ≤ c.dot ∧ c.dot < r.right.length := by
 unfold nextL at h
 split at h
 ·omega
 rename_i hn
 split at h
 ·omega
 rename_i r hr
 obtain ⟨d0, d1⟩ := gc.1.2 r (by omega) hr
 split at h
 ·omega
 exact ⟨r, by omega, hr, d0, by omega⟩
theorem mvC_gc {g : Gram} {c : Cfg} {t : Int} (gc : GC g c) (h0 : 0 ≤ t) (h : nextL g c = t) : GC g (mvC c) := by
 obtain ⟨r, _, hr, d0, d1⟩ := next_dot gc h0 h
 refine ⟨⟨gc.1.1, fun r' h0' hr' => ?_⟩, gc.2⟩
 have hr'' : g.rules[c.rule.toNat]? = some r' := hr'
 rw [hr] at hr''
 cases hr''
 exact ⟨by show 0 ≤ c.dot + 1; omega, by show c.dot + 1 ≤ _; omega⟩
end Go.Proofs.YtigijncdfkbaoaaGreatDoor

namespace Go.Proofs.YtigijncdfkbaoaaGreatDoor
open Go.AM
set_option maxRecDepth 100000
theorem spk_kx {n n' y : Nat} {H H' : Heap} {cs : List Value} (hw : WF n H) (hy : H y = .cells cs 99 true) (k : Kx (fun z => z = y) n H n' H') : SpK H H' := fun z _ _ hz => (k.keep z (live_lt hw (live_of hz)) (by rintro rfl; rw [hy] at hz; simp at hz)).trans hz
set_option maxHeartbeats 16000000 in
theorem move_givesE {nn n cc : Nat} {H : Heap} {t : Int} {p : Option Addr} {L : List CA} {pt pv pr : Option Addr} {g : Gram} {cl : List (Option Addr × List (Int × Int))} (hw : WF n H) (ne : NE H nn pt pv pr g cc cl) (ok : RightOK g) (hL : L ≠ [] → RN 4 ccell H p L) (hx : ∀ z ∈ L, XC H z) (hv : ∀ x ∈ L, GC g x.1) (hl : L.length ≤ 65536) (hls : ∀ z ∈ L, z.1.stack.length ≤ 65536) :
    Gives Tryz.prog 42 [.pointer (some ⟨nn, 0, none⟩), .slice p L.length L.length, .int .i64 t] n H fun w _ H' => ∃ p' M, w = .slice p' M.length M.length ∧ RN 4 ccell H' p' M ∧ M.map (·.1) = moveL g t (L.map (·.1)) ∧ ∀ z ∈ M, XC H' z := by
  have hi := ok.inG
  have hgl : g.terms.length ≤ 64 ∧ g.vars.length ≤ 64 := ⟨ok.terms, ok.vars⟩
  have hlen : ∀ r ∈ g.rules, r.right.length ≤ 24 := fun r hr => by
    obtain ⟨i, hi, rfl⟩ := List.getElem_of_mem hr
    exact (ok.rule i hi).len
  refine Gives.of orders ok42 (Nat.le_of_ble_eq_true rfl) ?_
  have v1 : ∀ s, vcells (.agg (ccell s).toArray) = ccell s := fun _ => rfl
  have v2 : ∀ s, (ccell s).all one = true := fun _ => rfl
  have v0 : ∀ s, (ccell s)[0]? = some (.int .i64 s.1.alt) := fun _ => rfl
  have v3 : ∀ s, (ccell s)[1]? = some (.int .i64 s.1.rule) := fun _ => rfl
  have v8 : ∀ s, (ccell s)[2]? = some (.int .i64 s.1.dot) := fun _ => rfl
  have v4 : ∀ s, (ccell s)[3]? = some (.slice s.2 s.1.stack.length s.1.stack.length) := fun _ => rfl
  have v5 : ∀ s, (ccell s).length = 4 := fun _ => rfl
  have v6 : ∀ s, ((ccell s).drop 0).take 4 = ccell s := fun _ => rfl
  have hs4 : ∀ (a b c d : Value) (x : CA), AM.splice [a, b, c, d] 0 (ccell x) = ccell x := fun _ _ _ _ _ => rfl
  repeat (first | refine qqm rfl ?_ | ((first | refine qqr ?_ | refine qqt ?_); simp only [SS, qx29, simprocAttr, ff_42]))
  refine WK.loop (fun kk s => ∃ (i y : Nat) (M : List CA), Kp n H s.n s.H ∧ s.f 0 = .pointer (some ⟨nn, 0, none⟩) ∧ s.f 2 = .int .i64 t ∧ s.f 10 = .slice p L.length L.length ∧ s.f 11 = .int .i64 (L.length : Nat) ∧ s.f 12 = .int .i64 (i : Nat) ∧ s.f 7 = sl y M.length ∧ (M ≠ [] → n ≤ y ∧ y < s.n ∧ s.H y = .cells (M.flatMap ccell) 99 true) ∧ (∀ z ∈ M, XC s.H z) ∧ i ≤ L.length ∧ M.length ≤ i ∧
      M.map (·.1) = moveL g t ((L.take i).map (·.1)) ∧ kk = L.length - i) L.length ?_ ?_
  · exact ⟨0, 0, [], Kp.refl _ _, rfl, rfl, rfl, rfl, rfl, rfl, fun h => absurd rfl h, fun z hz => (by cases hz), Nat.zero_le _, Nat.zero_le _, rfl, rfl⟩
  rintro kk ⟨f, n5, H5⟩ ⟨i, y, M, k5, f0, f2, f10, f11, f12, f7, hy, hMx, hil, hMl, hMm, rfl⟩ ih
  simp only at k5 f0 f2 f10 f11 f12 f7 hy hMx ih
  have hle5 := k5.le
  have hw5 := k5.wf hw
  by_cases hlt : i < L.length
  · have hiw : IntKind.i64.wrap ((i : Int) + 1) = ((i + 1 : Nat) : Int) := by rw [wrap_in (by omega) (by omega)]; rfl
    have hmt := moveL_take (g := g) (t := t) hlt
    have hmem := List.getElem_mem hlt
    obtain ⟨u, k0, cs, ty, own, q1, q2, q3, q4⟩ := ((hL (by intro e; rw [e] at hlt; exact Nat.not_lt_zero _ hlt)).mono hw k5).at ccell_len hlt
    subst q1
    have hun := live_lt hw5 (live_of q2)
    have kn := Kp.new n5 H5 (.cells (ccell L[i]) 99 true)
    have k5n := k5.trans kn
    by_cases ht0 : 0 ≤ t
    · repeat (first | refine qqm rfl ?_ | ((first | refine qqr ?_ | refine qqt ?_); simp only [SS, qx29, simprocAttr, f0, f2, f10, f11, f12, hlt, q2, q3, q4, v1, v2, v5, v6, hs4, ht0, decide_true, hset_at, ff_42]))
      have hnn := hset_at H5 n5 (.cells (ccell L[i]) 99 true)
      generalize hset H5 n5 (.cells (ccell L[i]) 99 true) = H6 at *
      have hw6 := kn.wf hw5
      refine AtCall.by (next_gives hw k5n ne hi hgl hlen (hv _ hmem).1.1 (fun r h0 hr => (hv _ hmem).1.2 r h0 hr)) ?_
      rintro _ n7 H7 k7 rfl
      have hw7 := k7.wf hw6
      have hle7 := k7.le
      have k57 := k5n.trans k7
      have kn7 := kn.trans k7
      have hnn7 := (k7.keep n5 (by omega)).trans hnn
      by_cases hnx : nextL g L[i].1 = t
      · rw [if_pos ⟨ht0, hnx⟩] at hmt
        obtain ⟨ru, r0, hr1, d0, d1⟩ := next_dot (hv _ hmem) ht0 hnx
        have hd24 := hlen ru (List.mem_of_getElem? hr1)
        have hdw : IntKind.i64.wrap (L[i].1.dot + 1) = L[i].1.dot + 1 := wrap_in (by omega) (by omega)
        have hxc : XC H7 L[i] := (hx _ hmem).keep (Kp.spk hw k57)
        have hzl := hls _ hmem
        simp only [SS, qx29, simprocAttr, hnx, f2, decide_true, ff_42]
        repeat (first | refine qqm rfl ?_ | ((first | refine qqr ?_ | refine qqt ?_); simp only [SS, qx29, simprocAttr, f7, hnn7, v0, v3, v4, v5, v8, hdw, ff_42]))
        refine AtCall.by (clone_gives hw7 hxc (by omega)) ?_
        rintro _ n8 H8 k8 ⟨pc, rfl, hpc⟩
        have hw8 := k8.wf hw7
        have hle8 := k8.le
        have hnew := hpc.xc L[i].1.alt L[i].1.rule (L[i].1.dot + 1)
        have kn8 := kn7.trans k8
        have k58 := k57.trans k8
        generalize hz : L[i] = z at *
        by_cases hM0 : M = []
        · subst hM0
          have f7' : f 7 = .slice none 0 0 := f7
          simp only [SS, qx29, simprocAttr, f7', ff_42]
          repeat (first | refine qqm rfl ?_ | ((first | refine qqr ?_ | refine qqt ?_); simp only [SS, qx29, simprocAttr, f12, hiw, ff_42]))
          have k8p : ∀ A C, Kp n8 H8 (n8 + 1 + 1) (hset (hset H8 n8 A) (n8 + 1) C) := fun A C => (Kp.new n8 H8 A).trans (Kp.new (n8 + 1) _ C)
          refine ih (L.length - (i + 1)) (by omega) _ ?_
          refine ⟨i + 1, n8 + 1, [(mvC z.1, pc)], k58.trans (k8p _ _), f0, f2, f10, f11, rfl, rfl, fun _ => ⟨by omega, Nat.lt_succ_self _, hset_at _ _ _⟩, fun q hq => ?_, hlt, by simp, ?_, rfl⟩
          · rw [List.mem_singleton] at hq
            rw [hq]
            exact hnew.keep (Kp.spk hw8 (k8p _ _))
          · rw [hmt, ← hMm]; rfl
        · obtain ⟨hy0, hyn, hyc⟩ := hy hM0
          have hM1 : 0 < M.length := List.length_pos_iff.2 hM0
          have hsl0 : sl y M.length = .slice (some ⟨y, 0, none⟩) M.length M.length := sl_pos (by omega)
          have hyc8 := (kn8.keep y (by omega)).trans hyc
          have hy7 : ∀ o, hset H8 n8 o y = _ := fun o => (hset_ne _ _ _ (by omega)).trans hyc8
          have bl : M.length + 1 ≤ bigN := by unfold bigN; omega
          have hct : [n8].contains y = false := by simp; omega
          have hfl : (M.flatMap ccell).length = M.length * 4 := fm_len ccell_len _
          have htk : (M.flatMap ccell).take (M.length * 4) = M.flatMap ccell := List.take_of_length_le (by omega)
          simp only [SS, qx29, simprocAttr, f7, hsl0, hy7, bl, hct, hfl, htk, hset_at, Nat.le_refl, List.drop_zero, ff_42]
          repeat (first | refine qqm rfl ?_ | ((first | refine qqr ?_ | refine qqt ?_); simp only [SS, qx29, simprocAttr, f12, hiw, hy7, bl, hct, hfl, htk, hset_at, Nat.le_refl, List.drop_zero, ff_42]))
          have k8x : ∀ A C, Kx (fun z => z = y) n8 H8 (n8 + 1 + 1) (hset (hset (hset H8 n8 A) y .dead) (n8 + 1) C) := fun A C => (((Kp.new n8 H8 A).kx (X := fun z => z = y)).set (x := y) .dead (.inl rfl) (by omega)).trans (Kp.new (n8 + 1) _ C).kx
          refine ih (L.length - (i + 1)) (by omega) _ ?_
          have k8y := k8x (.cells (ccell (mvC z.1, pc)) 99 true) (.cells (M.flatMap ccell ++ ccell (mvC z.1, pc)) 99 true)
          refine ⟨i + 1, n8 + 1, M ++ [(mvC z.1, pc)], ⟨by show n ≤ n8 + 1 + 1; omega, fun q hq => (k8y.keep q (by omega) (by omega)).trans (k58.keep q hq), fun h => k8y.wf (k58.wf h)⟩, f0, f2, f10, f11, rfl, ?_, fun _ => ⟨by omega, Nat.lt_succ_self _, ?_⟩, fun q hq => ?_, hlt, by simp; omega, ?_, rfl⟩
          · rw [List.length_append, List.length_singleton, sl_pos (by omega)]; rfl
          · rw [List.flatMap_append, List.flatMap_singleton]; exact hset_at _ _ _
          · rcases List.mem_append.1 hq with hq | hq
            · exact ((hMx q hq).keep (Kp.spk hw5 kn8)).keep (spk_kx hw8 hyc8 k8y)
            · rw [List.mem_singleton] at hq
              rw [hq]
              exact hnew.keep (spk_kx hw8 hyc8 k8y)
          · rw [List.map_append, hMm, hmt]; rfl
      · rw [if_neg (fun h => hnx h.2), List.append_nil] at hmt
        simp only [SS, qx29, simprocAttr, hnx, f2, decide_false, ff_42]
        repeat (first | refine qqm rfl ?_ | ((first | refine qqr ?_ | refine qqt ?_); simp only [SS, qx29, simprocAttr, f12, hiw, ff_42]))
        refine ih (L.length - (i + 1)) (by omega) _ ?_
        exact ⟨i + 1, y, M, k57, f0, f2, f10, f11, rfl, f7, fun h => ⟨(hy h).1, by have := (hy h).2.1; show _ < n7; omega, (kn7.keep y (hy h).2.1).trans (hy h).2.2⟩, fun z hz => (hMx z hz).keep (Kp.spk hw5 kn7), hlt, by omega, by rw [hmt]; exact hMm, rfl⟩
    · rw [if_neg (fun h => ht0 h.1), List.append_nil] at hmt
      repeat (first | refine qqm rfl ?_ | ((first | refine qqr ?_ | refine qqt ?_); simp only [SS, qx29, simprocAttr, f0, f2, f10, f11, f12, hlt, q2, q3, q4, v1, v2, v5, v6, hs4, ht0, decide_false, hset_at, hiw, ff_42]))
      refine ih (L.length - (i + 1)) (by omega) _ ?_
      exact ⟨i + 1, y, M, k5n, f0, f2, f10, f11, rfl, f7, fun h => ⟨(hy h).1, by have := (hy h).2.1; show _ < n5 + 1; omega, (kn.keep y (hy h).2.1).trans (hy h).2.2⟩, fun z hz => (hMx z hz).keep (Kp.spk hw5 kn), hlt, by omega, by rw [hmt]; exact hMm, rfl⟩
  · obtain rfl : i = L.length := by omega
    rw [List.take_length] at hMm
    rw [sl_eq] at f7
    repeat (first | refine qqm rfl ?_ | ((first | refine qqr ?_ | refine qqt ?_); simp only [SS, qx29, simprocAttr, f7, f11, f12, hlt, ff_42]))
    first | refine qqf ?_ ?_ | refine qqg ?_ ?_
    · exact k5.keep
    · simp only [packed, qv, Nat.reduceEqDiff, ↓reduceIte, ff_42]
      refine ⟨slp y M.length, M, rfl, ?_, hMm, hMx⟩
      by_cases hM0 : M = []
      · subst hM0; exact .inl ⟨rfl, rfl⟩
      · obtain ⟨_, _, hyc⟩ := hy hM0
        have hM1 : 0 < M.length := List.length_pos_iff.2 hM0
        rw [slp_pos (by omega)]
        exact .inr ⟨y, 0, _, _, true, rfl, hyc, by rw [fm_len ccell_len]; omega, by rw [List.drop_zero]; exact List.take_of_length_le (by rw [fm_len ccell_len]; omega)⟩
theorem move_gives {nn n cc : Nat} {H : Heap} {t : Int} {p : Option Addr} {L : List CA} {pt pv pr : Option Addr} {g : Gram} {cl : List (Option Addr × List (Int × Int))} (hw : WF n H) (ne : NE H nn pt pv pr g cc cl) (ok : RightOK g) (hL : RN 4 ccell H p L) (hx : ∀ z ∈ L, XC H z) (hv : ∀ x ∈ L, GC g x.1) (hl : L.length ≤ 65536) (hls : ∀ z ∈ L, z.1.stack.length ≤ 65536) :
  Gives Tryz.prog 42 [.pointer (some ⟨nn, 0, none⟩), .slice p L.length L.length, .int .i64 t] n H fun w _ H' => ∃ p' M, w = .slice p' M.length M.length ∧ RN 4 ccell H' p' M ∧ M.map (·.1) = moveL g t (L.map (·.1)) ∧ ∀ z ∈ M, XC H' z :=
 move_givesE hw ne ok (fun _ => hL) hx hv hl hls
end Go.Proofs.YtigijncdfkbaoaaGreatDoor
