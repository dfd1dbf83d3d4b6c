/- A part of a proof. Its conditions: none. -/
import Derived.Test.YtfbdababcdfjfaaAmNAtMean
set_option linter.all false
namespace Go.Proofs.Ytfbdababcdfjfaa
open Go.AM Go.AM.Fo
set_option maxRecDepth 100000
theorem GoodS.kx {n n' y : Nat} {H H' : Heap} {p : Option Addr} {X : List WA} {cs : List Value} {ty : TypeId} (h : GoodS H p X) (hw : WF n H) (hy : H y = .cells cs ty true) (h1 : ty ≠ 26) (h2 : ty ≠ 3) (k : Kx (fun z => z = y) n H n' H') : GoodS H' p X := by
 have k1 : ∀ z cs own, H z = .cells cs 26 own → H' z = H z := fun z cs own hz => k.keep z (live_lt hw (live_of hz)) (by rintro rfl; rw [hy] at hz; injection hz with _ e _; exact h1 e)
 have k2 : ∀ z cs own, H z = .cells cs 3 own → H' z = H z := fun z cs own hz => k.keep z (live_lt hw (live_of hz)) (by rintro rfl; rw [hy] at hz; injection hz with _ e _; exact h2 e)
 refine ⟨⟨?_, fun x hx => ⟨?_, fun z kz e => ?_⟩, fun z kz e => ?_⟩, h.nd, h.gw⟩
 ·rcases h.ws.row with h1 | ⟨z, kz, cs, ty, own, e1, e2, e3, e4⟩
  ·exact .inl h1
  ·obtain ⟨cs', own', e5⟩ := h.ws.t z kz e1
   exact .inr ⟨z, kz, cs, ty, own, e1, (k1 z _ _ e5).trans e2, e3, e4⟩
 ·rcases (h.ws.w x hx).1 with h1 | ⟨z, kz, cs, ty, own, e1, e2, e3, e4⟩
  ·exact .inl h1
  ·obtain ⟨cs', own', e5⟩ := (h.ws.w x hx).2 z kz e1
   exact .inr ⟨z, kz, cs, ty, own, e1, (k2 z _ _ e5).trans e2, e3, e4⟩
 ·obtain ⟨cs', own', e5⟩ := (h.ws.w x hx).2 z kz e
  exact ⟨cs', own', (k2 z _ _ e5).trans e5⟩
 ·obtain ⟨cs', own', e5⟩ := h.ws.t z kz e
  exact ⟨cs', own', (k1 z _ _ e5).trans e5⟩
theorem GoodS.nil {H : Heap} {z : Nat} (h : H z = .cells [] 26 true) : GoodS H (some ⟨z, 0, none⟩) [] := ⟨ws_at h (fun x hx => by cases hx), by simp, fun c hc => by simp at hc⟩
theorem flat_set : ∀ {l : List SA} {i : Nat} (h : i < l.length) (x : SA), (l.flatMap scell).set i (.slice x.2 x.1.length x.1.length) = (l.set i x).flatMap scell
 | [], _, h, _ => absurd h (by simp)
 | a :: l, 0, _, x => rfl
 | a :: l, i + 1, h, x => by
  have ih := flat_set (l := l) (i := i) (by simpa using h) x
  have e1 : (a :: l).flatMap scell = .slice a.2 a.1.length a.1.length :: l.flatMap scell := rfl
  have e2 : ((a :: l).set (i + 1) x).flatMap scell = .slice a.2 a.1.length a.1.length :: (l.set i x).flatMap scell := rfl
  rw [e1, e2, List.set_cons_succ, ih]
theorem flat_get : ∀ {l : List SA} {i : Nat} (h : i < l.length), (l.flatMap scell)[i]? = some (.slice l[i].2 l[i].1.length l[i].1.length)
 | [], _, h => absurd h (by simp)
 | a :: l, 0, _ => rfl
 | a :: l, i + 1, h => by
  have ih := flat_get (l := l) (i := i) (by simpa using h)
  have e1 : (a :: l).flatMap scell = .slice a.2 a.1.length a.1.length :: l.flatMap scell := rfl
  rw [e1, List.getElem?_cons_succ, ih]; rfl
structure OfI (H : Heap) (n2 yF yO nv : Nat) (Fs Os : List SA) : Prop where
 box : H n2 = .cells [.int .i64 2, .slice (some ⟨yF, 0, none⟩) nv nv, .slice (some ⟨yO, 0, none⟩) nv nv] 60 true
 f : H yF = .cells (Fs.flatMap scell) 66 true
 o : H yO = .cells (Os.flatMap scell) 66 true
 ne : yF ≠ yO
 lf : Fs.length = nv
 lo : Os.length = nv
 gf : ∀ x ∈ Fs, GoodS H x.2 x.1
 go : ∀ x ∈ Os, GoodS H x.2 x.1
theorem OfI.kp {n n' n2 yF yO nv : Nat} {H H' : Heap} {Fs Os : List SA} (h : OfI H n2 yF yO nv Fs Os) (hw : WF n H) (k : Kp n H n' H') : OfI H' n2 yF yO nv Fs Os :=
 ⟨(k.keep _ (live_lt hw (live_of h.box))).trans h.box, (k.keep _ (live_lt hw (live_of h.f))).trans h.f, (k.keep _ (live_lt hw (live_of h.o))).trans h.o, h.ne, h.lf, h.lo, fun x hx => (h.gf x hx).mono hw k, fun x hx => (h.go x hx).mono hw k⟩
theorem rows_at {H : Heap} {y : Nat} {Fs : List SA} (h : H y = .cells (Fs.flatMap scell) 66 true) (hx : ∀ x ∈ Fs, GoodS H x.2 x.1) : RowS H (some ⟨y, 0, none⟩) Fs :=
 ⟨.inr ⟨y, 0, _, _, true, rfl, h, by rw [fm_len scell_len]; omega, by rw [List.drop_zero]; exact List.take_of_length_le (by rw [fm_len scell_len]; omega)⟩, hx⟩
theorem OfI.rF {n2 yF yO nv : Nat} {H : Heap} {Fs Os : List SA} (h : OfI H n2 yF yO nv Fs Os) : RowS H (some ⟨yF, 0, none⟩) Fs := rows_at h.f h.gf
theorem OfI.rO {n2 yF yO nv : Nat} {H : Heap} {Fs Os : List SA} (h : OfI H n2 yF yO nv Fs Os) : RowS H (some ⟨yO, 0, none⟩) Os := rows_at h.o h.go
theorem OfI.setF {n n2 yF yO nv v : Nat} {H : Heap} {Fs Os : List SA} {Z : List WA} {p : Option Addr} (h : OfI H n2 yF yO nv Fs Os) (hw : WF n H) (hz : GoodS H p Z) (hn : n2 ≠ yF) : OfI (hset H yF (.cells ((Fs.set v (Z, p)).flatMap scell) 66 true)) n2 yF yO nv (Fs.set v (Z, p)) Os := by
 have k : Kx (fun z => z = yF) n H n (hset H yF (.cells ((Fs.set v (Z, p)).flatMap scell) 66 true)) := (Kx.refl _ n H).set _ (.inl rfl) (live_lt hw (live_of h.f))
 have gk : ∀ {p X}, GoodS H p X → GoodS (hset H yF (.cells ((Fs.set v (Z, p)).flatMap scell) 66 true)) p X := fun hg => hg.kx hw h.f (by decide) (by decide) ((Kx.refl _ n H).set _ (.inl rfl) (live_lt hw (live_of h.f)))
 refine ⟨(hset_ne _ _ _ hn).trans h.box, hset_at _ _ _, (hset_ne _ _ _ (Ne.symm h.ne)).trans h.o, h.ne, by rw [List.length_set]; exact h.lf, h.lo, fun x hx => ?_, fun x hx => (h.go x hx).kx hw h.f (by decide) (by decide) k⟩
 rcases List.mem_or_eq_of_mem_set hx with h1 | rfl
 ·exact (h.gf x h1).kx hw h.f (by decide) (by decide) k
 ·exact hz.kx hw h.f (by decide) (by decide) k
theorem OfI.setO {n n2 yF yO nv v : Nat} {H : Heap} {Fs Os : List SA} {Z : List WA} {p : Option Addr} (h : OfI H n2 yF yO nv Fs Os) (hw : WF n H) (hz : GoodS H p Z) (hn : n2 ≠ yO) : OfI (hset H yO (.cells ((Os.set v (Z, p)).flatMap scell) 66 true)) n2 yF yO nv Fs (Os.set v (Z, p)) := by
 have k : Kx (fun z => z = yO) n H n (hset H yO (.cells ((Os.set v (Z, p)).flatMap scell) 66 true)) := (Kx.refl _ n H).set _ (.inl rfl) (live_lt hw (live_of h.o))
 refine ⟨(hset_ne _ _ _ hn).trans h.box, (hset_ne _ _ _ h.ne).trans h.f, hset_at _ _ _, h.ne, h.lf, by rw [List.length_set]; exact h.lo, fun x hx => (h.gf x hx).kx hw h.o (by decide) (by decide) k, fun x hx => ?_⟩
 rcases List.mem_or_eq_of_mem_set hx with h1 | rfl
 ·exact (h.go x h1).kx hw h.o (by decide) (by decide) k
 ·exact hz.kx hw h.o (by decide) (by decide) k
theorem setP_set {Fs : List SA} {v : Nat} (hv : v < Fs.length) (x : SA) (s : Int) (c : List Int) : setP (Fs.set v x) s c ↔ if s.toNat = v then c ∈ x.1.map (·.1) else setP Fs s c := by
 unfold setP
 by_cases h : s.toNat = v
 ·rw [if_pos h, h, List.getElem?_set_self hv]
  constructor
  ·rintro ⟨y, hy, hc⟩; cases hy; exact hc
  ·intro hc; exact ⟨x, rfl, hc⟩
 ·rw [if_neg h, List.getElem?_set_ne (Ne.symm h)]
theorem setP_same {Fs : List SA} {v : Nat} (hv : v < Fs.length) {Z : List WA} {p : Option Addr} (h : ∀ c, c ∈ Z.map (·.1) ↔ c ∈ Fs[v].1.map (·.1)) : setP (Fs.set v (Z, p)) = setP Fs := by
 funext s c
 apply propext
 rw [setP_set hv]
 split
 ·rename_i e
  unfold setP
  rw [e, List.getElem?_eq_getElem hv]
  constructor
  ·intro hc; exact ⟨_, rfl, (h c).1 hc⟩
  ·rintro ⟨y, hy, hc⟩; cases hy; exact (h c).2 hc
 ·exact Iff.rfl
theorem SoundS.setF {g : Gram} {Fs Os : List SA} {v : Nat} {Z : List WA} {p : Option Addr} (h : SoundS g Fs Os) (hv : v < Fs.length) (hz : ∀ c ∈ Z.map (·.1), ∃ d w, Dv g [(v : Int)] d w ∧ c = w.take 2) : SoundS g (Fs.set v (Z, p)) Os :=
 ⟨fun u x hx c hc => by
  by_cases e : v = u
  ·subst e; rw [List.getElem?_set_self hv] at hx; cases hx; exact hz c hc
  ·rw [List.getElem?_set_ne e] at hx; exact h.f u x hx c hc, h.o⟩
theorem SoundS.setO {g : Gram} {Fs Os : List SA} {v : Nat} {Z : List WA} {p : Option Addr} (h : SoundS g Fs Os) (hv : v < Os.length) (hz : ∀ c ∈ Z.map (·.1), ∃ F d u, Cx g (v : Int) F ∧ Dv g F d u ∧ c = u.take 2) : SoundS g Fs (Os.set v (Z, p)) :=
 ⟨h.f, fun u x hx c hc => by
  by_cases e : v = u
  ·subst e; rw [List.getElem?_set_self hv] at hx; cases hx; exact hz c hc
  ·rw [List.getElem?_set_ne e] at hx; exact h.o u x hx c hc⟩
end Go.Proofs.Ytfbdababcdfjfaa

namespace Go.Proofs.Ytfbdababcdfjfaa
open Go.AM Go.AM.Fo
set_option maxRecDepth 100000
def OfQ (g : Gram) (v : Value) (H : Heap) : Prop := (∃ pF pO, v = .tuple #[sagg pF pO g.vars.length g.vars.length, .bool false]) ∨
 ∃ (yF yO : Nat) (Fs Os : List SA), v = .tuple #[sagg (some ⟨yF, 0, none⟩) (some ⟨yO, 0, none⟩) g.vars.length g.vars.length, .bool true] ∧ RowS H (some ⟨yF, 0, none⟩) Fs ∧ RowS H (some ⟨yO, 0, none⟩) Os ∧ Fs.length = g.vars.length ∧ Os.length = g.vars.length ∧ SoundS g Fs Os ∧ ClosedS g Fs Os
def ItF (g : Gram) (Fs : List SA) (i : Nat) : Prop := ∀ c, aheadP (setP Fs) (rgt g i) (fun c => c = []) c → setP Fs (lft g i) c
def ItO (g : Gram) (Fs Os : List SA) (i j : Nat) : Prop := ∀ (hj : j < (rgt g i).length), 0 ≤ (rgt g i)[j] → ∀ c, aheadP (setP Fs) ((rgt g i).drop (j + 1)) (setP Os (lft g i)) c → setP Os (rgt g i)[j] c
def OfL (g : Gram) (H3 : Heap) (n most yF yO : Nat) (b : Int) (Fs Os : List SA) (s : St) : Prop :=
 Kx (fun z => z = n + 1 + 1 ∨ n + 1 + 1 + 1 ≤ z) (n + 1 + 1 + 1) H3 s.n s.H ∧ OfI s.H (n + 1 + 1) yF yO g.vars.length Fs Os ∧ n + 1 + 1 + 1 ≤ yF ∧ yF < s.n ∧ n + 1 + 1 + 1 ≤ yO ∧ yO < s.n ∧
  s.f 3 = .pointer (some ⟨n, 0, none⟩) ∧ s.f 6 = .pointer (some ⟨n + 1, 0, none⟩) ∧ s.f 8 = .pointer (some ⟨n + 1 + 1, 0, none⟩) ∧ s.f 2 = .int .i64 (most : Nat) ∧ s.f 10 = .int .i64 b ∧ b ≤ ((wsum Fs + wsum Os : Nat) : Int) ∧ SoundS g Fs Os ∧ setP Os 0 []
theorem res_of {f : Fr} {n : Nat} {H : Heap} {x : Nat} {cs : List Value} {ty : TypeId} {own : Bool} {t : Value} (hf : f 6 = .pointer (some ⟨x, 0, none⟩)) (ht : f 7 = t) (h : H x = .cells cs ty own) (hl : cs.length = 3) : aresultsL Try.prog ⟨f, n, H⟩ Try.f23.results.toList = some [.agg cs.toArray, t] := by
 have e : Try.f23.results.toList = [.cell 6 60, .tmp 7] := rfl
 have h1 : aggT Try.prog 60 = some true := by kernel_rfl
 have h2 : Try.prog.cellsOf 60 = 3 := by kernel_rfl
 have hL : aload Try.prog 60 H (.pointer (some ⟨x, 0, none⟩)) = some { v := .agg cs.toArray, rd := [x] } := by
  unfold aload
  simp only [h, h1, h2]
  rw [if_pos (by omega), List.drop_zero, List.take_of_length_le (by omega)]
 rw [e]
 unfold aresultsL aresult
 simp only [hf, hL]
 unfold aresultsL aresult
 simp only [ht]
 rfl
theorem eps_good {H : Heap} {z1 z2 : Nat} (h1 : H z1 = .cells [.slice (some ⟨z2, 0, none⟩) 0 0] 26 true) (h2 : H z2 = .cells [] 3 true) : GoodS H (some ⟨z1, 0, none⟩) [(([] : List Int), (some ⟨z2, 0, none⟩ : Option Addr))] := by
 refine ⟨ws_at h1 fun x hx => ?_, by simp, fun c hc => ?_⟩
 ·rw [List.mem_singleton] at hx
  rw [hx]; exact wd_own h2
 ·simp at hc; subst hc; exact ⟨by simp, fun t ht => by cases ht⟩
theorem OfI.kx {n n' y n2 yF yO nv : Nat} {H H' : Heap} {Fs Os : List SA} {cs : List Value} (h : OfI H n2 yF yO nv Fs Os) (hw : WF n H) (hy : H y = .cells cs 60 true) (hne : n2 ≠ y) (k : Kx (fun z => z = y) n H n' H') : OfI H' n2 yF yO nv Fs Os := by
 have kk : ∀ z cs ty own, H z = .cells cs ty own → ty ≠ 60 → H' z = H z := fun z cs ty own hz ht => k.keep z (live_lt hw (live_of hz)) (by rintro rfl; rw [hy] at hz; injection hz with _ e _; exact ht e.symm)
 exact ⟨(k.keep _ (live_lt hw (live_of h.box)) hne).trans h.box, (kk _ _ _ _ h.f (by decide)).trans h.f, (kk _ _ _ _ h.o (by decide)).trans h.o, h.ne, h.lf, h.lo, fun x hx => (h.gf x hx).kx hw hy (by decide) (by decide) k, fun x hx => (h.go x hx).kx hw hy (by decide) (by decide) k⟩
theorem RA.dropN {H : Heap} {z kz : Nat} {l : List Int} (h : RA (Value.int .i64) H (some ⟨z, kz, none⟩) l) (j : Nat) : RA (Value.int .i64) H (some ⟨z, kz + j, none⟩) (l.drop j) := by
 intro hne
 obtain ⟨x, k, cs, ty, own, e1, e2, e3⟩ := h (by rintro rfl; simp at hne)
 cases e1
 refine ⟨z, kz + j, cs, ty, own, rfl, e2, fun i y hi => ?_⟩
 rw [List.getElem?_drop] at hi
 rw [Nat.add_assoc]
 exact e3 _ _ hi
theorem setP_at {Fs : List SA} {v : Nat} (hv : v < Fs.length) (c : List Int) : setP Fs (v : Int) c ↔ c ∈ Fs[v].1.map (·.1) := by
 unfold setP
 rw [Int.toNat_natCast, List.getElem?_eq_getElem hv]
 constructor
 ·rintro ⟨x, hx, hc⟩; cases hx; exact hc
 ·intro hc; exact ⟨_, rfl, hc⟩
theorem good_both {H : Heap} {p' : Option Addr} {X Y Z : List WA} (hn : (X.map (·.1)).Nodup) (hX : ∀ c ∈ X.map (·.1), GW c) (hY : ∀ c ∈ Y.map (·.1), GW c) (hZ : WS H p' Z) (h : BothS X Y Z) : GoodS H p' Z :=
 ⟨hZ, h.nd hn, fun c hc => ((h.mem c).1 hc).elim (hX c) (hY c)⟩
theorem stepF {g : Gram} {Fs Os : List SA} {i ln W : Nat} {Z Z2 : List WA} {p q : Option Addr} (hs : SoundS g Fs Os) (hi : i < g.rules.length) (hl : lft g i = (ln : Int)) (hln : ln < Fs.length)
  (hZ : ∀ c, c ∈ Z.map (·.1) ↔ aheadP (setP Fs) (rgt g i) (fun c => c ∈ ([(([] : List Int), q)] : List WA).map (·.1)) c) (hB : BothS Fs[ln].1 Z Z2) (hW : (W : Int) ≤ ((wsum Fs + wsum Os : Nat) : Int)) (hit : wsum Fs + wsum Os = W → ∀ i' < i, ItF g Fs i' ∧ ∀ j, ItO g Fs Os i' j) :
  SoundS g (Fs.set ln (Z2, p)) Os ∧ (W : Int) ≤ ((wsum (Fs.set ln (Z2, p)) + wsum Os : Nat) : Int) ∧ (wsum (Fs.set ln (Z2, p)) + wsum Os = W → (∀ i' < i, ItF g (Fs.set ln (Z2, p)) i' ∧ ∀ j, ItO g (Fs.set ln (Z2, p)) Os i' j) ∧ ItF g (Fs.set ln (Z2, p)) i) := by
 have hE : (fun c => c ∈ ([(([] : List Int), q)] : List WA).map (·.1)) = fun c => c = [] := by funext c; simp
 rw [hE] at hZ
 have hsum := wsum_set hln ((Z2, p) : SA)
 have hle := hB.le
 simp only at hsum
 refine ⟨hs.setF hln fun c hc => ?_, by omega, fun he => ?_⟩
 ·rcases (hB.mem c).1 hc with h | h
  ·exact hs.f ln _ (List.getElem?_eq_getElem hln) c h
  ·obtain ⟨d, w, b, h1, rfl, rfl⟩ := aheadP_sound hs.fP ((hZ c).1 h)
   rw [← hl]
   exact ⟨_, w, Dv.one hi h1, by rw [List.append_nil, List.take_take, Nat.min_self]⟩
 ·have hsub := hB.sub (by omega)
  have heq : setP (Fs.set ln (Z2, p)) = setP Fs := setP_same hln fun c => ⟨fun hc => ((hB.mem c).1 hc).elim id (hsub c), fun hc => (hB.mem c).2 (.inl hc)⟩
  have ho := hit (by omega)
  unfold ItF ItO at *
  rw [heq]
  refine ⟨ho, fun c hc => ?_⟩
  rw [hl, setP_at hln]
  exact hsub c ((hZ c).2 hc)
theorem stepO {g : Gram} {Fs Os : List SA} {i j ln sn W : Nat} {Z Z2 : List WA} {p : Option Addr} (hs : SoundS g Fs Os) (hi : i < g.rules.length) (hl : lft g i = (ln : Int)) (hln : ln < Os.length) (hj : j < (rgt g i).length) (hsn : (rgt g i)[j] = (sn : Int)) (hsl : sn < Os.length)
  (hZ : ∀ c, c ∈ Z.map (·.1) ↔ aheadP (setP Fs) ((rgt g i).drop (j + 1)) (fun c => c ∈ Os[ln].1.map (·.1)) c) (hB : BothS Os[sn].1 Z Z2) (hW : (W : Int) ≤ ((wsum Fs + wsum Os : Nat) : Int)) (h00 : setP Os 0 [])
  (hit : wsum Fs + wsum Os = W → (∀ i' < i, ItF g Fs i' ∧ ∀ j, ItO g Fs Os i' j) ∧ ItF g Fs i ∧ ∀ j' < j, ItO g Fs Os i j') :
  SoundS g Fs (Os.set sn (Z2, p)) ∧ (W : Int) ≤ ((wsum Fs + wsum (Os.set sn (Z2, p)) : Nat) : Int) ∧ setP (Os.set sn (Z2, p)) 0 [] ∧ (wsum Fs + wsum (Os.set sn (Z2, p)) = W → (∀ i' < i, ItF g Fs i' ∧ ∀ j, ItO g Fs (Os.set sn (Z2, p)) i' j) ∧ ItF g Fs i ∧ ∀ j' < j + 1, ItO g Fs (Os.set sn (Z2, p)) i j') := by
 have hE : (fun c => c ∈ Os[ln].1.map (·.1)) = setP Os (lft g i) := by funext c; exact propext (by rw [hl, setP_at hln])
 rw [hE] at hZ
 have hsum := wsum_set hsl ((Z2, p) : SA)
 have hle := hB.le
 simp only at hsum
 refine ⟨hs.setO hsl fun c hc => ?_, by omega, ?_, fun he => ?_⟩
 ·rcases (hB.mem c).1 hc with h | h
  ·exact hs.o sn _ (List.getElem?_eq_getElem hsl) c h
  ·obtain ⟨d, w, b, h1, h2, rfl⟩ := aheadP_sound hs.fP ((hZ c).1 h)
   obtain ⟨F, e, u, h3, h4, rfl⟩ := hs.oP _ b (by omega) h2
   refine ⟨_, d ++ e, w ++ u, ?_, h1.append h4, take2 w u⟩
   rw [← hsn]
   exact .sub hi hj h3
 ·rw [setP_set hsl]
  split
  ·rename_i h0
   obtain rfl : 0 = sn := h0
   exact (hB.mem _).2 (.inl ((setP_at hsl []).1 h00))
  ·exact h00
 ·have hsub := hB.sub (by omega)
  have heq : setP (Os.set sn (Z2, p)) = setP Os := setP_same hsl fun c => ⟨fun hc => ((hB.mem c).1 hc).elim id (hsub c), fun hc => (hB.mem c).2 (.inl hc)⟩
  obtain ⟨ho1, ho2, ho3⟩ := hit (by omega)
  unfold ItO at *
  rw [heq]
  refine ⟨ho1, ho2, fun j' hj' => ?_⟩
  by_cases e : j' = j
  ·subst e
   intro _ h0 c hc
   rw [hsn, setP_at hsl]
   exact hsub c ((hZ c).2 hc)
  ·exact ho3 j' (by omega)
end Go.Proofs.Ytfbdababcdfjfaa
