/- A part of a proof. Its conditions: none. -/
import Derived.Test.YtjlgpanihjnaeaaGreatDoorAmXFacts
import Derived.Test.YtjlgpanihjnaeaaGreatDoorAmD
import Derived.Test.YtjlgpanihjnaeaaGreatDoorAmC
set_option linter.all false
namespace Go.Proofs.YtjlgpanihjnaeaaGreatDoor
open Go.AM
set_option maxRecDepth 100000
def tabOK(T:ByteArray)(L:Nat→Nat)(N:Nat):Bool:=(List.range N).all fun i=>match T[i]? with
 | some b=>b.toNat == L i
 | none=>false
theorem w3_tab{k:Fr→Nat→Heap→Prop}{f:Fr}{d:Option Nat}{n:Nat}{H:Heap}{T:ByteArray}(L:Nat→Nat)(N:Nat)(i:Nat)(hT:tabOK T L N=true)(hi:i<N)(h:w3 k f d n H (some { v:=.int .u8 (L i:Nat) })) :
  w3 k f d n H (tix2 (T[i]?)):=by
 unfold tabOK at hT
 have:=List.all_eq_true.1 hT i (by simpa using hi)
 split at this
 ·rename_i b hb
  rw[hb]
  have e:b.toNat=L i:=by simpa using this
  show w3 k f d n H (some { v:=.int .u8 (b.toNat:Nat) })
  rw[e];exact h
 ·cases this
def lenN(x:Nat):Nat:=if x=0 then 0 else x.log2+1
theorem lenN_small:∀x,x<256→lenN x≤8:=by
 intro x h
 by_cases h0:x=0
 ·subst h0;unfold lenN;simp
 ·have:=(Nat.log2_lt h0).2 (show x<2 ^ 8 by omega)
  unfold lenN;rw[if_neg h0];omega
theorem wrap_u8n(x:Nat)(h:x<256):IntKind.u8.wrap (x:Int)=(x:Int):=by rw[wrap_u8];omega
theorem lens_gives(x:Nat)(hx:x<256)(n:Nat)(H:Heap):Gives Tryz.prog 94 [.int .u64 x] n H fun v n' H'=>(∃k:Nat,v=.int .i64 (k:Nat))∧n'=n∧H'=H:=by
 refine Gives.of orders ok94 (Nat.le_of_ble_eq_true rfl) ?_
 have min32:min 32 IntKind.u64.bits=32:=rfl
 have min16:min 16 IntKind.u64.bits=16:=rfl
 have min8:min 8 IntKind.u64.bits=8:=rfl
 have h0i:((4294967296:Int)≤((x:Nat):Int))=False:=by simp only[eq_iff_iff,iff_false];omega
 have h1i:((65536:Int)≤((x:Nat):Int))=False:=by simp only[eq_iff_iff,iff_false];omega
 have h2i:((256:Int)≤((x:Nat):Int))=False:=by simp only[eq_iff_iff,iff_false];omega
 have h0:¬4294967296≤x:=by omega
 have h1:¬65536≤x:=by omega
 have h2:¬256≤x:=by omega
 repeat (first|refine qqm rfl ?_|((first|refine qqr ?_|refine qqt ?_);simp only[SS,qx42,vconv,simprocAttr,min32,min16,min8,h0i,h0,h1i,h1,h2i,h2,ff_94]))
 have hw8:=wrap_u8n x (by omega)
 simp only[hw8,Int.toNat_natCast]
 refine w3_tab lenN 256 _ (by kernel_rfl) (by omega) ?_
 have hb:=lenN_small x hx
 have hwl:IntKind.wrap .i64 ((lenN x:Nat):Int)=((lenN x:Nat):Int):=by rw[wrap_in (by omega) (by omega)]
 have hww:IntKind.wrap .i64 (0+((lenN x:Nat):Int))=((lenN x:Nat):Int):=by rw[wrap_in (by omega) (by omega)];omega
 have hww':IntKind.wrap .i64 (((0:Nat):Int)+((lenN x:Nat):Int))=((lenN x:Nat):Int):=by rw[wrap_in (by omega) (by omega)];omega
 simp only[SS,qx42,vconv,simprocAttr,hwl,hww,hww',ff_94]
 repeat (first|refine qqm rfl ?_|((first|refine qqr ?_|refine qqt ?_);simp only[SS,qx42,vconv,simprocAttr,hwl,hww,hww',ff_94]))
 first|refine qqf ?_ ?_|refine qqg ?_ ?_
 ·exact fun _ _=>rfl
 ·simp only[packed,qv,Nat.reduceEqDiff,↓reduceIte,ff_94]
  exact⟨⟨_,rfl⟩,trivial,trivial⟩
theorem blen_gives(x:Nat)(hx:x<256)(n:Nat)(H:Heap):Gives Tryz.prog 70 [.int .u64 x] n H fun v n' H'=>(∃k:Nat,v=.int .i64 (k:Nat))∧n'=n∧H'=H:=by
 refine Gives.of orders ok70 (Nat.le_of_ble_eq_true rfl) ?_
 repeat (first|refine qqm rfl ?_|((first|refine qqr ?_|refine qqt ?_);simp only[SS,qg0,tor,vconv,simprocAttr,ff_70]))
 refine AtCall.by (lens_gives x hx _ _) ?_
 rintro v n' H' hk' ⟨⟨k,rfl⟩,rfl,rfl⟩
 simp only[SS,qg0,tor,vconv,simprocAttr,ff_70]
 repeat (first|refine qqm rfl ?_|((first|refine qqr ?_|refine qqt ?_);simp only[SS,qg0,tor,vconv,simprocAttr,ff_70]))
 first|refine qqf ?_ ?_|refine qqg ?_ ?_
 ·exact fun _ _=>rfl
 ·simp only[packed,qv,Nat.reduceEqDiff,↓reduceIte,ff_70]
  exact⟨⟨_,rfl⟩,trivial,trivial⟩
end Go.Proofs.YtjlgpanihjnaeaaGreatDoor

namespace Go.Proofs.YtjlgpanihjnaeaaGreatDoor
open Go.AM Go.RowKit
set_option maxRecDepth 100000
theorem isnan_gives(a:Int)(n:Nat)(H:Heap):Gives Tryz.prog 101 [.int .i64 a] n H fun v n' H'=>v=.bool false∧n'=n∧H'=H:=by
 refine Gives.of orders ok101 (Nat.le_of_ble_eq_true rfl) ?_
 repeat (first|refine qqm rfl ?_|((first|refine qqr ?_|refine qqt ?_);simp only[SS,qx11,simprocAttr,ff_101]))
 first|refine qqf ?_ ?_|refine qqg ?_ ?_
 ·exact fun _ _=>rfl
 ·simp only[packed,qv,Nat.reduceEqDiff,↓reduceIte,ff_101]
  simp
theorem lessI_gives(a b:Int)(n:Nat)(H:Heap):Gives Tryz.prog 90 [.int .i64 a,.int .i64 b] n H fun v n' H'=>v=.bool (decide (a<b))∧n'=n∧H'=H:=by
 refine Gives.of orders ok90 (Nat.le_of_ble_eq_true rfl) ?_
 repeat (first|refine qqm rfl ?_|((first|refine qqr ?_|refine qqt ?_);simp only[SS,qx1,vun,simprocAttr]))
 refine AtCall.by (isnan_gives a _ _) ?_
 rintro v n' H' hk' ⟨rfl,rfl,rfl⟩
 by_cases h:a<b
 ·simp only[SS,qx1,vun,simprocAttr,h]
  repeat (first|refine qqm rfl ?_|((first|refine qqr ?_|refine qqt ?_);simp only[SS,qx1,vun,simprocAttr,h]))
  first|refine qqf ?_ ?_|refine qqg ?_ ?_
  ·exact fun _ _=>rfl
  ·simp only[packed,qv,Nat.reduceEqDiff,↓reduceIte,h,decide_true]
   simp
 ·simp only[SS,qx1,vun,simprocAttr,h]
  repeat (first|refine qqm rfl ?_|((first|refine qqr ?_|refine qqt ?_);simp only[SS,qx1,vun,simprocAttr,h]))
  first|refine qqf ?_ ?_|refine qqg ?_ ?_
  ·exact fun _ _=>rfl
  ·simp only[packed,qv,Nat.reduceEqDiff,↓reduceIte,h,decide_false]
   simp
def le2(l:List Int):Prop:=l.Pairwise (· ≤ ·)
theorem swap_cells{s1 s2 rest:List Int}{z x:Int}:((((s1++[z])++x::(s2++rest)).map (Value.int .i64)).set (s1.length+1) (.int .i64 z)).set s1.length (.int .i64 x)=(s1++x::(z::s2++rest)).map (Value.int .i64):=by
 simp[List.set_append]
theorem at_x{s1 s2:List Int}{x:Int}:((s1++x::s2).map (Value.int .i64))[s1.length]? = some (.int .i64 x):=by simp
theorem at_z{s1 s2:List Int}{z:Int}:(((s1++[z])++s2).map (Value.int .i64))[s1.length]? = some (.int .i64 z):=by simp
set_option maxHeartbeats 8000000 in
theorem inser_gives {y n : Nat} {H : Heap} {l : List Int} (hy : H y = .cells (l.map (Value.int .i64)) 3 true) (hyn : y < n) (hl : l.length ≤ 1000000) :
    GivesX Tryz.prog (fun z => z = y) 84 [.slice (some ⟨y, 0, none⟩) l.length l.length, .int .i64 0, .int .i64 (l.length : Nat)] n H fun _ n' H' => n' = n ∧ (∀ z, z ≠ y → H' z = H z) ∧ ∃ l', H' y = .cells (l'.map (Value.int .i64)) 3 true ∧ l'.Perm l ∧ le2 l' := by
  refine GivesX.of orders ok84 (Nat.le_of_ble_eq_true rfl) ?_
  have w01 : IntKind.wrap .i64 (0 + 1) = 1 := rfl
  repeat (first | refine qqm rfl ?_ | ((first | refine qqr ?_ | refine qqt ?_); simp only [SS, qx12, simprocAttr, w01, ff_84]))
  refine WK.loop (fun k s => ∃ (i : Nat) (c : List Int), s.n = n ∧ (∀ z, z ≠ y → s.H z = H z) ∧ s.H y = .cells (c.map (Value.int .i64)) 3 true ∧ c.Perm l ∧ le2 (c.take i) ∧ 1 ≤ i ∧ s.f 0 = .slice (some ⟨y, 0, none⟩) l.length l.length ∧ s.f 1 = .int .i64 0 ∧ s.f 2 = .int .i64 (l.length : Nat) ∧ s.f 6 = .int .i64 (i : Nat) ∧ k = l.length - i) (l.length - 1) ?_ ?_
  · exact ⟨1, l, rfl, fun _ _ => rfl, hy, .refl _, by
      cases l with
      | nil => exact List.Pairwise.nil
      | cons a l => simp [le2], Nat.le_refl _, rfl, rfl, rfl, rfl, rfl⟩
  rintro k ⟨f, n1, H1⟩ ⟨i, c, rfl, hne, hy1, hp, hs, hi1, f0, f1, f2, f6, rfl⟩ ih
  simp only at f0 f1 f2 f6 hne hy1 ih
  have hcl : c.length = l.length := hp.length_eq
  by_cases hlt : i < l.length
  · repeat (first | refine qqm rfl ?_ | ((first | refine qqr ?_ | refine qqt ?_); simp only [SS, qx12, simprocAttr, f0, f1, f2, f6, hlt, ff_84]))
    have hsp : c = c.take i ++ c[i] :: (([] : List Int) ++ c.drop (i + 1)) := by
      rw [List.nil_append, ← List.drop_eq_getElem_cons (by omega), List.take_append_drop]
    refine WK.loop (fun k s => ∃ (s1 s2 : List Int), s.n = n1 ∧ (∀ z, z ≠ y → s.H z = H z) ∧ s.H y = .cells ((s1 ++ c[i] :: (s2 ++ c.drop (i + 1))).map (Value.int .i64)) 3 true ∧ s1.length + s2.length = i ∧ s1 ++ s2 = c.take i ∧ (∀ z ∈ s2, c[i] < z) ∧ s.f 0 = .slice (some ⟨y, 0, none⟩) l.length l.length ∧ s.f 1 = .int .i64 0 ∧ s.f 2 = .int .i64 (l.length : Nat) ∧ s.f 6 = .int .i64 (i : Nat) ∧ s.f 7 = .int .i64 (s1.length : Nat) ∧ k = s1.length) i ?_ ?_
    · have hti : (c.take i).length = i := by rw [List.length_take]; omega
      refine ⟨c.take i, [], rfl, hne, by rw [← hsp]; exact hy1, by simp; omega, by simp, fun z hz => (by cases hz), f0, f1, f2, f6, ?_, hti.symm⟩
      rw [hti]; rfl
    clear f0 f1 f2 f6
    rintro k ⟨f, n2, H2⟩ ⟨s1, s2, rfl, hne2, hy2, hss, hst, hlt2, f0, f1, f2, f6, f7, rfl⟩ ih2
    simp only at f0 f1 f2 f6 f7 hne2 hy2 ih2
    have hperm : (s1 ++ c[i] :: (s2 ++ c.drop (i + 1))).Perm l := by
      refine .trans ?_ hp
      conv => rhs; rw [hsp, List.nil_append, ← hst]
      rw [List.append_assoc]
      exact (List.perm_middle (l₁ := s2) (l₂ := c.drop (i + 1)) (a := c[i])).symm.append_left s1
    generalize hxe : c[i] = x at *
    have htk : (s1 ++ x :: (s2 ++ c.drop (i + 1))).take (i + 1) = s1 ++ x :: s2 := by
      have : (s1 ++ x :: s2).length = i + 1 := by simp; omega
      have e : s1 ++ x :: (s2 ++ c.drop (i + 1)) = (s1 ++ x :: s2) ++ c.drop (i + 1) := by simp
      rw [e, List.take_append_of_le_length (by omega), List.take_of_length_le (by omega)]
    have hwi : IntKind.wrap .i64 ((i : Int) + 1) = ((i + 1 : Nat) : Int) := by rw [wrap_in (by omega) (by omega)]; rfl
    unfold le2 at hs
    rw [← hst, List.pairwise_append] at hs
    obtain ⟨p1, p2, p3⟩ := hs
    have hend : (∀ z ∈ s1, z ≤ x) → le2 (s1 ++ x :: s2) := fun h => by
      unfold le2
      rw [List.pairwise_append, List.pairwise_cons]
      exact ⟨p1, ⟨fun z hz => Int.le_of_lt (hlt2 z hz), p2⟩, fun a ha b hb => by
        rcases List.mem_cons.1 hb with rfl | hb
        · exact h a ha
        · exact p3 a ha b hb⟩
    rcases List.eq_nil_or_concat s1 with rfl | ⟨s1', z, hz⟩
    · have h00 : ((0 : Int) < ((0 : Nat) : Int)) = False := by simp
      repeat (first | refine qqm rfl ?_ | ((first | refine qqr ?_ | refine qqt ?_); simp only [SS, qx12, simprocAttr, f0, f1, f2, f6, f7, List.length_nil, h00, hwi, ff_84]))
      refine ih (l.length - (i + 1)) (by omega) _ ?_
      refine ⟨i + 1, _, rfl, hne2, hy2, hperm, ?_, by omega, f0, f1, f2, rfl, rfl⟩
      rw [htk]; exact hend fun z hz => (by cases hz)
    · rw [List.concat_eq_append] at hz
      subst hz
      have hlen : (s1' ++ [z]).length = s1'.length + 1 := by simp
      rw [hlen] at f7 ih2 hss
      have h01 : ((0 : Int) < ((s1'.length + 1 : Nat) : Int)) = True := eq_true (by omega)
      have hw1 : IntKind.wrap .i64 (((s1'.length + 1 : Nat) : Int) - 1) = (s1'.length : Int) := by rw [wrap_in (by omega) (by omega)]; omega
      have a1 := at_x (s1 := s1' ++ [z]) (s2 := s2 ++ c.drop (i + 1)) (x := x)
      rw [hlen] at a1
      have a2 := at_z (s1 := s1') (s2 := x :: (s2 ++ c.drop (i + 1))) (z := z)
      have b1 : s1'.length + 1 < l.length := by omega
      have b2 : s1'.length < l.length := by omega
      have hsw := swap_cells (s1 := s1') (s2 := s2) (rest := c.drop (i + 1)) (z := z) (x := x)
      repeat (first | refine qqm rfl ?_ | ((first | refine qqr ?_ | refine qqt ?_); simp only [SS, qx12, simprocAttr, f0, f1, f2, f6, f7, h01, hw1, hy2, a1, a2, b1, b2, Nat.zero_add, ff_84]))
      refine AtCall.by (lessI_gives _ _ _ _) ?_
      rintro v n3 H3 hk3 ⟨rfl, rfl, rfl⟩
      by_cases hxz : x < z
      · have hLC : s1'.length + 1 + 1 ≤ (((s1' ++ [z]) ++ x :: (s2 ++ c.drop (i + 1))).map (Value.int .i64)).length := by simp; omega
        have hLC2 : s1'.length + 1 ≤ ((((s1' ++ [z]) ++ x :: (s2 ++ c.drop (i + 1))).map (Value.int .i64)).set (s1'.length + 1) (.int .i64 z)).length := by simp <;> omega
        have hE1 := hset_at H3 y (.cells ((((s1' ++ [z]) ++ x :: (s2 ++ c.drop (i + 1))).map (Value.int .i64)).set (s1'.length + 1) (.int .i64 z)) 3 true)
        simp only [SS, qx12, simprocAttr, hxz, ff_84]
        repeat (first | refine qqm rfl ?_ | ((first | refine qqr ?_ | refine qqt ?_); simp only [SS, qx12, simprocAttr, f0, f1, f2, f6, f7, hw1, hy2, a1, a2, b1, b2, Nat.zero_add, hLC, hLC2, hE1, hsw, ff_84]))
        refine ih2 s1'.length (by omega) _ ?_
        refine ⟨s1', z :: s2, rfl, fun q hq => (hset_ne _ _ _ hq).trans (hne2 q hq), hset_at _ _ _, by simp; omega, ?_, fun q hq => ?_, f0, f1, f2, f6, rfl, rfl⟩
        · rw [← hst]; simp
        · rcases List.mem_cons.1 hq with rfl | hq
          · exact hxz
          · exact hlt2 q hq
      · simp only [SS, qx12, simprocAttr, hxz, ff_84]
        repeat (first | refine qqm rfl ?_ | ((first | refine qqr ?_ | refine qqt ?_); simp only [SS, qx12, simprocAttr, f0, f1, f2, f6, f7, hwi, ff_84]))
        refine ih (l.length - (i + 1)) (by omega) _ ?_
        refine ⟨i + 1, _, rfl, hne2, hy2, hperm, ?_, by omega, f0, f1, f2, rfl, rfl⟩
        rw [htk]
        refine hend fun a ha => ?_
        rcases List.mem_append.1 ha with h | h
        · exact Int.le_trans ((List.pairwise_append.1 p1).2.2 a h z (by simp)) (by omega)
        · simp at h; omega
  · have hie : l.length ≤ i := by omega
    repeat (first | refine qqm rfl ?_ | ((first | refine qqr ?_ | refine qqt ?_); simp only [SS, qx12, simprocAttr, f0, f1, f2, f6, hlt, ff_84]))
    first | refine qqf ?_ ?_ | refine qqg ?_ ?_
    · exact fun z _ hz => hne z hz
    · simp only [packed, qv, Nat.reduceEqDiff, ↓reduceIte, ff_84]
      refine ⟨trivial, hne, c, hy1, hp, ?_⟩
      rw [List.take_of_length_le (by omega)] at hs
      exact hs
set_option maxHeartbeats 4000000 in
theorem sort_gives{y n:Nat}{H:Heap}{l:List Int}(hy:H y=.cells (l.map (Value.int .i64)) 3 true)(hyn:y<n)(hl:l.length≤12) :
  GivesX Tryz.prog (fun z=>z=y) 52 [.slice (some ⟨y,0,none⟩) l.length l.length] n H fun _ n' H'=>n'=n∧(∀z,z≠y→H' z=H z)∧∃l',H' y=.cells (l'.map (Value.int .i64)) 3 true∧l'.Perm l∧le2 l':=by
 refine GivesX.of orders ok52 (Nat.le_of_ble_eq_true rfl) ?_
 have hcv:IntKind.wrap .u64 (l.length:Int)=((l.length:Nat):Int):=by rw[wrap_u64n,Nat.mod_eq_of_lt (by omega)]
 repeat (first|refine qqm rfl ?_|((first|refine qqr ?_|refine qqt ?_);simp only[SS,qx44,vconv,simprocAttr,hcv,ff_52]))
 refine AtCall.by (blen_gives l.length (by omega) _ _) ?_
 rintro v n1 H1 hk1 ⟨⟨k,rfl⟩,rfl,rfl⟩
 simp only[SS,qx44,vconv,simprocAttr,ff_52]
 refine AtCall.byX (Q:=fun _ n' H'=>n'=n1∧(∀z,z≠y→H' z=H1 z)∧∃l',H' y=.cells (l'.map (Value.int .i64)) 3 true∧l'.Perm l∧le2 l') (X:=fun z=>z=y) ?_ ?_
 ·refine GivesX.of orders ok69 (Nat.le_of_ble_eq_true rfl) ?_
  have hs0:IntKind.wrap .i64 ((l.length:Int) - 0)=(l.length:Int):=by rw[wrap_in (by omega) (by omega)];omega
  have h12:((l.length:Int)≤12)=True:=eq_true (by omega)
  repeat (first|refine qqm rfl ?_|((first|refine qqr ?_|refine qqt ?_);simp only[SS,qx18,vun,simprocAttr,ff_69]))
  refine WK.unloop ?_
  repeat (first|refine qqm rfl ?_|((first|refine qqr ?_|refine qqt ?_);simp only[SS,qx18,vun,simprocAttr,hs0,h12,ff_69]))
  refine AtCall.byX (inser_gives hy hyn (by omega)) ?_
  rintro v n2 H2 kx2 ⟨rfl,hne,hl'⟩
  simp only[SS,qx18,vun,simprocAttr,ff_69]
  repeat (first|refine qqm rfl ?_|((first|refine qqr ?_|refine qqt ?_);simp only[SS,qx18,vun,simprocAttr,ff_69]))
  first|refine qqf ?_ ?_|refine qqg ?_ ?_
  ·exact kx2.keep
  ·simp only[packed,qv,Nat.reduceEqDiff,↓reduceIte,ff_69]
   exact⟨trivial,hne,hl'⟩
 rintro v n2 H2 kx2 ⟨rfl,hne,hl'⟩
 simp only[SS,qx18,vun,simprocAttr,ff_69]
 repeat (first|refine qqm rfl ?_|((first|refine qqr ?_|refine qqt ?_);simp only[SS,qx18,vun,simprocAttr,ff_69]))
 first|refine qqf ?_ ?_|refine qqg ?_ ?_
 ·exact kx2.keep
 ·simp only[packed,qv,Nat.reduceEqDiff,↓reduceIte,ff_69]
  exact⟨trivial,hne,hl'⟩
theorem sort0_gives(n:Nat)(H:Heap):Gives Tryz.prog 52 [.slice none 0 0] n H fun _ n' H'=>n'=n∧H'=H:=by
 refine Gives.of orders ok52 (Nat.le_of_ble_eq_true rfl) ?_
 have hcv:IntKind.wrap .u64 ((0:Nat):Int)=((0:Nat):Int):=by rw[wrap_u64n]
 repeat (first|refine qqm rfl ?_|((first|refine qqr ?_|refine qqt ?_);simp only[SS,qx44,vconv,simprocAttr,hcv,ff_52]))
 refine AtCall.by (blen_gives 0 (by omega) _ _) ?_
 rintro v n1 H1 hk1 ⟨⟨k,rfl⟩,rfl,rfl⟩
 simp only[SS,qx44,vconv,simprocAttr,ff_52]
 refine AtCall.by (Q:=fun _ n' H'=>n'=n1∧H'=H1) ?_ ?_
 ·refine Gives.of orders ok69 (Nat.le_of_ble_eq_true rfl) ?_
  have hs0:IntKind.wrap .i64 (((0:Nat):Int) - 0)=0:=rfl
  have hs0':IntKind.wrap .i64 ((0:Int) - 0)=0:=rfl
  repeat (first|refine qqm rfl ?_|((first|refine qqr ?_|refine qqt ?_);simp only[SS,qx18,vun,simprocAttr,ff_69]))
  refine WK.unloop ?_
  repeat (first|refine qqm rfl ?_|((first|refine qqr ?_|refine qqt ?_);simp only[SS,qx18,vun,simprocAttr,hs0,hs0',ff_69]))
  refine AtCall.by (Q:=fun _ n' H'=>n'=n1∧H'=H1) ?_ ?_
  ·refine Gives.of orders ok84 (Nat.le_of_ble_eq_true rfl) ?_
   have w01:IntKind.wrap .i64 (0+1)=1:=rfl
   have h10:((1:Int)<((0:Nat):Int))=False:=by simp
   repeat (first|refine qqm rfl ?_|((first|refine qqr ?_|refine qqt ?_);simp only[SS,qx12,simprocAttr,w01,ff_84]))
   refine WK.unloop ?_
   repeat (first|refine qqm rfl ?_|((first|refine qqr ?_|refine qqt ?_);simp only[SS,qx12,simprocAttr,h10,ff_84]))
   first|refine qqf ?_ ?_|refine qqg ?_ ?_
   ·exact fun _ _=>rfl
   ·simp only[packed,qv,Nat.reduceEqDiff,↓reduceIte,ff_84]
    exact⟨trivial,trivial⟩
  rintro v n2 H2 kx2 ⟨rfl,rfl⟩
  simp only[SS,qx12,simprocAttr,ff_84]
  repeat (first|refine qqm rfl ?_|((first|refine qqr ?_|refine qqt ?_);simp only[SS,qx12,simprocAttr,ff_84]))
  first|refine qqf ?_ ?_|refine qqg ?_ ?_
  ·exact fun _ _=>rfl
  ·simp only[packed,qv,Nat.reduceEqDiff,↓reduceIte,ff_84]
   exact⟨trivial,trivial⟩
 rintro v n2 H2 kx2 ⟨rfl,rfl⟩
 simp only[SS,qx12,simprocAttr,ff_84]
 repeat (first|refine qqm rfl ?_|((first|refine qqr ?_|refine qqt ?_);simp only[SS,qx12,simprocAttr,ff_84]))
 first|refine qqf ?_ ?_|refine qqg ?_ ?_
 ·exact fun _ _=>rfl
 ·simp only[packed,qv,Nat.reduceEqDiff,↓reduceIte,ff_84]
  exact⟨trivial,trivial⟩
theorem sorted_eq:∀{a b:List Int},a.Perm b→le2 a→le2 b→a=b:=by
 intro a
 induction a with
 | nil=>intro b h _ _;exact(List.nil_perm.1 h).symm
 | cons x a ih =>
  intro b h ha hb
  cases b with
  | nil=>exact absurd h.symm (by simp)
  | cons y b =>
   have hx:=List.pairwise_cons.1 ha
   have hy:=List.pairwise_cons.1 hb
   have h1:y≤x:=by
    rcases List.mem_cons.1 (h.mem_iff.1 (List.mem_cons_self))with e|e
    ·omega
    ·exact hy.1 _ e
   have h2:x≤y:=by
    rcases List.mem_cons.1 (h.mem_iff.2 (List.mem_cons_self))with e|e
    ·omega
    ·exact hx.1 _ e
   have:x=y:=by omega
   subst this
   rw[ih (List.perm_cons _ |>.1 h) hx.2 hy.2]
end Go.Proofs.YtjlgpanihjnaeaaGreatDoor

namespace Go.Proofs.YtjlgpanihjnaeaaGreatDoor
open Go.AM Go.RowKit
set_option maxRecDepth 100000
theorem lensP_gives(x:Nat)(hx:x<256)(hp:0<x)(n:Nat)(H:Heap):Gives Tryz.prog 94 [.int .u64 x] n H fun v n' H'=>(∃k:Nat,v=.int .i64 (k:Nat)∧0<k)∧n'=n∧H'=H:=by
 refine Gives.of orders ok94 (Nat.le_of_ble_eq_true rfl) ?_
 have min32:min 32 IntKind.u64.bits=32:=rfl
 have min16:min 16 IntKind.u64.bits=16:=rfl
 have min8:min 8 IntKind.u64.bits=8:=rfl
 have h0i:((4294967296:Int)≤((x:Nat):Int))=False:=by simp only[eq_iff_iff,iff_false];omega
 have h1i:((65536:Int)≤((x:Nat):Int))=False:=by simp only[eq_iff_iff,iff_false];omega
 have h2i:((256:Int)≤((x:Nat):Int))=False:=by simp only[eq_iff_iff,iff_false];omega
 have h0:¬4294967296≤x:=by omega
 have h1:¬65536≤x:=by omega
 have h2:¬256≤x:=by omega
 repeat (first|refine qqm rfl ?_|((first|refine qqr ?_|refine qqt ?_);simp only[SS,qx42,vconv,simprocAttr,min32,min16,min8,h0i,h0,h1i,h1,h2i,h2,ff_94]))
 have hw8:=wrap_u8n x (by omega)
 simp only[hw8,Int.toNat_natCast]
 refine w3_tab lenN 256 _ (by kernel_rfl) (by omega) ?_
 have hb:=lenN_small x hx
 have hwl:IntKind.wrap .i64 ((lenN x:Nat):Int)=((lenN x:Nat):Int):=by rw[wrap_in (by omega) (by omega)]
 have hww:IntKind.wrap .i64 (0+((lenN x:Nat):Int))=((lenN x:Nat):Int):=by rw[wrap_in (by omega) (by omega)];omega
 have hww':IntKind.wrap .i64 (((0:Nat):Int)+((lenN x:Nat):Int))=((lenN x:Nat):Int):=by rw[wrap_in (by omega) (by omega)];omega
 simp only[SS,qx42,vconv,simprocAttr,hwl,hww,hww',ff_94]
 repeat (first|refine qqm rfl ?_|((first|refine qqr ?_|refine qqt ?_);simp only[SS,qx42,vconv,simprocAttr,hwl,hww,hww',ff_94]))
 first|refine qqf ?_ ?_|refine qqg ?_ ?_
 ·exact fun _ _=>rfl
 ·simp only[packed,qv,Nat.reduceEqDiff,↓reduceIte,ff_94]
  exact⟨⟨_,rfl,by unfold lenN;rw[if_neg (by omega)];omega⟩,trivial,trivial⟩
theorem blenP_gives(x:Nat)(hx:x<256)(hp:0<x)(n:Nat)(H:Heap):Gives Tryz.prog 70 [.int .u64 x] n H fun v n' H'=>(∃k:Nat,v=.int .i64 (k:Nat)∧0<k)∧n'=n∧H'=H:=by
 refine Gives.of orders ok70 (Nat.le_of_ble_eq_true rfl) ?_
 repeat (first|refine qqm rfl ?_|((first|refine qqr ?_|refine qqt ?_);simp only[SS,qg0,tor,vconv,simprocAttr,ff_70]))
 refine AtCall.by (lensP_gives x hx hp _ _) ?_
 rintro v n' H' hk' ⟨⟨k,rfl,hk⟩,rfl,rfl⟩
 simp only[SS,qg0,tor,vconv,simprocAttr,ff_70]
 repeat (first|refine qqm rfl ?_|((first|refine qqr ?_|refine qqt ?_);simp only[SS,qg0,tor,vconv,simprocAttr,ff_70]))
 first|refine qqf ?_ ?_|refine qqg ?_ ?_
 ·exact fun _ _=>rfl
 ·simp only[packed,qv,Nat.reduceEqDiff,↓reduceIte,ff_70]
  exact⟨⟨_,rfl,hk⟩,trivial,trivial⟩
theorem int_at{l:List Int}{i:Nat}(h:i<l.length):(l.map (Value.int .i64))[i]? = some (.int .i64 l[i]):=by
 rw[List.getElem?_map,List.getElem?_eq_getElem h];rfl
variable {y n:Nat} {H:Heap} {l:List Int}
theorem order2_gives{a b:Nat}{sw:Value}(hy:H y=.cells (l.map (Value.int .i64)) 3 true)(hab:a≤b)(hb:b<l.length)(hs:le2 l) :
  Gives Tryz.prog 114 [.slice (some ⟨y,0,none⟩) l.length l.length,.int .i64 (a:Nat),.int .i64 (b:Nat),sw] n H fun v n' H'=>v=.tuple #[.int .i64 (a:Nat),.int .i64 (b:Nat)]∧n'=n∧H'=H:=by
 refine Gives.of orders ok114 (Nat.le_of_ble_eq_true rfl) ?_
 have ha:a<l.length:=by omega
 have h1:=int_at ha
 have h2:=int_at hb
 have hle:l[a]≤l[b]:=by
  by_cases he:a=b
  ·subst he;exact Int.le_refl _
  ·exact List.pairwise_iff_getElem.1 hs a b ha hb (by omega)
 have hnl:(l[b]<l[a])=False:=eq_false (by omega)
 repeat (first|refine qqm rfl ?_|((first|refine qqr ?_|refine qqt ?_);simp only[SS,qg0,qgb,qgl,qgs,qgi,tor,Go.AM.splice,one,simprocAttr,hy,ha,hb,h1,h2,Nat.zero_add,ff_114]))
 refine AtCall.by (lessI_gives _ _ _ _) ?_
 rintro v n1 H1 k1 ⟨rfl,rfl,rfl⟩
 simp only[SS,qg0,qgb,qgl,qgs,qgi,tor,Go.AM.splice,one,simprocAttr,hnl,decide_false,ff_114]
 repeat (first|refine qqm rfl ?_|((first|refine qqr ?_|refine qqt ?_);simp only[SS,qg0,qgb,qgl,qgs,qgi,tor,Go.AM.splice,one,simprocAttr,ff_114]))
 first|refine qqf ?_ ?_|refine qqg ?_ ?_
 ·exact fun _ _=>rfl
 ·simp only[packed,qv,Nat.reduceEqDiff,↓reduceIte,ff_114]
  exact⟨trivial,trivial,trivial⟩
theorem median_gives{a b c:Nat}{sw:Value}(hy:H y=.cells (l.map (Value.int .i64)) 3 true)(hab:a≤b)(hbc:b≤c)(hc:c<l.length)(hs:le2 l) :
  Gives Tryz.prog 107 [.slice (some ⟨y,0,none⟩) l.length l.length,.int .i64 (a:Nat),.int .i64 (b:Nat),.int .i64 (c:Nat),sw] n H fun v n' H'=>v=.int .i64 (b:Nat)∧n'=n∧H'=H:=by
 refine Gives.of orders ok107 (Nat.le_of_ble_eq_true rfl) ?_
 repeat (first|refine qqm rfl ?_|((first|refine qqr ?_|refine qqt ?_);simp only[SS,qg0,textr,simprocAttr]))
 refine AtCall.by (order2_gives hy hab (by omega) hs) ?_
 rintro v n1 H1 k1 ⟨rfl,hn,hH⟩
 subst hn
 obtain rfl:=hH.symm
 simp only[SS,qg0,textr,simprocAttr,List.toList_toArray]
 repeat (first|refine qqm rfl ?_|((first|refine qqr ?_|refine qqt ?_);simp only[SS,qg0,textr,simprocAttr]))
 refine AtCall.by (order2_gives hy hbc hc hs) ?_
 rintro v n1 H1 k1 ⟨rfl,hn,hH⟩
 subst hn
 obtain rfl:=hH.symm
 simp only[SS,qg0,textr,simprocAttr,List.toList_toArray]
 repeat (first|refine qqm rfl ?_|((first|refine qqr ?_|refine qqt ?_);simp only[SS,qg0,textr,simprocAttr]))
 refine AtCall.by (order2_gives hy hab (by omega) hs) ?_
 rintro v n1 H1 k1 ⟨rfl,hn,hH⟩
 subst hn
 obtain rfl:=hH.symm
 simp only[SS,qg0,textr,simprocAttr,List.toList_toArray]
 repeat (first|refine qqm rfl ?_|((first|refine qqr ?_|refine qqt ?_);simp only[SS,qg0,textr,simprocAttr]))
 first|refine qqf ?_ ?_|refine qqg ?_ ?_
 ·exact fun _ _=>rfl
 ·simp only[packed,qv,Nat.reduceEqDiff,↓reduceIte]
  exact⟨trivial,trivial,trivial⟩
theorem choose_gives(hw:WF n H)(hy:H y=.cells (l.map (Value.int .i64)) 3 true)(h8:8≤l.length)(h50:l.length<50)(hs:le2 l) :
  Gives Tryz.prog 87 [.slice (some ⟨y,0,none⟩) l.length l.length,.int .i64 0,.int .i64 (l.length:Nat)] n H fun v n' H'=>∃p:Nat,v=.tuple #[.int .i64 (p:Nat),.int .i64 1]:=by
 refine Gives.of orders ok87 (Nat.le_of_ble_eq_true rfl) ?_
 have hyn:=live_lt hw (live_of hy)
 have hs0:IntKind.wrap .i64 ((l.length:Int) - 0)=(l.length:Int):=by rw[wrap_in (by omega) (by omega)];omega
 have h8':((8:Int)≤(l.length:Int))=True:=eq_true (by omega)
 have h50':((50:Int)≤(l.length:Int))=False:=eq_false (by omega)
 have hd:IntKind.i64.wrap ((l.length:Int).tdiv 4)=((l.length / 4:Nat):Int):=by
  have e:(l.length:Int).tdiv 4=((l.length / 4:Nat):Int):=rfl
  rw[e,wrap_in (by omega) (by omega)]
 have hm4:l.length / 4*3<l.length:=by omega
 generalize l.length / 4=m at *
 have m1:IntKind.i64.wrap ((m:Int)*1)=(m:Int):=by rw[wrap_in (by omega) (by omega)];omega
 have m2:IntKind.i64.wrap ((m:Int)*2)=((m*2:Nat):Int):=by rw[wrap_in (by omega) (by omega)];omega
 have m3:IntKind.i64.wrap ((m:Int)*3)=((m*3:Nat):Int):=by rw[wrap_in (by omega) (by omega)];omega
 have z1:IntKind.i64.wrap (0+(m:Int))=(m:Int):=by rw[wrap_in (by omega) (by omega)];omega
 have z2:IntKind.i64.wrap (0+((m*2:Nat):Int))=((m*2:Nat):Int):=by rw[wrap_in (by omega) (by omega)];omega
 have z3:IntKind.i64.wrap (0+((m*3:Nat):Int))=((m*3:Nat):Int):=by rw[wrap_in (by omega) (by omega)];omega
 repeat (first|refine qqm rfl ?_|((first|refine qqr ?_|refine qqt ?_);simp only[SS,qg0,qgb,qgl,qga,tor,one,simprocAttr,hs0,h8',h50',hd,m1,m2,m3,z1,z2,z3,ff_87]))
 have k1:=Kp.new n H (.cells [.int .i64 (Int.ofNat 0)] 3 true)
 have hn:=hset_at H n (.cells [.int .i64 (Int.ofNat 0)] 3 true)
 generalize hset H n (.cells [.int .i64 (Int.ofNat 0)] 3 true)=H1 at *
 have hy1:=(k1.keep y hyn).trans hy
 refine AtCall.by (median_gives hy1 (by omega) (by omega) hm4 hs) ?_
 rintro v n1 H2 k2 ⟨rfl,hn1,hH⟩
 subst hn1
 obtain rfl:=hH.symm
 have hz0:((Int.ofNat 0:Int)=0)=True:=eq_true rfl
 simp only[SS,qg0,qgb,qgl,qga,tor,one,simprocAttr,ff_87]
 repeat (first|refine qqm rfl ?_|((first|refine qqr ?_|refine qqt ?_);simp only[SS,qg0,qgb,qgl,qga,tor,one,simprocAttr,hn,hz0,decide_true,ff_87]))
 first|refine qqf ?_ ?_|refine qqg ?_ ?_
 ·exact k1.keep
 ·simp only[packed,qv,Nat.reduceEqDiff,↓reduceIte,ff_87]
  exact⟨_,rfl⟩
theorem partial_gives(hy:H y=.cells (l.map (Value.int .i64)) 3 true)(h1:1≤l.length)(h50:l.length<50)(hs:le2 l) :
  Gives Tryz.prog 89 [.slice (some ⟨y,0,none⟩) l.length l.length,.int .i64 0,.int .i64 (l.length:Nat)] n H fun v n' H'=>v=.bool true∧n'=n∧H'=H:=by
 refine Gives.of orders ok89 (Nat.le_of_ble_eq_true rfl) ?_
 have w01:IntKind.wrap .i64 (0+1)=1:=rfl
 repeat (first|refine qqm rfl ?_|((first|refine qqr ?_|refine qqt ?_);simp only[SS,qx12,vun,simprocAttr,w01,ff_89]))
 refine WK.unloop ?_
 repeat (first|refine qqm rfl ?_|((first|refine qqr ?_|refine qqt ?_);simp only[SS,qx12,vun,simprocAttr,ff_89]))
 refine WK.loop (fun kk s=>∃i:Nat,s.n=n∧s.H=H∧s.f 0=.slice (some ⟨y,0,none⟩) l.length l.length∧s.f 2=.int .i64 (l.length:Nat)∧s.f 7=.int .i64 (i:Nat)∧1≤i∧i≤l.length∧kk=l.length - i) (l.length - 1) ?_ ?_
 ·exact⟨1,rfl,rfl,rfl,rfl,rfl,Nat.le_refl _,h1,rfl⟩
 rintro kk ⟨f,n1,H1⟩ ⟨i,e1,e2,f0,f2,f7,hi1,hil,rfl⟩ ih
 simp only at e1 e2 f0 f2 f7 ih
 subst e1 e2
 by_cases hlt:i<l.length
 ·obtain⟨j,rfl⟩:∃j,i=j+1:=⟨i - 1,by omega⟩
  have hjl:j<l.length:=by omega
  have hiw:IntKind.i64.wrap (((j+1:Nat):Int)+1)=((j+1+1:Nat):Int):=by rw[wrap_in (by omega) (by omega)];rfl
  have hm1:IntKind.i64.wrap (((j+1:Nat):Int) - 1)=(j:Int):=by rw[wrap_in (by omega) (by omega)];omega
  have hlt':(((j+1:Nat):Int)<(l.length:Int))=True:=eq_true (by omega)
  have a1:=int_at hlt
  have a2:=int_at hjl
  have hnl:(l[j+1]<l[j])=False:=eq_false (by have:=List.pairwise_iff_getElem.1 hs j (j+1) hjl hlt (by omega);omega)
  repeat (first|refine qqm rfl ?_|((first|refine qqr ?_|refine qqt ?_);simp only[SS,qx12,vun,simprocAttr,f0,f2,f7,hy,hlt,hlt',hjl,hm1,a1,a2,decide_true,Nat.zero_add,ff_89]))
  refine AtCall.by (lessI_gives _ _ _ _) ?_
  rintro v n2 H2 k2 ⟨rfl,hn2,hH⟩
  subst hn2
  obtain rfl:=hH.symm
  simp only[SS,qx12,vun,simprocAttr,hnl,decide_false,ff_89]
  repeat (first|refine qqm rfl ?_|((first|refine qqr ?_|refine qqt ?_);simp only[SS,qx12,vun,simprocAttr,f7,hiw,ff_89]))
  refine ih (l.length - (j+1+1)) (by omega) _ ?_
  exact⟨j+1+1,rfl,rfl,f0,f2,rfl,by omega,hlt,rfl⟩
 ·obtain rfl:i=l.length:=by omega
  have hll:((l.length:Int)=(l.length:Int))=True:=eq_true rfl
  repeat (first|refine qqm rfl ?_|((first|refine qqr ?_|refine qqt ?_);simp only[SS,qx12,vun,simprocAttr,f0,f2,f7,hlt,decide_false,decide_true,ff_89]))
  first|refine qqf ?_ ?_|refine qqg ?_ ?_
  ·exact fun _ _=>rfl
  ·simp only[packed,qv,Nat.reduceEqDiff,↓reduceIte,ff_89]
   exact⟨trivial,trivial,trivial⟩
theorem sortS_gives(hw:WF n H)(hy:H y=.cells (l.map (Value.int .i64)) 3 true)(h12:12<l.length)(h50:l.length<50)(hs:le2 l) :
  Gives Tryz.prog 52 [.slice (some ⟨y,0,none⟩) l.length l.length] n H fun _ _ _=>True:=by
 refine Gives.of orders ok52 (Nat.le_of_ble_eq_true rfl) ?_
 have hyn:=live_lt hw (live_of hy)
 have hcv:IntKind.wrap .u64 (l.length:Int)=((l.length:Nat):Int):=by rw[wrap_u64n,Nat.mod_eq_of_lt (by omega)]
 repeat (first|refine qqm rfl ?_|((first|refine qqr ?_|refine qqt ?_);simp only[SS,qx44,vconv,simprocAttr,hcv,ff_52]))
 refine AtCall.by (blenP_gives l.length (by omega) (by omega) _ _) ?_
 rintro v n1 H1 hk1 ⟨⟨k,rfl,hkp⟩,hn1,hH⟩
 subst hn1
 obtain rfl:=hH.symm
 simp only[SS,qx44,vconv,simprocAttr,ff_52]
 refine AtCall.by (Q:=fun _ _ _=>True) ?_ ?_
 ·refine Gives.of orders ok69 (Nat.le_of_ble_eq_true rfl) ?_
  have hs0:IntKind.wrap .i64 ((l.length:Int) - 0)=(l.length:Int):=by rw[wrap_in (by omega) (by omega)];omega
  have h12':((l.length:Int)≤12)=False:=eq_false (by omega)
  have hk0:((k:Int)=0)=False:=eq_false (by omega)
  repeat (first|refine qqm rfl ?_|((first|refine qqr ?_|refine qqt ?_);simp only[SS,qx18,vun,simprocAttr,ff_69]))
  refine WK.unloop ?_
  repeat (first|refine qqm rfl ?_|((first|refine qqr ?_|refine qqt ?_);simp only[SS,qx18,vun,simprocAttr,hs0,h12',hk0,decide_false,ff_69]))
  refine AtCall.by (choose_gives hw hy (by omega) h50 hs) ?_
  rintro v n2 H2 k2 ⟨p,rfl⟩
  have hy2:=(k2.keep y hyn).trans hy
  simp only[SS,qx18,vun,simprocAttr,List.toList_toArray,ff_69]
  repeat (first|refine qqm rfl ?_|((first|refine qqr ?_|refine qqt ?_);simp only[SS,qx18,vun,simprocAttr,decide_true,decide_false,ff_69]))
  refine AtCall.by (partial_gives hy2 (by omega) h50 hs) ?_
  rintro v n3 H3 k3 ⟨rfl,hn3,hH3⟩
  simp only[SS,qx18,vun,simprocAttr,ff_69]
  repeat (first|refine qqm rfl ?_|((first|refine qqr ?_|refine qqt ?_);simp only[SS,qx18,vun,simprocAttr,ff_69]))
  first|refine qqf ?_ ?_|refine qqg ?_ ?_
  ·exact(k2.trans k3).keep
  ·simp only[packed,qv,Nat.reduceEqDiff,↓reduceIte,ff_69]
 rintro v n2 H2 k2 _
 simp only[SS,qx18,vun,simprocAttr,ff_69]
 repeat (first|refine qqm rfl ?_|((first|refine qqr ?_|refine qqt ?_);simp only[SS,qx18,vun,simprocAttr,ff_69]))
 first|refine qqf ?_ ?_|refine qqg ?_ ?_
 ·exact k2.keep
 ·simp only[packed,qv,Nat.reduceEqDiff,↓reduceIte,ff_69]
end Go.Proofs.YtjlgpanihjnaeaaGreatDoor
