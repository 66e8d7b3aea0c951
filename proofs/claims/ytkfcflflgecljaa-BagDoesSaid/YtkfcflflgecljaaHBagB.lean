/- slices.BinarySearch at []int64, of numbers that rise: how many are less, and whether the number is there. -/
import Derived.Test.YtkfcflflgecljaaHBagR
import Derived.Lib.SlicesSearch
import Derived.Deep.LoopGhost
set_option linter.unusedVariables false
set_option linter.unusedSimpArgs false
namespace Go.Proofs.Ytkfcflflgecljaa.H
open Go.RowKit Go.Proofs.YtkfcflflgecljaaW.PrintWords Go.Proofs.YtkfcflflgecljaaW.PrintLast
theorem cmpNaN.calls (x : Int) (w : World) : Calls Try.prog 88 #[.int .i64 x] w fun e w' => e = .returned (.bool false) ∧ w' = w := by
  go_enter Try.func88, Try.ntmps88
  go_wp2
  go_ret
  exact ⟨by simp, rfl⟩
theorem slNaN.calls (x : Int) (w : World) : Calls Try.prog 75 #[.int .i64 x] w fun e w' => e = .returned (.bool false) ∧ w' = w := by
  go_enter Try.func75, Try.ntmps75
  go_wp2
  go_ret
  exact ⟨by simp, rfl⟩
theorem cmpLess.calls (x y : Int) (w : World) : Calls Try.prog 74 #[.int .i64 x, .int .i64 y] w fun e w' => e = .returned (.bool (decide (x < y))) ∧ w' = w := by
  go_enter Try.func74, Try.ntmps74
  go_wp2_with (go_at_call 88; refine (cmpNaN.calls _ _).mono ?_; rintro e w' ⟨rfl, rfl⟩)
  go_ret
  exact ⟨rfl, rfl⟩
set_option maxRecDepth 100000
set_option maxHeartbeats 4000000 in
theorem Search.calls (A : Option Addr) (n c : Nat) (zs : List Int) (x : Int) (w : World) (hn : zs.length = n) (hlen : n ≤ 1000) (h : w.ownsRow 0 2 1 (.slice A n c) n (zs.map (.int .i64))) (hs : zs.Pairwise (· < ·)) :
    Calls Try.prog 46 #[.slice A n c, .int .i64 x] w fun e w' => e = .returned (.tuple #[.int .i64 (zs.countP (· < x) : Nat), .bool (zs.contains x)]) ∧ w' = w := by
  have hz : n ≤ zs.length := by omega
  have S : Aside0 (∀ a b, a ≤ b → b < n → zs.getD a 0 ≤ zs.getD b 0) := .mk (Lib.sorted_at zs n hz (by rw [← hn, List.take_length]; exact hs.imp fun h => Int.le_of_lt h))
  have htk : zs.take n = zs := by rw [← hn, List.take_length]
  clear hs
  rcases own_form h with ⟨e, h0, _⟩ | ⟨g, cap, cur, e, hg, h1, h2, h3, h4⟩
  · injection e with e1 e2 e3
    subst e1; subst e2; subst e3
    obtain rfl : zs = [] := List.eq_nil_of_length_eq_zero hn
    clear h S htk hz hn
    go_enter Try.func46, Try.ntmps46
    go_wp2_with fail
    go_loopg [7, 8] 0 (fun gg s7 s8 wr => s7 = .int .i64 0 ∧ s8 = .int .i64 0 ∧ wr = w)
    case atStart => exact ⟨rfl, rfl, rfl⟩
    case round =>
      obtain ⟨rfl, rfl, rfl⟩ := hrel
      go_wp2_with fail
      go_ret2
      exact ⟨by simp, rfl⟩
  · injection e with e1 e2 e3
    subst e1; subst e3
    clear e2
    have hcell : ∀ j, j < n → w.cell? ⟨g, j, none⟩ = some (.int .i64 (zs.getD j 0)) := fun j hj => by
      rw [cell_of_row w g j _ _ (0, 0) hg, ← Array.getElem?_toList, ← List.getElem?_take_of_lt hj, h4, List.getElem?_map, List.getD_eq_getElem?_getD, List.getElem?_eq_getElem (by omega)]
      rfl
    have HC := Aside0.mk hcell
    have Z := Aside0.mk (And.intro hn htk)
    clear h h4 hcell hn htk hz hg h3 h2
    go_enter Try.func46, Try.ntmps46
    go_wp2_with fail
    go_loopg [7, 8] n (fun gg s7 s8 wr => ∃ lo hi : Nat, s7 = .int .i64 lo ∧ s8 = .int .i64 hi ∧ lo ≤ hi ∧ hi ≤ n ∧ hi - lo ≤ gg ∧ wr = w ∧ Aside0 ((∀ t, t < lo → zs.getD t 0 < x) ∧ (∀ t, hi ≤ t → t < n → x ≤ zs.getD t 0)))
    case atStart => exact ⟨0, n, rfl, rfl, Nat.zero_le _, Nat.le_refl _, by omega, rfl, .mk ⟨fun t ht => absurd ht (Nat.not_lt_zero _), fun t h1 h2 => by omega⟩⟩
    case round =>
      obtain ⟨lo, hi, rfl, rfl, hlh, hin, hgg, rfl, I⟩ := hrel
      by_cases hlt : lo < hi
      · have cm := HC.out ((lo + hi) / 2) (by omega)
        generalize hy : zs.getD ((lo + hi) / 2) 0 = y at cm
        have Y := Aside0.mk hy
        clear hy
        by_cases hyx : y < x
        · go_wp2_with (first | (go_at_call 74; refine (cmpLess.calls _ _ _).mono ?_; rintro e w' ⟨rfl, rfl⟩))
          go_roundg (hi - ((lo + hi) / 2 + 1))
          case measure => omega
          case rel =>
            refine ⟨(lo + hi) / 2 + 1, hi, by rw [show ((lo : Int) + (hi : Int)) / 2 + 1 = (((lo + hi) / 2 + 1 : Nat) : Int) by omega], rfl, by omega, hin, Nat.le_refl _, rfl, .mk ⟨fun t ht => ?_, I.out.2⟩⟩
            have := S.out t ((lo + hi) / 2) (by omega) (by omega)
            rw [Y.out] at this
            omega
        · go_wp2_with (first | (go_at_call 74; refine (cmpLess.calls _ _ _).mono ?_; rintro e w' ⟨rfl, rfl⟩))
          go_roundg ((lo + hi) / 2 - lo)
          case measure => omega
          case rel =>
            refine ⟨lo, (lo + hi) / 2, rfl, by rw [show ((lo : Int) + (hi : Int)) / 2 = (((lo + hi) / 2 : Nat) : Int) by omega], by omega, by omega, Nat.le_refl _, rfl, .mk ⟨I.out.1, fun t ht htn => ?_⟩⟩
            have := S.out ((lo + hi) / 2) t ht htn
            rw [Y.out] at this
            omega
      · have : hi = lo := by omega
        subst this
        obtain ⟨e1, e2⟩ := Lib.search_end zs n hi x (by have := Z.out.1; omega) hin I.out.1 I.out.2 S.out
        rw [Z.out.2] at e1 e2
        have E := Aside0.mk (And.intro e1 e2)
        clear e1 e2
        by_cases hnn : hi < n
        · have cl := HC.out hi hnn
          generalize hy : zs.getD hi 0 = y at cl
          have Y := Aside0.mk hy
          clear hy
          by_cases hyx : y = x
          · go_wp2_with (first | (go_at_call 75; refine (slNaN.calls _ _).mono ?_; rintro e w' ⟨rfl, rfl⟩))
            go_ret2
            refine ⟨?_, rfl⟩
            rw [E.out.1, E.out.2, Y.out, decide_eq_true (show hi < n ∧ y = x from ⟨hnn, hyx⟩)]
            first | rfl | simp [*]
          · go_wp2_with (first | (go_at_call 75; refine (slNaN.calls _ _).mono ?_; rintro e w' ⟨rfl, rfl⟩))
            go_ret2
            refine ⟨?_, rfl⟩
            rw [E.out.1, E.out.2, Y.out, decide_eq_false (show ¬ (hi < n ∧ y = x) from fun h => hyx h.2)]
            first | rfl | simp [*]
        · go_wp2_with (first | (go_at_call 75; refine (slNaN.calls _ _).mono ?_; rintro e w' ⟨rfl, rfl⟩))
          go_ret2
          refine ⟨?_, rfl⟩
          rw [E.out.1, E.out.2, decide_eq_false (show ¬ (hi < n ∧ zs.getD hi 0 = x) from fun h => hnn h.1)]
          first | rfl | simp [*]
end Go.Proofs.Ytkfcflflgecljaa.H
