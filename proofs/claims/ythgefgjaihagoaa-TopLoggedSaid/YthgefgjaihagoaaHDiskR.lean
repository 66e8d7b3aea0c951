/- slices.Repeat of one text, 256 times; disk.New. -/
import Derived.Test.YthgefgjaihagoaaHDiskN
set_option linter.unusedVariables false
set_option linter.unusedSimpArgs false
namespace Go.Proofs.Ythgefgjaihagoaa.Q
open Go.RowKit Go.Proofs.Ythgefgjaihagoaa.H Go.Proofs.YthgefgjaihagoaaW.PrintWords Go.Proofs.YthgefgjaihagoaaW.PrintLast
set_option maxRecDepth 100000
theorem mul256 : bits_Mul.f 1 256 = some (0, 256) := by kernel_rfl
theorem infoS3 : (Try.prog.info? 9).map (fun i => (i.zero, i.size, i.bytes)) = some (some (.string ⟨#[]⟩), 1, 16) := by kernel_rfl
theorem eq_rep (s : ByteArray) : ∀ (n : Nat) (l : List ByteArray), l.length = n → (∀ j, j < n → l[j]? = some s) → l = List.replicate n s := by
  intro n l hl h
  apply List.ext_getElem?
  intro j
  by_cases hj : j < n
  · rw [h j hj, List.getElem?_replicate_of_lt hj]
  · rw [List.getElem?_eq_none (by omega), List.getElem?_eq_none (by rw [List.length_replicate]; omega)]
/-- What a round copies. -/
theorem rep_round (s : ByteArray) (l : List ByteArray) (n m : Nat) (hl : l.length = 256) (hn : n + m ≤ 256) (hm : m ≤ n) (h : ∀ j, j < n → l[j]? = some s) :
    ∃ l' : List ByteArray, ((l.map Value.string).toArray.toList.take n ++ ((List.replicate m s).map Value.string) ++ (l.map Value.string).toArray.toList.drop (n + ((List.replicate m s).map Value.string).length)).toArray = (l'.map Value.string).toArray ∧ l'.length = 256 ∧ ∀ j, j < n + m → l'[j]? = some s := by
  refine ⟨l.take n ++ List.replicate m s ++ l.drop (n + m), ?_, ?_, ?_⟩
  · simp [List.map_append, List.map_take, List.map_drop]
  · simp [hl]; omega
  · intro j hj
    by_cases h1 : j < n
    · rw [List.append_assoc, List.getElem?_append_left (by rw [List.length_take]; omega), List.getElem?_take_of_lt h1]; exact h j h1
    · rw [List.getElem?_append_left (by rw [List.length_append, List.length_take, List.length_replicate]; omega), List.getElem?_append_right (by rw [List.length_take]; omega), List.getElem?_replicate_of_lt (by rw [List.length_take]; omega)]
theorem rep_ok (n : Nat) (hn : n < 256) (hn1 : 1 ≤ n) (G : Nat) (l : List ByteArray) (s : ByteArray) (hl : l.length = 256) (hs : ∀ j, j < n → l[j]? = some s) (W : World) (hG : W.heap[G]? = some (.cells (l.map Value.string).toArray 9 (0, 0))) :
    ∃ (m : Nat) (l' : List ByteArray), m ≤ n ∧ 1 ≤ m ∧ n + m ≤ 256 ∧ l'.length = 256 ∧ (∀ j, j < n + m → l'[j]? = some s) ∧
      ∀ ty, (Builtin.copy_ #[35, 35] ty #[.slice (some ⟨G, n, none⟩) (256 - n) (256 - n), .slice (some ⟨G, 0, none⟩) n 256]).run Try.prog W = .ok (.int .i64 m) (W.setRow G (l'.map Value.string).toArray) := by
  obtain ⟨m, hm⟩ : ∃ m, Nat.min n (256 - n) = m := ⟨_, rfl⟩
  have hm1 : m ≤ n := by rw [← hm]; exact Nat.min_le_left _ _
  have hm2 : m ≤ 256 - n := by rw [← hm]; exact Nat.min_le_right _ _
  have hm3 : 1 ≤ m := by rw [← hm]; exact Nat.le_min.2 ⟨hn1, by omega⟩
  obtain ⟨l', e1, e2, e3⟩ := rep_round s l n m hl (by omega) hm1 hs
  refine ⟨m, l', hm1, hm3, by omega, e2, e3, fun ty => ?_⟩
  have hh := run_copy_row (P := Try.prog) W 35 35 ty 9 G n (256 - n) (256 - n) ⟨G, 0, none⟩ n 256 (l.map Value.string).toArray 9 ((List.replicate m s).map Value.string) Try.underlying35 infoS hG (by rw [List.length_map, List.length_replicate]; exact hm.symm) (fun j v hj => by
    have hjm : j < m := by
      have := (List.getElem?_eq_some_iff.1 hj).1
      simpa using this
    have hv : v = .string s := by
      rw [List.getElem?_map, List.getElem?_replicate_of_lt hjm] at hj
      injection hj with hj; exact hj.symm
    subst hv
    rw [add_at, Nat.zero_add, Lib.cell_of_heap hG]
    have := hs j (by omega)
    simp [this]) (by rw [List.length_map, List.length_replicate]; simp [hl]; omega) (fun v hv => by obtain ⟨x, _, rfl⟩ := List.mem_map.1 hv; rfl)
  rw [e1, List.length_map, List.length_replicate] at hh
  exact hh
theorem rep_w (n m : Nat) (h : n + m ≤ 256) : IntKind.i64.wrap ((n : Int) + (m : Int)) = ((n + m : Nat) : Int) := by
  rw [IntKind.wrap_i64]; omega
theorem cut256 (G n : Nat) (hlt : n < 256) (W : World) : (Instr.slice 35 (.slice (some ⟨G, 0, none⟩) 256 256) (some (.int .i64 (n : Int))) none none).run Try.prog W = .ok (.slice (some ⟨G, n, none⟩) (256 - n) (256 - n)) W := by
  obtain ⟨i0, hi0, hz0, hz1, hz2⟩ := info_parts infoS3
  have := cut_from (P := Try.prog) 35 9 .i64 Try.underlying35 hi0 1 hz1 (some ⟨G, 0, none⟩) 256 256 (n : Int) (by omega) (by omega) W
  simp only [Int.toNat_natCast] at this
  rw [if_neg (by omega)] at this
  rw [this]
  simp [Addr.add]
  exact fun h => h.symm
set_option maxHeartbeats 8000000 in
theorem rep.calls (X : Nat) (s : ByteArray) (w : World) (hX : w.heap[X]? = some (.cells #[.string s] 9 (0, 0))) :
    Calls Try.prog 30 #[.slice (some ⟨X, 0, none⟩) 1 1, .int .i64 256] w (fun e w' => ∃ G, e = .returned (.slice (some ⟨G, 0, none⟩) 256 256) ∧ w'.heap[G]? = some (.cells ((List.replicate 256 s).map Value.string).toArray 9 (0, 0)) ∧ Below w.heap.size w w' ∧ w.heap.size ≤ G) := by
  have HM := bits_Mul.calls 1 256 0 256 w mul256
  have HX := Aside0.mk hX
  clear hX
  go_enter Try.func30, Try.ntmps30
  go_wp2_with fail
  refine HM.mono ?_
  rintro e w1 ⟨rfl, hd1⟩
  obtain ⟨q1, rfl⟩ := hd1.out
  obtain ⟨w2, hw2⟩ : ∃ w2, w.drewN q1 = w2 := ⟨_, rfl⟩
  have hb2 : Below w.heap.size w w2 := by rw [← hw2]; exact pw_below_drewN (Below.refl _ w) q1
  have hz2 : w2.heap.size = w.heap.size := by rw [← hw2]; rfl
  rw [hw2]
  have hmk := mk256 w2
  obtain ⟨w3, hw3⟩ : ∃ w3, w2.alloc (.cells ((List.replicate 256 (⟨#[]⟩ : ByteArray)).map Value.string).toArray 9) = w3 := ⟨_, rfl⟩
  obtain ⟨G, hG⟩ : ∃ G, w2.heap.size = G := ⟨_, rfl⟩
  rw [hw3, hG] at hmk
  have hXG : X < G := by rw [← hG, hz2]; exact (Array.getElem?_eq_some_iff.1 HX.out).1
  have hb3 : Below G w2 w3 := by rw [← hw3]; exact (Below.refl G w2).alloc (by omega) _
  have hG3 : w3.heap[G]? = some (.cells ((List.replicate 256 (⟨#[]⟩ : ByteArray)).map Value.string).toArray 9 (0, 0)) := by
    rw [← hw3, ← hG]; show (w2.heap.push _)[w2.heap.size]? = _; exact Array.getElem?_push_size
  have hX3 : w3.heap[X]? = some (.cells #[.string s] 9 (0, 0)) := (hb3.block X hXG).trans ((hb2.block X (by omega)).trans HX.out)
  obtain ⟨l1, hl1, hl2, hl3, hcp⟩ : ∃ l1 : List ByteArray, l1.length = 256 ∧ l1[0]? = some s ∧ True ∧ ∀ ty, (Builtin.copy_ #[35, 35] ty #[.slice (some ⟨G, 0, none⟩) 256 256, .slice (some ⟨X, 0, none⟩) 1 1]).run Try.prog w3 = .ok (.int .i64 1) (w3.setRow G (l1.map Value.string).toArray) := by
    refine ⟨s :: List.replicate 255 ⟨#[]⟩, by simp, rfl, trivial, fun ty => ?_⟩
    have hh := run_copy_row (P := Try.prog) w3 35 35 ty 9 G 0 256 256 ⟨X, 0, none⟩ 1 1 _ 9 [.string s] Try.underlying35 infoS hG3 rfl (fun j v hj => by
      rw [add_at, Nat.zero_add, Lib.cell_of_heap hX3]
      simpa using hj) (by simp) (fun v hv => by rcases List.mem_cons.1 hv with rfl | hv; rfl; simp at hv)
    rw [hh]
    congr 2
  obtain ⟨w4, hw4⟩ : ∃ w4, w3.setRow G (l1.map Value.string).toArray = w4 := ⟨_, rfl⟩
  rw [hw4] at hcp
  have hG4 : w4.heap[G]? = some (.cells (l1.map Value.string).toArray 9 (0, 0)) := by rw [← hw4]; exact setRow_heap w3 G _ _ 9 (0, 0) hG3
  have hb4 : Below G w w4 := by
    rw [← hw4]
    have hb := (hb2.mono (by omega)).trans hb3
    exact ⟨hb.os, hb.tape, hb.output, by simpa using hb.size, fun k hk => by rw [setRow_other w3 G k _ (by omega)]; exact hb.block k hk⟩
  have hGw : w.heap.size = G := by omega
  have HR := Aside0.mk (show w4.heap[G]? = some (.cells (l1.map Value.string).toArray 9 (0, 0)) ∧ Below G w w4 from ⟨hG4, hb4⟩)
  have HL := Aside0.mk (show l1.length = 256 ∧ ∀ j, j < 1 → l1[j]? = some s from ⟨hl1, fun j hj => (show j = 0 by omega) ▸ hl2⟩)
  clear hl1 hl2 hl3 hG4 hb4 hX3 hG3 hb3 hb2 hz2 hXG HM
  have HGW := Aside0.mk hGw
  clear hGw
  go_wp2_with fail
  go_loopg [8] 255 (fun gg s8 wr => ∃ (n : Nat) (l : List ByteArray), s8 = .int .i64 n ∧ n + gg = 256 ∧ 1 ≤ n ∧ Aside0 (wr.heap[G]? = some (.cells (l.map Value.string).toArray 9 (0, 0)) ∧ Below G w wr) ∧ Aside0 (l.length = 256 ∧ ∀ j, j < n → l[j]? = some s))
  case atStart => exact ⟨1, l1, rfl, by omega, by omega, HR, HL⟩
  case round =>
    clear HR HL
    obtain ⟨n, l, rfl, hn, hn1, HR, HL⟩ := hrel
    by_cases hlt : n < 256
    · have hd : decide ((n : Int) < 256) = true := decide_eq_true (by omega)
      obtain ⟨i0, hi0, hz0, hz1, hz2⟩ := info_parts infoS3
      have hn0 : (0 : Int) ≤ (n : Int) := by omega
      have hn2 : (n : Int) ≤ 256 := by omega
      have hc1 := cut256 G n hlt
      have hc2 : ∀ W : World, (Instr.slice 35 (.slice (some ⟨G, 0, none⟩) 256 256) none (some (.int .i64 (n : Int))) none).run Try.prog W = .ok (.slice (some ⟨G, 0, none⟩) n 256) W := fun W => by
        have := cut_to (P := Try.prog) 35 9 .i64 Try.underlying35 hi0 (some ⟨G, 0, none⟩) 256 256 (n : Int) hn0 hn2 (by omega) W
        rw [Int.toNat_natCast] at this; exact this
      obtain ⟨m, l', hm1, hm2, hm3, hl1, hl2, hcp⟩ := rep_ok n hlt hn1 G l s HL.out.1 HL.out.2 wr.drew HR.out.1
      have hw := rep_w n m hm3
      obtain ⟨w5, hw5⟩ : ∃ w5, wr.drew.setRow G (l'.map Value.string).toArray = w5 := ⟨_, rfl⟩
      rw [hw5] at hcp
      have hG5 : w5.heap[G]? = some (.cells (l'.map Value.string).toArray 9 (0, 0)) := by rw [← hw5]; exact setRow_heap wr.drew G _ _ 9 (0, 0) HR.out.1
      have hb5 : Below G w w5 := by
        rw [← hw5]
        have hb := HR.out.2
        exact ⟨hb.os, hb.tape, hb.output, by simpa using hb.size, fun k hk => by rw [setRow_other wr.drew G k _ (by omega)]; exact hb.block k hk⟩
      have HR5 := Aside0.mk (And.intro hG5 hb5)
      have HL5 := Aside0.mk (And.intro hl1 hl2)
      clear hG5 hb5 hl1 hl2 HR HL hi0 hz0 hz1 hz2
      go_wp2_with fail
      refine startL (fun _ => True) [] (by kernel_rfl) ?_
      change WalkL _ _ _ _ _ _ 10 #[false, false, false, false, false, false, false, false, false, false] _ _
      have hS : True := trivial
      refine pu 0 (.int .i64 (n : Int)) hS rfl ?_
      refine pu 1 (.slice (some ⟨G, 0, none⟩) 256 256) hS rfl ?_
      refine pu 2 (.int .i64 (n : Int)) hS rfl ?_
      refine pu 3 (.slice (some ⟨G, n, none⟩) (256 - n) (256 - n)) hS rfl ?_
      refine pu 4 (.slice (some ⟨G, 0, none⟩) 256 256) hS rfl ?_
      refine pu 5 (.int .i64 (n : Int)) hS rfl ?_
      refine pu 6 (.slice (some ⟨G, 0, none⟩) n 256) hS rfl ?_
      refine vl 7 (.int .i64 (m : Int)) (hcp 3) (by kernel_rfl) rfl hS ?_
      refine pu 8 (.int .i64 ((n + m : Nat) : Int)) hS rfl ?_
      refine pu 9 (.int .i64 ((n + m : Nat) : Int)) hS rfl ?_
      refine doneL (by kernel_rfl) ?_ _
      go_wp2_with fail
      go_roundg (256 - (n + m))
      case rel => exact ⟨n + m, l', rfl, by omega, by omega, HR5, HL5⟩
      case measure => omega
    · have hd : decide ((n : Int) < 256) = false := decide_eq_false (by omega)
      have hq : l = List.replicate 256 s := eq_rep s 256 l HL.out.1 (fun j hj => HL.out.2 j (by omega))
      have HQ := Aside0.mk hq
      clear hq
      go_wp2_with fail
      go_ret
      exact ⟨G, rfl, by rw [← HQ.out]; exact HR.out.1, by rw [HGW.out]; exact HR.out.2, by rw [HGW.out]; exact Nat.le_refl _⟩
theorem isz256 : disk_isSize.f 256 = some true := by kernel_rfl
/-- What no write has reached is bytes 0. -/
def zero512 : ByteArray := ⟨(Lib.repeatL [0] 512).toArray⟩
theorem rep512 : strings_Repeat.f ⟨#[0]⟩ 512 = some zero512 := by
  unfold strings_Repeat.f
  rw [if_pos (by decide)]
  rfl
set_option maxHeartbeats 8000000 in
theorem dnew.calls (w : World) :
    Calls Try.prog 6 #[.int .i64 256] w (fun e w' => ∃ D g1 g2, e = .returned (.tuple #[.pointer (some ⟨D, 0, none⟩), .int .i64 0]) ∧ DiskAt w' D g1 g2 (List.replicate 256 zero512) (List.replicate 256 zero512) (.slice none 0 0) 0 ∧ Below w.heap.size w w' ∧ w.heap.size ≤ D ∧ w.heap.size ≤ g1 ∧ w.heap.size ≤ g2) := by
  have H1 := disk_isSize.calls 256 true w isz256
  obtain ⟨z, hz⟩ : ∃ z, zero512 = z := ⟨_, rfl⟩
  have H2 := Aside0.mk (fun W => strings_Repeat.calls ⟨#[0]⟩ 512 z W (by rw [← hz]; exact rep512))
  rw [hz]
  clear hz
  go_enter Try.func6, Try.ntmps6
  go_wp2_with fail
  refine H1.mono ?_
  rintro e w1 ⟨rfl, hd1⟩
  obtain ⟨q1, rfl⟩ := hd1.out
  obtain ⟨w2, hw2⟩ : ∃ w2, w.drewN q1 = w2 := ⟨_, rfl⟩
  have hb2 : Below w.heap.size w w2 := by rw [← hw2]; exact pw_below_drewN (Below.refl _ w) q1
  rw [hw2]
  clear hw2 H1
  go_wp2_with fail
  refine (H2.out w2).mono ?_
  rintro e w3 ⟨rfl, hb3⟩
  have HB3 := Aside0.mk (hb2.trans (hb3.mono hb2.size))
  clear hb2 hb3
  go_wp2_with fail
  obtain ⟨X, hX⟩ : ∃ X, w3.heap.size = X := ⟨_, rfl⟩
  obtain ⟨w4, hw4⟩ : ∃ w4, w3.alloc (.cells #[.string z] 9) = w4 := ⟨_, rfl⟩
  have h4 : w4.heap[X]? = some (.cells #[.string z] 9 (0, 0)) := by
    rw [← hw4, ← hX]; show (w3.heap.push _)[w3.heap.size]? = _; exact Array.getElem?_push_size
  have hb4 : Below w.heap.size w w4 := by rw [← hw4]; exact HB3.out.alloc (by rw [hX]; have := HB3.out.size; omega) _
  rw [hX, hw4]
  refine (rep.calls X z w4 h4).mono ?_
  rintro e w5 ⟨G, rfl, hg5, hb5, hG5⟩
  have H3 := dof.calls G (List.replicate 256 z) w5 hg5 (List.length_replicate)
  have HB5 := Aside0.mk (hb4.trans (hb5.mono hb4.size))
  have HGG := Aside0.mk (Nat.le_trans hb4.size hG5)
  clear hw4 hX h4 hb4 hg5 hb5 hG5 HB3 H2
  go_wp2_with fail
  refine H3.mono ?_
  rintro e w6 ⟨D, g2, rfl, hD, hb6, hD6, hg6⟩
  have HR := Aside0.mk (And.intro hD (HB5.out.trans (hb6.mono HB5.out.size)))
  have HS := Aside0.mk (And.intro (Nat.le_trans HB5.out.size hD6) (Nat.le_trans HB5.out.size hg6))
  clear hD hb6 hD6 hg6 H3
  go_wp2_with fail
  go_ret2
  exact ⟨D, G, g2, rfl, HR.out.1, HR.out.2, HS.out.1, HGG.out, HS.out.2⟩
end Go.Proofs.Ythgefgjaihagoaa.Q
