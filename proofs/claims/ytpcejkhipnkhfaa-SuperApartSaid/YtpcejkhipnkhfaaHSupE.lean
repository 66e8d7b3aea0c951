/- super.Encode: the bytes of a super block. -/
import Derived.Test.YtpcejkhipnkhfaaQ4
import Derived.Test.YtpcejkhipnkhfaaHNum
set_option linter.unusedVariables false
set_option linter.unusedSimpArgs false
namespace Go.Proofs.Ytpcejkhipnkhfaa.Q
open Go.RowKit Go.Shelf Go.Proofs.Ytpcejkhipnkhfaa.H Go.Proofs.YtpcejkhipnkhfaaW.PrintWords Go.Proofs.YtpcejkhipnkhfaaW.PrintLast Go.Proofs.YtpcejkhipnkhfaaW.PrintMore
attribute [local go_sem] Oper.semAt_some
set_option maxRecDepth 100000

def supL (a b c d : Int) : List (Int × Int) := [(a, 4), (b, 6), (c, 4), (d, 6)]
def supB (l : List (Int × Int)) : List UInt8 := (l.map fun x => lowBytes x.1 x.2.toNat).flatten
def encL (a b c d : Int) : List UInt8 := [78, 65, 85, 84] ++ supB (supL a b c d)
def encB (a b c d : Int) : ByteArray := ⟨(encL a b c d ++ List.replicate 488 (0 : UInt8)).toArray⟩
def super_Encode.f (a b c d : Int) : Option (ByteArray × Int) := (super_Right.f a b c d).bind fun r => if r = true then some (encB a b c d, 0) else some (⟨#[]⟩, 50)

theorem right_range {a b c d : Int} (h : super_Right.f a b c d = some true) : (128 ≤ a ∧ a ≤ 4096) ∧ (1 ≤ b ∧ b < 281474976710656) ∧ (16 ≤ c ∧ c < a) ∧ (1 ≤ d ∧ d < 281474976710656) := by
  unfold super_Right.f super_isDisk.f super_isNumber.f at h
  by_cases h1 : a ≥ 128 <;> by_cases h2 : a ≤ 4096 <;> by_cases h3 : (Int.tmod a 16 == 0) = true <;> by_cases h4 : c ≥ 16 <;> by_cases h5 : c < a <;> by_cases h6 : b > 0 <;> by_cases h7 : b < 281474976710656 <;> by_cases h8 : d > 0 <;> by_cases h9 : d < 281474976710656 <;> simp_all <;> omega

theorem supB_take (l : List (Int × Int)) (j : Nat) (h : j < l.length) : supB (l.take (j + 1)) = supB (l.take j) ++ lowBytes l[j].1 l[j].2.toNat := by
  unfold supB
  rw [List.take_succ_eq_append_getElem h, List.map_append, List.flatten_append]; simp
theorem supB_len (a b c d : Int) (j : Nat) : (supB ((supL a b c d).take j)).length ≤ 20 := by
  match j with
  | 0 => simp [supB, supL]
  | 1 => simp [supB, supL, lowBytes_length]
  | 2 => simp [supB, supL, lowBytes_length]
  | 3 => simp [supB, supL, lowBytes_length]
  | j + 4 => simp [supB, supL, lowBytes_length]
theorem put_yes_f {n wd : Int} (h1 : 1 ≤ wd) (h8 : wd ≤ 8) (h0 : 0 ≤ n) (hn : n < 256 ^ wd.toNat) (hn2 : n < 18446744073709551616) : num_Put.f n wd = some (leB n wd.toNat, 0) := by
  unfold num_Put.f
  rw [if_pos ⟨h0, hn2⟩, if_pos ⟨h1, h8⟩, if_pos (Int.ediv_eq_zero_of_lt h0 hn)]; rfl

/-- The cells of the table of numbers and widths. -/
def supC (a b c d : Int) : Array Value := #[.int .u64 a, .int .i64 4, .int .u64 b, .int .i64 6, .int .u64 c, .int .i64 4, .int .u64 d, .int .i64 6]
theorem sup_cells {W : World} {G : Nat} {t : TypeId} {a b c d : Int} (h : W.heap[G]? = some (.cells (supC a b c d) t (0, 0))) (ad : Addr) (had : (⟨G, 0, none⟩ : Addr) = ad) (j : Nat) (hj : j < 4) :
    ∃ n wd : Int, (supL a b c d)[j]? = some (n, wd) ∧ W.cell? (ad.add (j * 2)) = some (.int .u64 n) ∧ W.cell? ⟨(ad.add (j * 2)).block, (ad.add (j * 2)).off + 1, none⟩ = some (.int .i64 wd) := by
  subst had
  match j, hj with
  | 0, _ => exact ⟨a, 4, rfl, by show W.cell? ⟨G, 0, none⟩ = _; rw [Lib.cell_of_heap h]; rfl, by show W.cell? ⟨G, 1, none⟩ = _; rw [Lib.cell_of_heap h]; rfl⟩
  | 1, _ => exact ⟨b, 6, rfl, by show W.cell? ⟨G, 2, none⟩ = _; rw [Lib.cell_of_heap h]; rfl, by show W.cell? ⟨G, 3, none⟩ = _; rw [Lib.cell_of_heap h]; rfl⟩
  | 2, _ => exact ⟨c, 4, rfl, by show W.cell? ⟨G, 4, none⟩ = _; rw [Lib.cell_of_heap h]; rfl, by show W.cell? ⟨G, 5, none⟩ = _; rw [Lib.cell_of_heap h]; rfl⟩
  | 3, _ => exact ⟨d, 6, rfl, by show W.cell? ⟨G, 6, none⟩ = _; rw [Lib.cell_of_heap h]; rfl, by show W.cell? ⟨G, 7, none⟩ = _; rw [Lib.cell_of_heap h]; rfl⟩
  | j + 4, hj => omega
theorem sup_put {a b c d : Int} (h : (128 ≤ a ∧ a ≤ 4096) ∧ (1 ≤ b ∧ b < 281474976710656) ∧ (16 ≤ c ∧ c < a) ∧ (1 ≤ d ∧ d < 281474976710656)) {j : Nat} {n wd : Int} (hn : (supL a b c d)[j]? = some (n, wd)) : num_Put.f n wd = some (leB n wd.toNat, 0) ∧ wd.toNat ≤ 6 := by
  have e4 : (256 : Int) ^ (4 : Int).toNat = 4294967296 := by decide
  have e6 : (256 : Int) ^ (6 : Int).toNat = 281474976710656 := by decide
  match j with
  | 0 => obtain ⟨rfl, rfl⟩ : a = n ∧ 4 = wd := by simpa [supL] using hn
         exact ⟨put_yes_f (by omega) (by omega) (by omega) (by rw [e4]; omega) (by omega), by decide⟩
  | 1 => obtain ⟨rfl, rfl⟩ : b = n ∧ 6 = wd := by simpa [supL] using hn
         exact ⟨put_yes_f (by omega) (by omega) (by omega) (by rw [e6]; omega) (by omega), by decide⟩
  | 2 => obtain ⟨rfl, rfl⟩ : c = n ∧ 4 = wd := by simpa [supL] using hn
         exact ⟨put_yes_f (by omega) (by omega) (by omega) (by rw [e4]; omega) (by omega), by decide⟩
  | 3 => obtain ⟨rfl, rfl⟩ : d = n ∧ 6 = wd := by simpa [supL] using hn
         exact ⟨put_yes_f (by omega) (by omega) (by omega) (by rw [e6]; omega) (by omega), by decide⟩
  | j + 4 => simp [supL] at hn
theorem sup_take {a b c d : Int} {j : Nat} {n wd : Int} (hn : (supL a b c d)[j]? = some (n, wd)) : supB ((supL a b c d).take (j + 1)) = supB ((supL a b c d).take j) ++ lowBytes n wd.toNat := by
  obtain ⟨hj, e⟩ := List.getElem?_eq_some_iff.1 hn
  rw [supB_take _ j hj, e]

set_option maxHeartbeats 8000000 in
theorem supE_yes (a b c d : Int) (w : World) (hr : super_Right.f a b c d = some true) :
    Calls Try.prog 9 #[.agg #[.int .i64 a, .int .u64 b, .int .i64 c, .int .u64 d]] w fun e w' => e = .returned (.tuple #[.string (encB a b c d), .int .i64 0]) ∧ Below w.heap.size w w' := by
  have HR := Aside0.mk hr
  have HG := Aside0.mk (right_range hr)
  clear hr
  have hu := Try.underlying24
  go_enter Try.func9, Try.ntmps9
  go_wp2_with (first | (go_at_call 13; refine (super_Right.calls a b c d true _ HR.out).mono ?_; rintro e w1 ⟨rfl, hb1⟩))
  obtain ⟨H, hH⟩ : ∃ H, w1.heap.size = H := ⟨_, rfl⟩
  have hlt : w.heap.size < H := by have := hb1.size; simp at this; omega
  have hbl : Below w.heap.size w w1 := ((Below.refl _ w).alloc (Nat.le_refl _) _).trans (hb1.mono (by simp))
  have hx : w1.heap[w.heap.size]? = some (.cells #[.int .i64 a, .int .u64 b, .int .i64 c, .int .u64 d] 24 (0, 0)) := (hb1.block _ (by simp)).trans (World.alloc_heap_new w _)
  have hfr := Lib.IsBuilderF.of (Lib.fresh_isBuilder 43 5 w1)
  rw [hH] at hfr ⊢
  refine (b_WriteString H H _ ⟨#[78, 65, 85, 84]⟩ _ hfr (by decide) (by simp [hH])).mono ?_
  rintro e w2 ⟨rfl, hB2, hbe2, ho2⟩
  have hx2 : w2.heap[w.heap.size]? = some (.cells #[.int .i64 a, .int .u64 b, .int .i64 c, .int .u64 d] 24 (0, 0)) := (hbe2.block _ hlt).trans ((Below.heap_alloc _ _ _ (by omega)).trans hx)
  have hc0 : w2.cell? ⟨w.heap.size, 0, none⟩ = some (.int .i64 a) := by rw [Lib.cell_of_heap hx2]; rfl
  have hc1 : w2.cell? ⟨w.heap.size, 1, none⟩ = some (.int .u64 b) := by rw [Lib.cell_of_heap hx2]; rfl
  have hc2 : w2.cell? ⟨w.heap.size, 2, none⟩ = some (.int .i64 c) := by rw [Lib.cell_of_heap hx2]; rfl
  have hc3 : w2.cell? ⟨w.heap.size, 3, none⟩ = some (.int .u64 d) := by rw [Lib.cell_of_heap hx2]; rfl
  have hbl2 : Below w.heap.size w w2 := hbl.trans (((Below.refl w.heap.size w1).alloc (by omega) _).trans (hbe2.mono (by omega)))
  have HX := Aside0.mk (And.intro hx hx2)
  clear hx hx2 hb1 hfr
  go_wp2_with fail
  have hw1 : w2.heap.size ≤ w2.heap.size := Nat.le_refl _
  have ewa : IntKind.u64.wrap a = a := IntWalk.u64_in a (by have := HG.out; omega)
  have ewc : IntKind.u64.wrap c = c := IntWalk.u64_in c (by have := HG.out; omega)
  rw [ewa, ewc]
  clear ewa ewc hw1
  have hg3 : (w2.alloc (.cells (supC a b c d) 48)).heap[w2.heap.size]? = some (.cells (supC a b c d) 48 (0, 0)) := World.alloc_heap_new w2 _
  have hfr3 : Lib.IsBuilderF 43 5 H H (Lib.byteCells ([78, 65, 85, 84] ++ supB ((supL a b c d).take 0))) (w2.alloc (.cells (supC a b c d) 48)) := (show Lib.IsBuilderF 43 5 H H (Lib.byteCells ([78, 65, 85, 84] ++ supB ((supL a b c d).take 0))) w2 from .inr hB2).alloc _
  have hbl3 : Below w.heap.size w (w2.alloc (.cells (supC a b c d) 48)) := hbl2.trans ((Below.refl w.heap.size w2).alloc hbl2.size _)
  obtain ⟨G, hG⟩ : ∃ G, w2.heap.size = G := ⟨_, rfl⟩
  have hHG : H < G := by have := hbe2.size; simp [hH] at this; omega
  obtain ⟨ad, had⟩ : ∃ ad : Addr, (⟨G, 0, none⟩ : Addr) = ad := ⟨_, rfl⟩
  rw [hG] at hg3 ⊢
  rw [had]
  change Code.wp _ _ _ _ (w2.alloc (.cells (supC a b c d) 48))
  generalize w2.alloc (.cells (supC a b c d) 48) = w3 at hg3 hfr3 hbl3 ⊢
  clear hc0 hc1 hc2 hc3 HX hB2 hbe2 ho2 hbl2
  go_loopw [29] (fun i wr => ∃ j : Nat, j ≤ 4 ∧ i = .int .i64 j ∧ Lib.IsBuilderF 43 5 H H (Lib.byteCells ([78, 65, 85, 84] ++ supB ((supL a b c d).take j))) wr ∧ wr.heap[G]? = some (.cells (supC a b c d) 48 (0, 0)) ∧ Below w.heap.size w wr) (fun i _ => 4 - (intOf i).toNat)
  case atStart => exact ⟨0, by omega, rfl, hfr3, hg3, hbl3⟩
  case round =>
    obtain ⟨j, hj, rfl, hBd, hgj, hbe⟩ := hrel
    by_cases hlt : j < 4
    · obtain ⟨n, wd, hn, g0, g1⟩ := sup_cells hgj ad had j hlt
      have hput := sup_put HG.out hn
      have HPUT := Aside0.mk hput
      have HN := Aside0.mk hn
      clear hput hn
      have hjl : decide ((j : Int) < 4) = true := decide_eq_true (by omega)
      go_wp2_with fail
      refine (num_Put.calls _ _ _ _ _ HPUT.out.1).mono ?_
      rintro e w4 ⟨rfl, hb4⟩
      have hHr : w.heap.size ≤ wr.heap.size := hbe.size
      have hb4' : Below wr.heap.size wr w4 := ((Below.refl _ wr).alloc (Nat.le_refl _) _).trans (hb4.mono (by simp))
      have hBd4 := (Turn.of_below (own := fun _ => False) (T := fun _ => False) hb4').builder hBd (fun h => h) (fun h => h)
      have hg4 : w4.heap[G]? = some (.cells (supC a b c d) 48 (0, 0)) := (hb4'.block G (Array.getElem?_eq_some_iff.1 hgj).1).trans hgj
      have hHw : H ≤ w4.heap.size := by have := (Array.getElem?_eq_some_iff.1 hg4).1; omega
      have hsl := supB_len a b c d j
      have hsz : (leB n wd.toNat).size ≤ 6 := by rw [leB_size]; exact HPUT.out.2
      clear hb4
      go_wp2_with fail
      refine (b_WriteString H H _ (leB n wd.toNat) w4 hBd4 (by rw [Lib.byteCells_length, List.length_append]; simp; omega) hHw).mono ?_
      rintro e w5 ⟨rfl, hB5, hbe5, ho5⟩
      go_wp2
      go_roundw
      case rel =>
        refine ⟨j + 1, by omega, by simp, ?_, (kept_typ ho5 hg4 (by omega) (by decide)).trans hg4, (hbe.trans (hb4'.mono hHr)).trans (hbe5.mono (by omega))⟩
        rw [sup_take HN.out, ← List.append_assoc, Lib.byteCells_append]
        exact .inr hB5
      case measure => simp [intOf]; omega
    · have hjl : decide ((j : Int) < 4) = false := decide_eq_false (by omega)
      obtain rfl : j = 4 := by omega
      have hHw : H ≤ wr.heap.size := by have := (Array.getElem?_eq_some_iff.1 hgj).1; omega
      have hfit : num_Fit.f ⟨([78, 65, 85, 84] ++ supB ((supL a b c d).take 4)).toArray⟩ 512 = some (encB a b c d, 0) := by
        have hs : (⟨([78, 65, 85, 84] ++ supB ((supL a b c d).take 4)).toArray⟩ : ByteArray).size = 24 := by simp [ByteArray.size, supB, supL, lowBytes_length]
        unfold num_Fit.f
        rw [if_neg (by omega), if_neg (by omega), if_neg (by omega), hs]
        have he : (⟨([78, 65, 85, 84] ++ supB ((supL a b c d).take 4)).toArray⟩ : ByteArray) ++ zerosB ((512 : Int) - ((24 : Nat) : Int)).toNat = encB a b c d := by
          unfold encB zerosB encL
          apply ByteArray.ext
          simp [supL]
        rw [he]
      go_wp2_with fail
      refine (b_String H H _ wr hBd hHw).mono ?_
      rintro e w4 ⟨rfl, hB4, hbe4, ho4⟩
      go_wp2_with fail
      refine (num_Fit.calls _ _ _ _ w4 hfit).mono ?_
      rintro e w5 ⟨rfl, hb5⟩
      have hs4 := hbe4.size
      have hs5 := hbe.size
      go_wp2
      go_ret2
      exact ⟨rfl, (hbe.trans (hbe4.mono (by omega))).trans (hb5.mono (by omega))⟩

set_option maxHeartbeats 4000000 in
theorem supE_no (a b c d : Int) (w : World) (hr : super_Right.f a b c d = some false) :
    Calls Try.prog 9 #[.agg #[.int .i64 a, .int .u64 b, .int .i64 c, .int .u64 d]] w fun e w' => e = .returned (.tuple #[.string ⟨#[]⟩, .int .i64 50]) ∧ Below w.heap.size w w' := by
  have hu := Try.underlying24
  go_enter Try.func9, Try.ntmps9
  go_wp2_with (first | (go_at_call 13; refine (super_Right.calls a b c d false _ hr).mono ?_; rintro e w1 ⟨rfl, hb1⟩))
  go_ret2
  exact ⟨rfl, ((Below.refl _ w).alloc (Nat.le_refl _) _).trans (hb1.mono (by simp))⟩
theorem super_Encode.calls (a b c d : Int) (r1 : ByteArray) (r2 : Int) (w : World) (h : super_Encode.f a b c d = some (r1, r2)) :
    Calls Try.prog 9 #[.agg #[.int .i64 a, .int .u64 b, .int .i64 c, .int .u64 d]] w fun e w' => e = .returned (.tuple #[.string r1, .int .i64 r2]) ∧ Below w.heap.size w w' := by
  unfold super_Encode.f at h
  obtain ⟨r, hr, h⟩ := Option.bind_eq_some_iff.mp h
  cases r with
  | false => rw [if_neg (by decide)] at h; cases h; exact supE_no a b c d w hr
  | true => rw [if_pos rfl] at h; cases h; exact supE_yes a b c d w hr
end Go.Proofs.Ytpcejkhipnkhfaa.Q
