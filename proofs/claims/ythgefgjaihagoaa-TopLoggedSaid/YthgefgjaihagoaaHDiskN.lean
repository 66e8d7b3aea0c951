/- disk.New: a disk of 256 blocks; disk.of; slices.Repeat. -/
import Derived.Test.YthgefgjaihagoaaQ13
import Derived.Test.YthgefgjaihagoaaHDisk
import Derived.Test.YthgefgjaihagoaaHRep
import Derived.Laws.MakeOwn
set_option linter.unusedVariables false
set_option linter.unusedSimpArgs false
namespace Go.Proofs.Ythgefgjaihagoaa.Q
open Go.RowKit Go.Proofs.Ythgefgjaihagoaa.H Go.Proofs.YthgefgjaihagoaaW.PrintWords Go.Proofs.YthgefgjaihagoaaW.PrintLast
set_option maxRecDepth 100000
theorem infoSt : (Try.prog.info? 9).map (fun i => (i.zero, i.size, i.bytes)) = some (some (.string ⟨#[]⟩), 1, 16) := by kernel_rfl
theorem madeN (x : ByteArray) (n : Nat) : madeCells #[.string x] n = ((List.replicate n x).map Value.string).toArray := by
  apply Array.ext
  · simp [madeCells]
  · intro i h1 h2
    simp [madeCells, Nat.mod_one]
theorem made256 : madeCells #[.string ⟨#[]⟩] 256 = ((List.replicate 256 (⟨#[]⟩ : ByteArray)).map Value.string).toArray := madeN _ _
theorem mk256 (W : World) : (Instr.makeSlice 35 (.int .i64 256) (.int .i64 256)).run Try.prog W = .ok (.slice (some ⟨W.heap.size, 0, none⟩) 256 256) (W.alloc (.cells ((List.replicate 256 (⟨#[]⟩ : ByteArray)).map Value.string).toArray 9)) := by
  obtain ⟨i0, hi, hz0, hz1, hz2⟩ := info_parts infoSt
  have h := run_make (P := Try.prog) W 35 9 i0 (.string ⟨#[]⟩) Try.underlying35 hi hz0 .i64 .i64 256 256 (by decide) (by decide) (by rw [hz2]; decide) (by decide)
  rw [h, hz1]
  show Result.ok _ (W.alloc (.cells (madeCells #[.string ⟨#[]⟩] 256) 9)) = _
  rw [made256]; rfl
set_option maxHeartbeats 8000000 in
theorem dof.calls (g1 : Nat) (sf : List ByteArray) (w : World) (hg : w.heap[g1]? = some (.cells (sf.map Value.string).toArray 9 (0, 0))) (hl : sf.length = 256) :
    Calls Try.prog 29 #[.slice (some ⟨g1, 0, none⟩) 256 256] w (fun e w' => ∃ D g2, e = .returned (.pointer (some ⟨D, 0, none⟩)) ∧ DiskAt w' D g1 g2 sf sf (.slice none 0 0) 0 ∧ Below w.heap.size w w' ∧ w.heap.size ≤ D ∧ w.heap.size ≤ g2) := by
  have hmk := mk256 w
  obtain ⟨G, hG⟩ : ∃ G, w.heap.size = G := ⟨_, rfl⟩
  obtain ⟨w1, hw1⟩ : ∃ w1, w.alloc (.cells ((List.replicate 256 (⟨#[]⟩ : ByteArray)).map Value.string).toArray 9) = w1 := ⟨_, rfl⟩
  rw [hw1, hG] at hmk
  have lg1 : g1 < G := by rw [← hG]; exact (Array.getElem?_eq_some_iff.1 hg).1
  have hb1 : Below G w w1 := by rw [← hw1]; exact (Below.refl G w).alloc (by omega) _
  have h1 : w1.heap[G]? = some (.cells ((List.replicate 256 (⟨#[]⟩ : ByteArray)).map Value.string).toArray 9 (0, 0)) := by
    rw [← hw1, ← hG]; show (w.heap.push _)[w.heap.size]? = _; exact Array.getElem?_push_size
  have h2 : w1.heap[g1]? = _ := (hb1.block g1 lg1).trans hg
  have hs1 : w1.heap.size = G + 1 := by rw [← hw1]; simp [hG]
  have hlen : (sf.map Value.string).length = 256 := by rw [List.length_map]; exact hl
  have hcp : ∀ ty, (Builtin.copy_ #[35, 35] ty #[.slice (some ⟨G, 0, none⟩) 256 256, .slice (some ⟨g1, 0, none⟩) 256 256]).run Try.prog w1 = .ok (goInt 256) (w1.setRow G (sf.map Value.string).toArray) := fun ty => by
    have hh := run_copy_row (P := Try.prog) w1 35 35 ty 9 G 0 256 256 ⟨g1, 0, none⟩ 256 256 _ 9 (sf.map Value.string) Try.underlying35 infoS h1 (by rw [hlen]; rfl) (fun j v hj => by
      rw [add_at, Nat.zero_add, Lib.cell_of_heap h2]
      simpa using hj) (by rw [hlen]; simp) (fun v hv => by obtain ⟨x, _, rfl⟩ := List.mem_map.1 hv; rfl)
    rw [hlen] at hh
    rw [hh]
    congr 2
    rw [List.take_zero, List.nil_append, List.drop_eq_nil_of_le (by simp), List.append_nil]
  obtain ⟨w2, hw2⟩ : ∃ w2, w1.setRow G (sf.map Value.string).toArray = w2 := ⟨_, rfl⟩
  rw [hw2] at hcp
  have q1 : w2.heap[G]? = some (.cells (sf.map Value.string).toArray 9 (0, 0)) := by rw [← hw2]; exact setRow_heap w1 G _ _ 9 (0, 0) h1
  have q2 : w2.heap[g1]? = some (.cells (sf.map Value.string).toArray 9 (0, 0)) := by rw [← hw2, setRow_other w1 G g1 _ (by omega)]; exact h2
  have hs2 : w2.heap.size = G + 1 := by rw [← hw2]; simp [hs1]
  have hb2 : Below G w w2 := by
    rw [← hw2]
    exact ⟨hb1.os, hb1.tape, hb1.output, by simp [hs1]; omega, fun k hk => by rw [setRow_other w1 G k _ (by omega)]; exact hb1.block k hk⟩
  obtain ⟨w3, hw3⟩ : ∃ w3, w2.alloc (.cells #[.slice (some ⟨g1, 0, none⟩) 256 256, .slice (some ⟨G, 0, none⟩) 256 256, .slice none 0 0, .int .i64 0, .int .i64 (-1), .bool false] 95) = w3 := ⟨_, rfl⟩
  have r3 : w3.heap[G + 1]? = some (.cells #[.slice (some ⟨g1, 0, none⟩) 256 256, .slice (some ⟨G, 0, none⟩) 256 256, .slice none 0 0, .int .i64 0, .int .i64 (-1), .bool false] 95 (0, 0)) := by
    rw [← hw3, ← hs2]; show (w2.heap.push _)[w2.heap.size]? = _; exact Array.getElem?_push_size
  have hb3 : Below w2.heap.size w2 w3 := by rw [← hw3]; exact (Below.refl _ w2).alloc (Nat.le_refl _) _
  have HR := Aside0.mk (show DiskAt w3 (G + 1) g1 G sf sf (.slice none 0 0) 0 ∧ Below G w w3 from
    ⟨⟨⟨0, r3⟩, (hb3.block g1 (by omega)).trans q2, (hb3.block G (by omega)).trans q1, hl, hl, by omega, 0, [], World.ownsRow_nil _ _ _ _, Nat.le_refl _⟩, hb2.trans (hb3.mono (by omega))⟩)
  have hu := Try.underlying95
  clear hg hl lg1 hb1 h1 h2 hlen q1 q2 hb2 r3 hb3
  go_enter Try.func29, Try.ntmps29
  go_wp2_with fail
  go_ret
  exact ⟨G + 1, G, rfl, HR.out.1, by rw [hG]; exact HR.out.2, by omega, by omega⟩
end Go.Proofs.Ythgefgjaihagoaa.Q
