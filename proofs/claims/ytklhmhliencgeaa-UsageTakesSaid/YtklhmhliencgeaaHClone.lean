/- slices.Clone at the seat's struct. -/
import Derived.Test.YtklhmhliencgeaaQ0
import Derived.Shelf.Abstract
import Derived.Lib.LazyBuf
set_option linter.unusedVariables false
set_option linter.unusedSimpArgs false
namespace Go.Proofs.Ytklhmhliencgeaa.Q
open Go.RowKit Go.Proofs.YtklhmhliencgeaaW.PrintWords Go.Proofs.YtklhmhliencgeaaW.PrintLast Go.Proofs.YtklhmhliencgeaaW.PrintMore
set_option maxRecDepth 100000

def api_Seg_25.f (l : List S30) : Option (List S30) := if l.length ≤ 1000000000 then some l else none
theorem api_Seg_25.calls (A0 : Option Addr) (c0 : Nat) (l0 : List S30) (r : List S30) (w : World) (hr0 : Kd.C k30 w A0 l0.length l0) (hc0 : l0.length ≤ c0)
    (h : api_Seg_25.f l0 = some r) :
    Calls Try.prog 25 #[.slice A0 l0.length c0] w fun e w' => ∃ v0_ : Value, e = .returned v0_ ∧ Kd.R k30 30 w' w.heap.size (fun _ => True) v0_ r ∧ Below w.heap.size w w' := by
  unfold api_Seg_25.f at h
  split at h
  case isFalse => cases h
  case isTrue hlim =>
  obtain rfl := Option.some.inj h
  clear h
  cases A0 with
  | none =>
    have hl : l0 = [] := by
      apply List.eq_nil_of_length_eq_zero
      apply Classical.byContradiction
      intro hne
      obtain ⟨ad, c, e, _⟩ := Kd.C_get hr0 z30 0 (by omega) (by omega)
      cases e
    subst hl
    have he := Go.run_eql_slice_nil (P := Try.prog) w 22 30 none 0 c0 Try.underlying22
    go_enter Try.func25, Try.ntmps25
    go_wp2
    go_ret
    exact ⟨_, rfl, Kd.R_nil _ _ _ _ _, Below.refl _ _⟩
  | some ad =>
    have HR := Aside0.mk hr0
    clear hr0
    have he := Go.run_eql_slice_nil (P := Try.prog) w 22 30 (some ad) l0.length c0 Try.underlying22
    go_enter Try.func25, Try.ntmps25
    go_wp2_with (first
      | ((with_reducible refine gate_dst (N := 5) rfl ?_); refine Kd.R_lit k30 w.heap.size 30 ?hg (N := 5) ?hd (xs := []) (inner := []) (ok := fun _ => True) (okp := fun _ => True) ?hr ?hp (fun _ hk => hk) trivial (Below.refl _ _) (Nat.le_refl _) (by simp) ?_; (case hd => rfl); (case hg => rfl); (case hr => first | (go_simp; done) | (go_simp; rfl)); (case hp => exact Reps.none _ _); intro v1 w1 ho1 hb1 hg1 hn1; have HO1 := Aside0.mk ho1; have HB1 := Aside0.mk hb1; clear ho1 hb1 hg1 hn1)
      | ((with_reducible refine gate_dst (N := 7) rfl ?_); refine Kd.R_append_rows k30 (w0 := w) w.heap.size rfl _ _ 22 30 (.agg #[.int .i64 0, .int .u64 0, .int .i64 0]) 24 rfl Try.underlying22 info30 rfl (by decide) (by omega) v1 [] l0 _ _ _ (fun _ => True) (fun _ => False) rfl rfl ?aO ?aR (fun _ _ h => h) (fun _ h => h.elim) (fun _ _ => trivial) HB1.out (below_size HB1.out) ?aL ?_; (case aR => exact Kd.C_below HR.out HB1.out); (case aO => exact HO1.out); (case aL => simp only [List.length_nil]; omega); intro v2 w2 ho2 hb2 hg2 hn2; have HO2 := Aside0.mk ho2; have HB2 := Aside0.mk hb2; clear ho2 hb2 hg2 hn2))
    go_ret
    exact ⟨_, rfl, HO2.out, HB2.out⟩
end Go.Proofs.Ytklhmhliencgeaa.Q
