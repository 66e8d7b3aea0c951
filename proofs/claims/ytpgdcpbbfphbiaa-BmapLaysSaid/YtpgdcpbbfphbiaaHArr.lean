/- '==' of small arrays, in the print's words; arrays of a row's argument. -/
import Derived.Test.YtpgdcpbbfphbiaaHMake
import Derived.ChangeKeysEq
import Derived.WideShapes
set_option linter.unusedVariables false
set_option linter.unusedSimpArgs false
namespace Go.Proofs.Ytpgdcpbbfphbiaa.H
open Go.RowKit
section
variable {P : Program} {d n i : Nat} {e t : TypeId} {xs ys : Array Value} {is : List Nat} {a b : Value} {r s : Bool} {w : World}
theorem eqi_cons (ha : (part e xs (i * n)).run P w = .ok a w) (hb : (part e ys (i * n)).run P w = .ok b w) (he : (Op.equalIn d e a b).run P w = .ok r w) (hr : (Op.eqItems d e n xs ys is).run P w = .ok s w) : (Op.eqItems d e n xs ys (i :: is)).run P w = .ok (r && s) w := by
  simp only [Op.eqItems, Sem.run_bind, ha, hb, he, Result.andThen_ok]
  cases r
  · simp
  · simpa using hr
theorem eqi_last (ha : (part e xs (i * n)).run P w = .ok a w) (hb : (part e ys (i * n)).run P w = .ok b w) (he : (Op.equalIn d e a b).run P w = .ok r w) : (Op.eqItems d e n xs ys [i]).run P w = .ok r w := by
  have h := eqi_cons ha hb he (show (Op.eqItems d e n xs ys []).run P w = .ok true w by simp [Op.eqItems])
  rwa [Bool.and_true] at h
theorem eqR_of {m : Nat} (hu : P.underlying t = some (.array m e)) (hi : (P.info? e).isSome = true) (hn : P.cellsOf e = n) (h : (Op.eqItems d e n xs ys (List.range m)).run P w = .ok r w) : (Op.equalIn (d + 1) t (.agg xs) (.agg ys)).run P w = .ok r w := by
  obtain ⟨j, hj⟩ := Option.isSome_iff_exists.1 hi
  rw [run_equalIn_array w d xs ys hu hj, hn]; exact h
end
open Go.ChangeShapes Go.WideShapes in
theorem okWide_struct' {P : Program} {w : World} {r : Reach} {base : Nat} {t : TypeId} {v : Value} {fs : Array Field} (ht : P.underlying t = some (.struct fs)) (h : Value.okWide P w r base t v) : ∃ cs, v = .agg cs ∧ cs.size = P.cellsOf t := okWide_struct ht h
open Go.ChangeShapes Go.WideShapes in
theorem okWide_array {P : Program} {w : World} {r : Reach} {base : Nat} {t e : TypeId} {n : Nat} {v : Value} (ht : P.underlying t = some (.array n e)) (h : Value.okWide P w r base t v) : ∃ cs, v = .agg cs ∧ cs.size = P.cellsOf t := by
  simp only [Value.okWide, ht] at h
  obtain ⟨cs, h1, h2, _⟩ := h
  exact ⟨cs, h1, h2⟩
end Go.Proofs.Ytpgdcpbbfphbiaa.H
