/- Plain laws: what the reference's Put, Get, Drop, Keys, Next answer for a list that rises. -/
import Derived.Test.YtkfcflflgecljaaHBagRefD
import Derived.Test.YtkfcflflgecljaaHBagO
import Derived.Test.YtkfcflflgecljaaHBagBef
set_option linter.unusedVariables false
namespace Go.Proofs.Ytkfcflflgecljaa.H
open Go.RowKit Go.Proofs.YtkfcflflgecljaaW.PrintWords
abbrev EB := Int × ByteArray
def toE (es : List EB) : List S88 := es.map fun e => ⟨e.1, e.2⟩
theorem toE_len (es : List EB) : (toE es).length = es.length := List.length_map ..
theorem rdE {es : List EB} {i : Nat} {e : EB} {r : List EB} (h : es.drop i = e :: r) : rd_T88 (toE es) (i : Int) = ⟨e.1, e.2⟩ ∧ i < es.length ∧ es.drop (i + 1) = r := by
  have hl : i < es.length := by
    have := congrArg List.length h
    rw [List.length_drop, List.length_cons] at this; omega
  have hd := List.drop_eq_getElem_cons hl
  rw [h] at hd
  injection hd with h1 h2
  refine ⟨?_, hl, h2.symm⟩
  unfold rd_T88 toE
  rw [Int.toNat_natCast, List.getD_eq_getElem?_getD, List.getElem?_map, List.getElem?_eq_getElem hl, ← h1]; rfl
theorem endE {es : List EB} {i : Nat} (h : es.drop i = []) : es.length ≤ i := List.drop_eq_nil_iff.1 h
theorem iw (i : Nat) (h : i < 1000000) : wrap64 ((i : Int) + 1) = ((i + 1 : Nat) : Int) := by rw [IntWalk.wrap64_in _ (by omega)]; omega
theorem get_run (es : List EB) (hn : es.length < 1000000) (a : Int) : ∀ (es' : List EB) (i : Nat), es.drop i = es' → ∃ K, nautilusref02_Get.l0 K (toE es) a (i : Int) = some ((getL a es').getD ⟨#[]⟩, (getL a es').isSome)
  | [], i, h => ⟨1, by rw [nautilusref02_Get.l0, if_neg (by rw [toE_len]; have := endE h; omega)]; rfl⟩
  | e :: r, i, h => by
    obtain ⟨h1, h2, h3⟩ := rdE h
    obtain ⟨K, hK⟩ := get_run es hn a r (i + 1) h3
    refine ⟨K + 1, ?_⟩
    rw [nautilusref02_Get.l0, if_pos (by rw [toE_len]; omega), if_pos (by omega), h1]
    by_cases he : e.1 = a
    · rw [if_pos he]
      have : getL a (e :: r) = some e.2 := by unfold getL; rw [List.find?_cons, show (e.1 == a) = true by simp [he]]; rfl
      rw [this]; rfl
    · rw [if_neg he, iw i (by omega), hK]
      have : getL a (e :: r) = getL a r := by unfold getL; rw [List.find?_cons, show (e.1 == a) = false by simp [he]]
      rw [this]
theorem ref_get (es : List EB) (hn : es.length < 1000000) (a : Int) : ∃ K, nautilusref02_Get.f K (toE es) a = some ((getL a es).getD ⟨#[]⟩, (getL a es).isSome) := get_run es hn a es 0 rfl
theorem next_run (es : List EB) (hn : es.length < 1000000) (a : Int) : ∀ (es' : List EB) (i : Nat), es.drop i = es' → ∃ K, nautilusref02_Next.l0 K (toE es) a (i : Int) = some ((((fr a es').head?.map Prod.fst).getD 0), ((fr a es').head?.map Prod.fst).isSome)
  | [], i, h => ⟨1, by rw [nautilusref02_Next.l0, if_neg (by rw [toE_len]; have := endE h; omega)]; rfl⟩
  | e :: r, i, h => by
    obtain ⟨h1, h2, h3⟩ := rdE h
    obtain ⟨K, hK⟩ := next_run es hn a r (i + 1) h3
    refine ⟨K + 1, ?_⟩
    rw [nautilusref02_Next.l0, if_pos (by rw [toE_len]; omega), if_pos (by omega), h1]
    by_cases he : e.1 ≥ a
    · rw [if_pos he]
      have : fr a (e :: r) = e :: fr a r := by unfold fr; rw [List.filter_cons, if_pos (by simpa using he)]
      rw [this]; rfl
    · rw [if_neg he, iw i (by omega), hK]
      have : fr a (e :: r) = fr a r := by unfold fr; rw [List.filter_cons, if_neg (by simpa using he)]
      rw [this]
theorem ref_next (es : List EB) (hn : es.length < 1000000) (a : Int) : ∃ K, nautilusref02_Next.f K (toE es) a = some ((((fr a es).head?.map Prod.fst).getD 0), ((fr a es).head?.map Prod.fst).isSome) := next_run es hn a es 0 rfl
theorem keys_run (es : List EB) (hn : es.length < 1000000) (a b : Int) : ∀ (es' : List EB) (i : Nat) (out : List Int), es.drop i = es' → out.length + es'.length < 1000000 → ∃ K, nautilusref02_Keys.l0 K (toE es) a b out (i : Int) = some (out ++ keysL a b es')
  | [], i, out, h, _ => ⟨1, by rw [nautilusref02_Keys.l0, if_neg (by rw [toE_len]; have := endE h; omega)]; simp [keysL, fr]⟩
  | e :: r, i, out, h, ho => by
    obtain ⟨h1, h2, h3⟩ := rdE h
    rw [List.length_cons] at ho
    by_cases ha : e.1 ≥ a
    · have hf : fr a (e :: r) = e :: fr a r := by unfold fr; rw [List.filter_cons, if_pos (by simpa using ha)]
      by_cases hb : e.1 < b
      · obtain ⟨K, hK⟩ := keys_run es hn a b r (i + 1) (out ++ [e.1]) h3 (by rw [List.length_append, List.length_singleton]; omega)
        refine ⟨K + 1, ?_⟩
        rw [nautilusref02_Keys.l0, if_pos (by rw [toE_len]; omega), if_pos (by omega), h1, if_pos ha, if_pos hb, if_pos (by omega), iw i (by omega), hK]
        unfold keysL
        rw [hf, List.map_cons, List.filter_cons, if_pos (by simpa using hb)]; simp
      · obtain ⟨K, hK⟩ := keys_run es hn a b r (i + 1) out h3 (by omega)
        refine ⟨K + 1, ?_⟩
        rw [nautilusref02_Keys.l0, if_pos (by rw [toE_len]; omega), if_pos (by omega), h1, if_pos ha, if_neg hb, iw i (by omega), hK]
        unfold keysL
        rw [hf, List.map_cons, List.filter_cons, if_neg (by simpa using hb)]
    · obtain ⟨K, hK⟩ := keys_run es hn a b r (i + 1) out h3 (by omega)
      refine ⟨K + 1, ?_⟩
      rw [nautilusref02_Keys.l0, if_pos (by rw [toE_len]; omega), if_pos (by omega), h1, if_neg ha, iw i (by omega), hK]
      have hf : fr a (e :: r) = fr a r := by unfold fr; rw [List.filter_cons, if_neg (by simpa using ha)]
      unfold keysL
      rw [hf]
theorem ref_keys (es : List EB) (hn : es.length < 1000000) (a b : Int) : ∃ K, nautilusref02_Keys.f K (toE es) a b = some (keysL a b es) := by
  obtain ⟨K, hK⟩ := keys_run es hn a b es 0 [] rfl (by simpa using hn)
  exact ⟨K, by unfold nautilusref02_Keys.f; simpa using hK⟩
theorem drop_run (es : List EB) (hn : es.length < 1000000) (a : Int) : ∀ (es' : List EB) (i : Nat) (out : List S88), es.drop i = es' → out.length + es'.length < 1000000 → ∃ K, nautilusref02_Drop.l0 K (toE es) a out (i : Int) = some (out ++ toE (delL a es'), (((out ++ toE (delL a es')).length : Int) != (es.length : Int)))
  | [], i, out, h, _ => ⟨1, by
    rw [nautilusref02_Drop.l0, if_neg (by rw [toE_len]; have := endE h; omega)]
    rw [show toE (delL a ([] : List EB)) = [] from rfl, List.append_nil, toE_len]⟩
  | e :: r, i, out, h, ho => by
    obtain ⟨h1, h2, h3⟩ := rdE h
    rw [List.length_cons] at ho
    by_cases ha : e.1 = a
    · obtain ⟨K, hK⟩ := drop_run es hn a r (i + 1) out h3 (by omega)
      refine ⟨K + 1, ?_⟩
      rw [nautilusref02_Drop.l0, if_pos (by rw [toE_len]; omega), if_pos (by omega), h1, if_pos ha, iw i (by omega), hK]
      have : delL a (e :: r) = delL a r := by unfold delL; rw [List.filter_cons, if_neg (by simp [ha])]
      rw [this]
    · obtain ⟨K, hK⟩ := drop_run es hn a r (i + 1) (out ++ [⟨e.1, e.2⟩]) h3 (by rw [List.length_append, List.length_singleton]; omega)
      refine ⟨K + 1, ?_⟩
      rw [nautilusref02_Drop.l0, if_pos (by rw [toE_len]; omega), if_pos (by omega), h1, if_neg ha, if_pos (by omega), iw i (by omega), hK]
      have : delL a (e :: r) = e :: delL a r := by unfold delL; rw [List.filter_cons, if_pos (by simp [ha])]
      rw [this]
      rw [show out ++ [⟨e.1, e.2⟩] ++ toE (delL a r) = out ++ toE (e :: delL a r) by simp [toE]]
theorem ref_drop (es : List EB) (hn : es.length < 1000000) (hr : Rise es) (a : Int) : ∃ K, nautilusref02_Drop.f K (toE es) a = some (toE (delL a es), (getL a es).isSome) := by
  obtain ⟨K, hK⟩ := drop_run es hn a es 0 [] rfl (by simpa using hn)
  refine ⟨K, ?_⟩
  unfold nautilusref02_Drop.f
  rw [show ((0 : Nat) : Int) = 0 from rfl] at hK
  rw [hK, List.nil_append, toE_len]
  congr 2
  cases hg : getL a es with
  | none => rw [delL_same hg]; simp
  | some v =>
    have := delL_length hr (at_ := a) (by rw [hg]; rfl)
    simp; omega
theorem put_done (es : List EB) (hn : es.length < 1000000) (a : Int) (v : ByteArray) : ∀ (es' : List EB) (i : Nat) (out : List S88) (met : Bool), es.drop i = es' → out.length + es'.length < 1000000 → ∃ K, nautilusref02_Put.l0 K (toE es) a v out met true (i : Int) = some (out ++ toE es', met)
  | [], i, out, met, h, _ => ⟨1, by
    rw [nautilusref02_Put.l0, if_neg (by rw [toE_len]; have := endE h; omega), if_pos rfl]
    rw [show toE ([] : List EB) = [] from rfl, List.append_nil]⟩
  | e :: r, i, out, met, h, ho => by
    obtain ⟨h1, h2, h3⟩ := rdE h
    rw [List.length_cons] at ho
    obtain ⟨K, hK⟩ := put_done es hn a v r (i + 1) (out ++ [⟨e.1, e.2⟩]) met h3 (by rw [List.length_append, List.length_singleton]; omega)
    refine ⟨K + 2, ?_⟩
    rw [nautilusref02_Put.l0, if_pos (by rw [toE_len]; omega), if_pos rfl, nautilusref02_Put.j1, if_neg (by decide), if_pos (by omega), if_pos (by rw [toE_len]; omega), if_pos (by omega), h1, iw i (by omega), hK]
    simp [toE]
theorem put_run (es : List EB) (hn : es.length < 1000000) (a : Int) (v : ByteArray) : ∀ (es' : List EB) (i : Nat) (out : List S88), es.drop i = es' → Rise es' → out.length + es'.length + 1 < 1000000 →
    ∃ K, nautilusref02_Put.l0 K (toE es) a v out false false (i : Int) = some (out ++ toE (insL a v es'), (getL a es').isSome)
  | [], i, out, h, _, ho => ⟨1, by
    rw [nautilusref02_Put.l0, if_neg (by rw [toE_len]; have := endE h; omega), if_neg (by decide), if_pos (by omega)]; rfl⟩
  | e :: r, i, out, h, hr, ho => by
    obtain ⟨h1, h2, h3⟩ := rdE h
    rw [List.length_cons] at ho
    obtain ⟨hlt, hrr⟩ := rise_cons.1 hr
    by_cases hge : e.1 ≥ a
    · by_cases heq : e.1 = a
      · obtain ⟨K, hK⟩ := put_done es hn a v r (i + 1) (out ++ [⟨a, v⟩]) true h3 (by rw [List.length_append, List.length_singleton]; omega)
        refine ⟨K + 2, ?_⟩
        rw [nautilusref02_Put.l0, if_pos (by rw [toE_len]; omega), if_neg (by decide), if_pos (by omega), h1, nautilusref02_Put.j1]
        rw [show decide (e.1 ≥ a) = true from decide_eq_true hge, if_pos rfl, if_pos (by omega)]
        simp only [Option.bind_some]
        rw [if_pos (by omega), if_pos (by rw [toE_len]; omega), h1, if_pos heq, iw i (by omega)]
        rw [show (e.1 == a) = true by simp [heq], hK]
        have hi := insL_here a v e.2 [] r (fun x hx => by simp at hx) (fun x hx => by have := hlt x hx; omega)
        rw [List.nil_append, List.nil_append, ← heq] at hi
        have hg : getL a (e :: r) = some e.2 := by unfold getL; rw [List.find?_cons, show (e.1 == a) = true by simp [heq]]; rfl
        rw [hg, ← heq, show (e.1, e.2) :: r = e :: r from rfl] at *
        rw [show insL e.1 v (e :: r) = (e.1, v) :: r from hi]
        simp [toE]
      · obtain ⟨K, hK⟩ := put_done es hn a v r (i + 1) (out ++ [⟨a, v⟩] ++ [⟨e.1, e.2⟩]) false h3 (by rw [List.length_append, List.length_append, List.length_singleton, List.length_singleton]; omega)
        refine ⟨K + 2, ?_⟩
        rw [nautilusref02_Put.l0, if_pos (by rw [toE_len]; omega), if_neg (by decide), if_pos (by omega), h1, nautilusref02_Put.j1]
        rw [show decide (e.1 ≥ a) = true from decide_eq_true hge, if_pos rfl, if_pos (by omega)]
        simp only [Option.bind_some]
        rw [if_pos (by omega), if_pos (by rw [toE_len]; omega), h1, if_neg heq, if_pos (by rw [List.length_append, List.length_singleton]; omega), iw i (by omega)]
        rw [show (e.1 == a) = false by simp [heq], hK]
        have hi := insL_new a v [] (e :: r) (fun x hx => by simp at hx) (fun x hx => by
          rcases List.mem_cons.1 hx with rfl | hx
          · omega
          · have := hlt x hx; omega)
        rw [List.nil_append, List.nil_append] at hi
        have hg : getL a (e :: r) = none := getL_none a _ fun x hx => by
          rcases List.mem_cons.1 hx with rfl | hx
          · exact heq
          · have := hlt x hx; omega
        rw [hg, hi]
        simp [toE]
    · obtain ⟨K, hK⟩ := put_run es hn a v r (i + 1) (out ++ [⟨e.1, e.2⟩]) h3 hrr (by rw [List.length_append, List.length_singleton]; omega)
      refine ⟨K + 2, ?_⟩
      rw [nautilusref02_Put.l0, if_pos (by rw [toE_len]; omega), if_neg (by decide), if_pos (by omega), h1, nautilusref02_Put.j1]
      rw [show decide (e.1 ≥ a) = false from decide_eq_false hge, if_neg (by decide), if_pos (by omega), if_pos (by rw [toE_len]; omega), if_pos (by omega), h1, iw i (by omega), hK]
      have hi := insL_mid a v [e] r [] (fun x hx => by obtain rfl := List.mem_singleton.1 hx; omega) (fun x hx => by simp at hx)
      rw [List.append_nil, List.append_nil] at hi
      have hg : getL a (e :: r) = getL a r := by unfold getL; rw [List.find?_cons, show (e.1 == a) = false by simp; omega]
      rw [hg, show e :: r = [e] ++ r from rfl, hi]
      simp [toE]
theorem ref_put (es : List EB) (hn : es.length < 900000) (hr : Rise es) (a : Int) (v : ByteArray) : ∃ K, nautilusref02_Put.f K (toE es) a v = some (toE (insL a v es), (getL a es).isSome) := by
  obtain ⟨K, hK⟩ := put_run es (by omega) a v es 0 [] rfl hr (by simp; omega)
  exact ⟨K, by unfold nautilusref02_Put.f; simpa using hK⟩
theorem ref_pick (a : Int) (h0 : -9223372036854775808 ≤ a) (h1 : a < 9223372036854775808) : ∃ r, nautiluslaw02_pick.f a 7 = some r ∧ 0 ≤ r ∧ r < 7 := by
  unfold nautiluslaw02_pick.f
  by_cases h : a < 0
  · rw [if_pos h, if_neg (by decide), IntWalk.wrap64_in (a + 1) (by omega), IntWalk.wrap64_in (-(a + 1)) (by omega), Int.tmod_eq_emod_of_nonneg (by omega)]
    exact ⟨_, rfl, by omega, by omega⟩
  · rw [if_neg h, if_neg (by decide), Int.tmod_eq_emod_of_nonneg (by omega)]
    exact ⟨_, rfl, by omega, by omega⟩
end Go.Proofs.Ytkfcflflgecljaa.H
