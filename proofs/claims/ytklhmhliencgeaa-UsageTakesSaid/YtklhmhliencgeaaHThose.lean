/- usage.those: its iterator, counted. -/
import Derived.Test.YtklhmhliencgeaaQ0
import Derived.RangeFuncBox
import Derived.Maps.AppendAt
import Derived.Deep.QuietTactic
import Derived.BigQuiet
import Derived.LoopIn
import Derived.Test.YtklhmhliencgeaaHRF
import Derived.Test.YtklhmhliencgeaaHFuncs
set_option linter.unusedVariables false
set_option linter.unusedSimpArgs false
namespace Go.Proofs.Ytklhmhliencgeaa.Q
open Go.RowKit Go.Proofs.Ytklhmhliencgeaa.H Go.Proofs.YtklhmhliencgeaaW.PrintWords Go.Proofs.YtklhmhliencgeaaW.PrintLast

def dirtyB (x : E) : Bool := decide (x.f2 = 1) && decide (x.f0 < 16)
def atE (l : List E) (i : Nat) : E := l.getD i ⟨0, 0, 0⟩
def eligB (l : List E) (i : Nat) : Bool := decide (0 < i) && dirtyB (atE l i)
def elig (l : List E) (k : Nat) : List Nat := (List.range k).filter (eligB l)
theorem elig_yes (l : List E) (k : Nat) (h : eligB l k = true) : elig l (k + 1) = elig l k ++ [k] := by simp [elig, List.range_succ, List.filter_append, h]
theorem elig_no (l : List E) (k : Nat) (h : eligB l k = false) : elig l (k + 1) = elig l k := by simp [elig, List.range_succ, List.filter_append, h]
theorem elig_get (l : List E) (k : Nat) (h : eligB l k = true) : ∀ n, k < n → (elig l n)[(elig l k).length]? = some k
  | 0, hn => by omega
  | n + 1, hn => by
    by_cases e : k = n
    · subst e
      rw [elig_yes l k h]; simp
    · have ih := elig_get l k h n (by omega)
      cases hb : eligB l n with
      | true =>
        rw [elig_yes l n hb, List.getElem?_append_left (List.getElem?_eq_some_iff.1 ih).1]; exact ih
      | false => rw [elig_no l n hb]; exact ih
theorem elig_le (l : List E) (k : Nat) : (elig l k).length ≤ k := by
  have := List.length_filter_le (eligB l) (List.range k)
  simpa [elig] using this
/-- What the j-th round is handed. -/
def thoseEnc (l : List E) (j : Nat) : Array Value := #[.int .i64 (((elig l l.length).getD j 0 : Nat) : Int), encE (atE l ((elig l l.length).getD j 0))]

theorem those_calls (A : Option Addr) (m c : Nat) (w : World) : Calls Try.prog 22 #[.slice A m c] w fun e w' =>
    e = .returned (.func (.func 30) #[] #[.pointer (some ⟨w.heap.size, 0, none⟩)]) ∧ w' = w.alloc (.cells #[.slice A m c] 22) := by
  go_enter Try.func22, Try.ntmps22
  go_wp2
  go_ret
  exact ⟨rfl, rfl⟩

set_option maxRecDepth 100000 in
set_option maxHeartbeats 4000000 in
theorem those_seq (n : Nat) (h1n : 1 ≤ n) (A : Option Addr) (c : Nat) (l : List E) (Bd : Nat) (w0 w : World) (hC : Kd.C k30 w0 A l.length l) (hb : Below w0.heap.size w0 w)
    (hBd : w.heap[Bd]? = some (.cells #[.slice A l.length c] 22 (0, 0))) :
    SeqN Fence.wide n Try.prog 30 #[.pointer (some ⟨Bd, 0, none⟩)]
      (thoseEnc l) (fun _ => False) (fun _ => False) (fun j => j = Bd ∨ j < w0.heap.size) (elig l l.length).length w := fun lo J Jx W hW hJ hJx hY h0 => by
  have hbig : l.length ≤ 9223372036854775807 := Kd.C_max hC
  have hlt : Bd < w.heap.size := (Array.getElem?_eq_some_iff.1 hBd).1
  have hd : W.heap[Bd]? = some (.cells #[.slice A l.length c] 22 (0, 0)) := (hW.block Bd hlt).trans hBd
  have hk0 : ∀ j, j < w0.heap.size → W.heap[j]? = w0.heap[j]? := fun j hj => (hW.block j (Nat.lt_of_lt_of_le hj hb.size)).trans (hb.block j hj)
  have hcW : W.cell? ⟨Bd, 0, none⟩ = some (.slice A l.length c) := by rw [Lib.cell_of_heap hd]; rfl
  have hws : w0.heap.size ≤ W.heap.size := Nat.le_trans hb.size hW.size
  have HC := Aside0.mk hC
  clear hW hBd hb hC
  refine callsIn_of_wp Try.func30 rfl trivial ?_ rfl
  simp only [Try.ntmps30, List.size_toArray, List.length_cons, List.length_nil, Nat.reduceAdd, Nat.reduceSub, Array.replicate_succ, Array.replicate_zero, List.push_toArray, List.append_toArray, List.nil_append, List.cons_append]
  gi_wp2
  clear hcW
  gi_loopw [7] (fun i wr => ∃ k : Nat, k ≤ l.length ∧ i = .int .i64 k ∧ J (elig l k).length wr ∧ wr.heap[Bd]? = some (.cells #[.slice A l.length c] 22 (0, 0)) ∧ (∀ j, j < w0.heap.size → wr.heap[j]? = w0.heap[j]?) ∧ w0.heap.size ≤ wr.heap.size)
    (fun i _ => l.length - (intOf i).toNat)
  case atStart => exact ⟨0, by omega, rfl, h0, hd, hk0, hws⟩
  case round =>
    clear hk0 hd h0 hws
    obtain ⟨k, hk, rfl, hJs, hdk, hkk, hws⟩ := hrel
    by_cases hlt' : k < l.length
    · have hltz : decide ((k : Int) < (l.length : Int)) = true := decide_eq_true (by omega)
      obtain ⟨ad, rfl, g0, g1, g2⟩ := at_T30 HC.out k (by omega) (by omega)
      simp only [Int.toNat_natCast] at g0 g1 g2
      have e0 : rd_T30 l k = atE l k := by simp [rd_T30, atE, z30]
      rw [e0] at g0 g1 g2
      have up : ∀ (p : Addr) (v : Value), w0.cell? p = some v → wr.cell? p = some v := fun p v hp => by
        have hbl := World.block_lt_of_cell? w0 _ hp
        obtain ⟨o, ho, hc⟩ := cells_of_cell hp
        rw [← hp]; unfold World.cell?; rw [hkk p.block hbl]
      have c0 := up _ _ g0
      have c1 := up _ _ g1
      have c2 := up _ _ g2
      have hel : eligB l k = (decide (0 < (k : Int)) && (decide ((atE l k).f2 = 1) && decide ((atE l k).f0 < 16))) := by unfold eligB dirtyB; congr 1; exact decide_eq_decide.2 (by omega)
      have hget := elig_get l k
      have hyes := elig_yes l k
      have hno := elig_no l k
      have hge : thoseEnc l (elig l k).length = if eligB l k = true then #[.int .i64 k, encE (atE l k)] else thoseEnc l (elig l k).length := by
        split
        · rename_i h
          have := hget h l.length hlt'
          unfold thoseEnc
          rw [List.getD_eq_getElem?_getD, this]; rfl
        · rfl
      have hjl : eligB l k = true → (elig l k).length < (elig l l.length).length := fun h => (List.getElem?_eq_some_iff.1 (hget h l.length hlt')).1
      have hkb2 : k ≤ 9223372036854775806 := by omega
      -- the element's own block
      have hA : ∀ (cs : Array Value) , J (elig l k).length (wr.alloc (.cells cs 30)) := fun cs => hJ _ _ _ hJs (Turn.alloc _ _)
      have hdA : ∀ (cs : Array Value), (wr.alloc (.cells cs 30)).heap[Bd]? = some (.cells #[.slice (some ad) l.length c] 22 (0, 0)) := fun cs => (Below.heap_alloc wr _ Bd (Array.getElem?_eq_some_iff.1 hdk).1).trans hdk
      have hkA : ∀ (cs : Array Value) j, j < w0.heap.size → (wr.alloc (.cells cs 30)).heap[j]? = w0.heap[j]? := fun cs j hj => (Below.heap_alloc wr _ j (Nat.lt_of_lt_of_le hj hws)).trans (hkk j hj)
      have hsA : ∀ (cs : Array Value), w0.heap.size ≤ (wr.alloc (.cells cs 30)).heap.size := fun cs => by simp; omega
      clear hJs hdk hkk up g0 g1 g2
      cases hb1 : decide (0 < (k : Int)) with
      | false =>
        have hb1n : decide (0 < k) = false := by rw [← hb1]; exact decide_eq_decide.2 (by omega)
        have hb1m : ¬ 0 < k := of_decide_eq_false hb1n
        have Hn := Aside0.mk (hno (by rw [hel, hb1]; rfl))
        clear hel hge hjl hget hyes hno
        generalize atE l k = x at *
        gi_wp2
        refine ⟨(fun _ h => nomatch h), ?_⟩
        gi_wp2
        go_roundw
        case rel => exact ⟨k + 1, by omega, by simp, by rw [Hn.out]; exact hA _, hdA _, hkA _, hsA _⟩
        case measure => simp [intOf]; omega
      | true =>
      have hb1n : decide (0 < k) = true := by rw [← hb1]; exact decide_eq_decide.2 (by omega)
      have hb1m : 0 < k := of_decide_eq_true hb1n
      cases hb2 : decide ((atE l k).f2 = 1) with
      | false =>
        have Hn := Aside0.mk (hno (by rw [hel, hb1, hb2]; rfl))
        clear hel hge hjl hget hyes hno
        generalize atE l k = x at *
        have hb2' : (x.f2 == 1) = false := beq_eq_false_iff_ne.2 (of_decide_eq_false hb2)
        gi_wp2
        refine ⟨(fun _ h => nomatch h), ?_⟩
        gi_wp2
        go_roundw
        case rel => exact ⟨k + 1, by omega, by simp, by rw [Hn.out]; exact hA _, hdA _, hkA _, hsA _⟩
        case measure => simp [intOf]; omega
      | true =>
      have hb2' : ((atE l k).f2 == 1) = true := beq_iff_eq.2 (of_decide_eq_true hb2)
      cases hb3 : decide ((atE l k).f0 < 16) with
      | false =>
        have Hn := Aside0.mk (hno (by rw [hel, hb1, hb2, hb3]; rfl))
        clear hel hge hjl hget hyes hno
        generalize atE l k = x at *
        gi_wp2
        refine ⟨(fun _ h => nomatch h), ?_⟩
        gi_wp2
        go_roundw
        case rel => exact ⟨k + 1, by omega, by simp, by rw [Hn.out]; exact hA _, hdA _, hkA _, hsA _⟩
        case measure => simp [intOf]; omega
      | true =>
        have he1 : eligB l k = true := by rw [hel, hb1, hb2, hb3]; rfl
        rw [if_pos he1] at hge
        have hjk := hjl he1
        have Hy := Aside0.mk (hyes he1)
        have hY' := fun W1 h => hY _ W1 hjk h
        rw [hge] at hY'
        clear hel hge hjl hget hyes hno he1 hY
        obtain ⟨j, hj⟩ : ∃ j, (elig l k).length = j := ⟨_, rfl⟩
        have Hj := Aside0.mk hj
        rw [hj] at hA hY' hjk
        clear hj
        generalize atE l k = x at *
        obtain ⟨fn, tmps, assign, body, hy, hR⟩ := hY' _ (hA #[.int .i64 x.f0, .int .u64 x.f1, .int .i64 x.f2])
        unfold encE at hy
        have hdd := hdA #[.int .i64 x.f0, .int .u64 x.f1, .int .i64 x.f2]
        have hkk := hkA #[.int .i64 x.f0, .int .u64 x.f1, .int .i64 x.f2]
        have hss := hsA #[.int .i64 x.f0, .int .u64 x.f1, .int .i64 x.f2]
        gi_wp2
        refine hR.mono ?_
        clear hA hdA hkA hsA
        rintro e W3 (⟨rfl, hJ3, hk3⟩ | ⟨rfl, hJx3⟩)
        · have hd3 := (hk3.same Bd (.inl rfl) (Array.getElem?_eq_some_iff.1 hdd).1).trans hdd
          have hkk3 : ∀ j, j < w0.heap.size → W3.heap[j]? = w0.heap[j]? := fun j hj => (hk3.same j (.inr hj) (Nat.lt_of_lt_of_le hj hss)).trans (hkk j hj)
          have hss3 := Nat.le_trans hss hk3.size
          clear hR hy hdd hkk hss
          gi_wp2
          go_roundw
          case rel => exact ⟨k + 1, by omega, by simp, by rw [Hy.out, List.length_append, Hj.out]; exact hJ3, hd3, hkk3, hss3⟩
          case measure => simp [intOf]; omega
        · clear hR hy hdd hkk hss
          gi_wp2
          refine bodyPost_ret (results_none rfl _ _ _) rfl ?_
          exact ⟨⟨_, rfl⟩, .inr ⟨j + 1, by omega, hJx3⟩⟩
    · have hltz : decide ((k : Int) < (l.length : Int)) = false := decide_eq_false (by omega)
      have hkw : k = l.length := by omega
      gi_wp2
      go_end0
      exact ⟨⟨_, rfl⟩, .inl (hkw ▸ hJs)⟩
end Go.Proofs.Ytklhmhliencgeaa.Q
