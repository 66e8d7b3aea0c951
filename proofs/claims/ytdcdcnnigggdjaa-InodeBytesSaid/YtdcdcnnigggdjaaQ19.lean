/- Functions of the translation as plain Lean functions, and that the translation computes them: printed by this session's driver of the print. -/
import Derived.Test.YtdcdcnnigggdjaaQ0
import Derived.Test.YtdcdcnnigggdjaaQ1
import Derived.Test.YtdcdcnnigggdjaaQ2
import Derived.Test.YtdcdcnnigggdjaaQ3
import Derived.Test.YtdcdcnnigggdjaaQ4
import Derived.Test.YtdcdcnnigggdjaaQ5
import Derived.Test.YtdcdcnnigggdjaaQ6
import Derived.Test.YtdcdcnnigggdjaaQ7
import Derived.Test.YtdcdcnnigggdjaaQ13
import Derived.Test.YtdcdcnnigggdjaaHIDec
import Derived.Test.YtdcdcnnigggdjaaHIDecR
import Derived.Test.YtdcdcnnigggdjaaHIEnc
import Derived.Test.YtdcdcnnigggdjaaHIEncR
namespace Go.Proofs.Ytdcdcnnigggdjaa.Q
open Go.Proofs.Ytdcdcnnigggdjaa.H
open Go.RowKit Go.Proofs.YtdcdcnnigggdjaaW.PrintWords Go.Proofs.YtdcdcnnigggdjaaW.PrintLast Go.Proofs.YtdcdcnnigggdjaaW.PrintMore
attribute [local go_sem] max2_int min2_int max_two min_two max_three min_three max_four min_four   -- for this text's walks alone
set_option linter.unusedVariables false
set_option linter.unusedSimpArgs false

attribute [local go_sem high] eqA30
/-! ### nautiluslaw10_InodeBytes: function 5 -/
def nautiluslaw10_InodeBytes.f (k : Nat) (a0_0 : Int) (a0_1 : Int) (a0_2 : Int) (a0_3 : Int) (a0_4 : Int) (a0_5 : Int) (a0_6 : Int) (a0_7 : Int) (a0_8 : Int) (a0_9 : Int) (a0_10 : Int) (a0_11 : Int) (a1 : ByteArray) (a2 : Int) : Option (Bool) := (nautiluslaw10_shown.f).bind fun t140 => ((inode_Encode.f a0_0 a0_1 a0_2 a0_3 a0_4 a0_5 a0_6 a0_7 a0_8 a0_9 a0_10 a0_11).bind fun bt141 => ((nautilusref10_Encode.f a0_0 a0_1 a0_2 a0_3 a0_4 a0_5 a0_6 a0_7 a0_8 a0_9 a0_10 a0_11).bind fun bt143 => ((inode_Decode.f a1).bind fun bt145 => ((nautilusref10_Decode.f a1).bind fun bt159 => (if t140 = true then ((inode_Right.f k a0_0 a0_1 a0_2 a0_3 a0_4 a0_5 a0_6 a0_7 a0_8 a0_9 a0_10 a0_11).bind fun t173 => ((nautilusref10_Right.f a0_0 a0_1 a0_2 a0_3 a0_4 a0_5 a0_6 a0_7 a0_8 a0_9 a0_10 a0_11).bind fun t174 => (if (t173 == t174) = true then (if bt141.1.toList = bt143.1.toList then (if bt141.2 = bt143.2 then (if (bt145.1 == bt159.1 && (bt145.2.1 == bt159.2.1 && (bt145.2.2.1 == bt159.2.2.1 && (bt145.2.2.2.1 == bt159.2.2.2.1 && (bt145.2.2.2.2.1 == bt159.2.2.2.2.1 && (bt145.2.2.2.2.2.1 == bt159.2.2.2.2.2.1 && ((bt145.2.2.2.2.2.2.1 == bt159.2.2.2.2.2.2.1 && (bt145.2.2.2.2.2.2.2.1 == bt159.2.2.2.2.2.2.2.1 && (bt145.2.2.2.2.2.2.2.2.1 == bt159.2.2.2.2.2.2.2.2.1 && (bt145.2.2.2.2.2.2.2.2.2.1 == bt159.2.2.2.2.2.2.2.2.2.1 && (bt145.2.2.2.2.2.2.2.2.2.2.1 == bt159.2.2.2.2.2.2.2.2.2.2.1 && (bt145.2.2.2.2.2.2.2.2.2.2.2.1 == bt159.2.2.2.2.2.2.2.2.2.2.2.1))))))))))))) = true then (if bt145.2.2.2.2.2.2.2.2.2.2.2.2 = bt159.2.2.2.2.2.2.2.2.2.2.2.2 then ((inode_Blocks.f a2).bind fun t175 => ((nautilusref10_Blocks.f a2).bind fun t176 => (if t175 = t176 then ((inode_Depth.f a2).bind fun t177 => ((nautilusref10_Depth.f a2).bind fun t178 => (some (t177 == t178)))) else (none)))) else (none)) else (none)) else (none)) else (none)) else (none)))) else (none))))))
theorem nautiluslaw10_InodeBytes.mono : ∀ a0 a1 a2 a3 a4 a5 a6 a7 a8 a9 a10 a11 a12 a13 k, LeO (nautiluslaw10_InodeBytes.f k a0 a1 a2 a3 a4 a5 a6 a7 a8 a9 a10 a11 a12 a13) (nautiluslaw10_InodeBytes.f (k + 1) a0 a1 a2 a3 a4 a5 a6 a7 a8 a9 a10 a11 a12 a13) := by
  intro a0 a1 a2 a3 a4 a5 a6 a7 a8 a9 a10 a11 a12 a13 k
  unfold nautiluslaw10_InodeBytes.f
  repeat' first
      | (with_reducible exact inode_Right.mono _ _ _ _ _ _ _ _ _ _ _ _ _)
      | (with_reducible exact LeO.refl _)
      | (with_reducible exact LeO.none _)
      | (with_reducible refine LeO.ite ?_ ?_)
      | (with_reducible refine LeO.bind ?_ (fun _ => ?_))
      | exact inode_Right.mono _ _ _ _ _ _ _ _ _ _ _ _ _
      | exact LeO.none _
      | refine LeO.ite ?_ ?_
      | refine LeO.bind ?_ (fun _ => ?_)
def nautiluslaw10_InodeBytes.T6 : Bool × List (List Nat × List Nat) := (true, [([], []), ([0], [0]), ([1], [1]), ([2, 1, 1], [1, 2]), ([1], [1]), ([4, 3, 1], [1, 4]), ([3, 5, 1], [1, 3, 5]), ([1, 6], [1, 6]), ([7, 5], [7]), ([8], [8]), ([8], [8]), ([9, 10, 8], [8, 9, 10]), ([8, 11], [8, 11]), ([12, 8], [12]), ([13], [13]), ([13], [13]), ([14, 15, 13], [13, 14, 15]), ([13, 16], [13, 16]), ([17, 13], [17]), ([18], [18]), ([18], [18]), ([19, 20, 18], [18, 19, 20]), ([18, 21], [18, 21]), ([22, 18], [22]), ([23], [23]), ([23], [23]), ([24, 25, 23], [23, 24, 25]), ([23, 26], [23, 26]), ([27, 23], [27]), ([28], [28]), ([29, 28, 28], [28, 29]), ([28], [28]), ([31, 30, 28], [28, 31]), ([30, 32, 28], [28, 30, 32]), ([28, 33], [28, 33]), ([34, 32], [34]), ([35], [35]), ([36, 35, 35], [35, 36]), ([35], [35]), ([38, 37, 35], [35, 38]), ([37, 39, 35], [35, 37, 39]), ([35, 40], [35, 40]), ([41, 39, 0, 1, 2, 3, 4, 5, 6, 7, 8, 9, 10, 11, 12, 13, 14, 15, 16, 17, 18, 19, 20, 21, 22, 23, 24, 25, 26, 27, 28, 29, 30, 31, 32, 33, 34, 35, 36, 37, 38, 39, 40, 41], [41])])
def nautiluslaw10_InodeBytes.B6 : List Nat := [0, 1, 3, 7, 3, 31, 63, 127, 255, 511, 511, 2047, 4095, 8191, 16383, 16383, 65535, 131071, 262143, 524287, 524287, 2097151, 4194303, 8388607, 16777215, 16777215, 67108863, 134217727, 268435455, 536870911, 1073741823, 536870911, 4294967295, 8589934591, 17179869183, 34359738367, 68719476735, 137438953471, 68719476735, 549755813887, 1099511627775, 2199023255551, 4398046511103]
theorem nautiluslaw10_InodeBytes.tab6 : rtab .any (opsOf Try.f5 6) = nautiluslaw10_InodeBytes.T6 := by kernel_rfl
theorem nautiluslaw10_InodeBytes.bits6 : waitsOk nautiluslaw10_InodeBytes.T6.2 nautiluslaw10_InodeBytes.B6 = true := by kernel_rfl
set_option maxHeartbeats 8000000 in
set_option maxRecDepth 100000 in
theorem nautiluslaw10_InodeBytes.calls (k : Nat) (a0_0 : Int) (a0_1 : Int) (a0_2 : Int) (a0_3 : Int) (a0_4 : Int) (a0_5 : Int) (a0_6 : Int) (a0_7 : Int) (a0_8 : Int) (a0_9 : Int) (a0_10 : Int) (a0_11 : Int) (a1 : ByteArray) (a2 : Int) (r : Bool) (w : World) (h : nautiluslaw10_InodeBytes.f k a0_0 a0_1 a0_2 a0_3 a0_4 a0_5 a0_6 a0_7 a0_8 a0_9 a0_10 a0_11 a1 a2 = some r) :
    Calls Try.prog 5 #[.agg #[.int .i64 a0_0, .int .u16 a0_1, .int .u16 a0_2, .int .u32 a0_3, .int .u64 a0_4, .int .i64 a0_5, .int .u32 a0_6, .int .u32 a0_7, .int .u32 a0_8, .int .u32 a0_9, .int .u32 a0_10, .int .u32 a0_11], .string a1, .int .u32 a2] w fun e w' => e = .returned (.bool r) ∧ Below w.heap.size w w' := by
  have hu30 := Try.underlying30
  have HB := Aside0.mk (Below.refl w.heap.size w)
  have H : ((nautiluslaw10_shown.f).bind fun t140 => ((inode_Encode.f a0_0 a0_1 a0_2 a0_3 a0_4 a0_5 a0_6 a0_7 a0_8 a0_9 a0_10 a0_11).bind fun bt141 => ((nautilusref10_Encode.f a0_0 a0_1 a0_2 a0_3 a0_4 a0_5 a0_6 a0_7 a0_8 a0_9 a0_10 a0_11).bind fun bt143 => ((inode_Decode.f a1).bind fun bt145 => ((nautilusref10_Decode.f a1).bind fun bt159 => (if t140 = true then ((inode_Right.f k a0_0 a0_1 a0_2 a0_3 a0_4 a0_5 a0_6 a0_7 a0_8 a0_9 a0_10 a0_11).bind fun t173 => ((nautilusref10_Right.f a0_0 a0_1 a0_2 a0_3 a0_4 a0_5 a0_6 a0_7 a0_8 a0_9 a0_10 a0_11).bind fun t174 => (if (t173 == t174) = true then (if bt141.1.toList = bt143.1.toList then (if bt141.2 = bt143.2 then (if (bt145.1 == bt159.1 && (bt145.2.1 == bt159.2.1 && (bt145.2.2.1 == bt159.2.2.1 && (bt145.2.2.2.1 == bt159.2.2.2.1 && (bt145.2.2.2.2.1 == bt159.2.2.2.2.1 && (bt145.2.2.2.2.2.1 == bt159.2.2.2.2.2.1 && ((bt145.2.2.2.2.2.2.1 == bt159.2.2.2.2.2.2.1 && (bt145.2.2.2.2.2.2.2.1 == bt159.2.2.2.2.2.2.2.1 && (bt145.2.2.2.2.2.2.2.2.1 == bt159.2.2.2.2.2.2.2.2.1 && (bt145.2.2.2.2.2.2.2.2.2.1 == bt159.2.2.2.2.2.2.2.2.2.1 && (bt145.2.2.2.2.2.2.2.2.2.2.1 == bt159.2.2.2.2.2.2.2.2.2.2.1 && (bt145.2.2.2.2.2.2.2.2.2.2.2.1 == bt159.2.2.2.2.2.2.2.2.2.2.2.1))))))))))))) = true then (if bt145.2.2.2.2.2.2.2.2.2.2.2.2 = bt159.2.2.2.2.2.2.2.2.2.2.2.2 then ((inode_Blocks.f a2).bind fun t175 => ((nautilusref10_Blocks.f a2).bind fun t176 => (if t175 = t176 then ((inode_Depth.f a2).bind fun t177 => ((nautilusref10_Depth.f a2).bind fun t178 => (some (t177 == t178)))) else (none)))) else (none)) else (none)) else (none)) else (none)) else (none)))) else (none))))))) = some r := h
  clear h
  replace H := Option.bind_eq_some_iff.mp H
  obtain ⟨t140, A40, H⟩ := H
  replace H : ((inode_Encode.f a0_0 a0_1 a0_2 a0_3 a0_4 a0_5 a0_6 a0_7 a0_8 a0_9 a0_10 a0_11).bind fun bt141 => ((nautilusref10_Encode.f a0_0 a0_1 a0_2 a0_3 a0_4 a0_5 a0_6 a0_7 a0_8 a0_9 a0_10 a0_11).bind fun bt143 => ((inode_Decode.f a1).bind fun bt145 => ((nautilusref10_Decode.f a1).bind fun bt159 => (if t140 = true then ((inode_Right.f k a0_0 a0_1 a0_2 a0_3 a0_4 a0_5 a0_6 a0_7 a0_8 a0_9 a0_10 a0_11).bind fun t173 => ((nautilusref10_Right.f a0_0 a0_1 a0_2 a0_3 a0_4 a0_5 a0_6 a0_7 a0_8 a0_9 a0_10 a0_11).bind fun t174 => (if (t173 == t174) = true then (if bt141.1.toList = bt143.1.toList then (if bt141.2 = bt143.2 then (if (bt145.1 == bt159.1 && (bt145.2.1 == bt159.2.1 && (bt145.2.2.1 == bt159.2.2.1 && (bt145.2.2.2.1 == bt159.2.2.2.1 && (bt145.2.2.2.2.1 == bt159.2.2.2.2.1 && (bt145.2.2.2.2.2.1 == bt159.2.2.2.2.2.1 && ((bt145.2.2.2.2.2.2.1 == bt159.2.2.2.2.2.2.1 && (bt145.2.2.2.2.2.2.2.1 == bt159.2.2.2.2.2.2.2.1 && (bt145.2.2.2.2.2.2.2.2.1 == bt159.2.2.2.2.2.2.2.2.1 && (bt145.2.2.2.2.2.2.2.2.2.1 == bt159.2.2.2.2.2.2.2.2.2.1 && (bt145.2.2.2.2.2.2.2.2.2.2.1 == bt159.2.2.2.2.2.2.2.2.2.2.1 && (bt145.2.2.2.2.2.2.2.2.2.2.2.1 == bt159.2.2.2.2.2.2.2.2.2.2.2.1))))))))))))) = true then (if bt145.2.2.2.2.2.2.2.2.2.2.2.2 = bt159.2.2.2.2.2.2.2.2.2.2.2.2 then ((inode_Blocks.f a2).bind fun t175 => ((nautilusref10_Blocks.f a2).bind fun t176 => (if t175 = t176 then ((inode_Depth.f a2).bind fun t177 => ((nautilusref10_Depth.f a2).bind fun t178 => (some (t177 == t178)))) else (none)))) else (none)) else (none)) else (none)) else (none)) else (none)))) else (none)))))) = some r := H
  have A4 := Aside0.mk A40
  clear A40
  replace H := Option.bind_eq_some_iff.mp H
  obtain ⟨⟨t141, t142⟩, A50, H⟩ := H
  replace H : ((nautilusref10_Encode.f a0_0 a0_1 a0_2 a0_3 a0_4 a0_5 a0_6 a0_7 a0_8 a0_9 a0_10 a0_11).bind fun bt143 => ((inode_Decode.f a1).bind fun bt145 => ((nautilusref10_Decode.f a1).bind fun bt159 => (if t140 = true then ((inode_Right.f k a0_0 a0_1 a0_2 a0_3 a0_4 a0_5 a0_6 a0_7 a0_8 a0_9 a0_10 a0_11).bind fun t173 => ((nautilusref10_Right.f a0_0 a0_1 a0_2 a0_3 a0_4 a0_5 a0_6 a0_7 a0_8 a0_9 a0_10 a0_11).bind fun t174 => (if (t173 == t174) = true then (if t141.toList = bt143.1.toList then (if t142 = bt143.2 then (if (bt145.1 == bt159.1 && (bt145.2.1 == bt159.2.1 && (bt145.2.2.1 == bt159.2.2.1 && (bt145.2.2.2.1 == bt159.2.2.2.1 && (bt145.2.2.2.2.1 == bt159.2.2.2.2.1 && (bt145.2.2.2.2.2.1 == bt159.2.2.2.2.2.1 && ((bt145.2.2.2.2.2.2.1 == bt159.2.2.2.2.2.2.1 && (bt145.2.2.2.2.2.2.2.1 == bt159.2.2.2.2.2.2.2.1 && (bt145.2.2.2.2.2.2.2.2.1 == bt159.2.2.2.2.2.2.2.2.1 && (bt145.2.2.2.2.2.2.2.2.2.1 == bt159.2.2.2.2.2.2.2.2.2.1 && (bt145.2.2.2.2.2.2.2.2.2.2.1 == bt159.2.2.2.2.2.2.2.2.2.2.1 && (bt145.2.2.2.2.2.2.2.2.2.2.2.1 == bt159.2.2.2.2.2.2.2.2.2.2.2.1))))))))))))) = true then (if bt145.2.2.2.2.2.2.2.2.2.2.2.2 = bt159.2.2.2.2.2.2.2.2.2.2.2.2 then ((inode_Blocks.f a2).bind fun t175 => ((nautilusref10_Blocks.f a2).bind fun t176 => (if t175 = t176 then ((inode_Depth.f a2).bind fun t177 => ((nautilusref10_Depth.f a2).bind fun t178 => (some (t177 == t178)))) else (none)))) else (none)) else (none)) else (none)) else (none)) else (none)))) else (none))))) = some r := H
  have A5 := Aside0.mk A50
  clear A50
  replace H := Option.bind_eq_some_iff.mp H
  obtain ⟨⟨t143, t144⟩, A60, H⟩ := H
  replace H : ((inode_Decode.f a1).bind fun bt145 => ((nautilusref10_Decode.f a1).bind fun bt159 => (if t140 = true then ((inode_Right.f k a0_0 a0_1 a0_2 a0_3 a0_4 a0_5 a0_6 a0_7 a0_8 a0_9 a0_10 a0_11).bind fun t173 => ((nautilusref10_Right.f a0_0 a0_1 a0_2 a0_3 a0_4 a0_5 a0_6 a0_7 a0_8 a0_9 a0_10 a0_11).bind fun t174 => (if (t173 == t174) = true then (if t141.toList = t143.toList then (if t142 = t144 then (if (bt145.1 == bt159.1 && (bt145.2.1 == bt159.2.1 && (bt145.2.2.1 == bt159.2.2.1 && (bt145.2.2.2.1 == bt159.2.2.2.1 && (bt145.2.2.2.2.1 == bt159.2.2.2.2.1 && (bt145.2.2.2.2.2.1 == bt159.2.2.2.2.2.1 && ((bt145.2.2.2.2.2.2.1 == bt159.2.2.2.2.2.2.1 && (bt145.2.2.2.2.2.2.2.1 == bt159.2.2.2.2.2.2.2.1 && (bt145.2.2.2.2.2.2.2.2.1 == bt159.2.2.2.2.2.2.2.2.1 && (bt145.2.2.2.2.2.2.2.2.2.1 == bt159.2.2.2.2.2.2.2.2.2.1 && (bt145.2.2.2.2.2.2.2.2.2.2.1 == bt159.2.2.2.2.2.2.2.2.2.2.1 && (bt145.2.2.2.2.2.2.2.2.2.2.2.1 == bt159.2.2.2.2.2.2.2.2.2.2.2.1))))))))))))) = true then (if bt145.2.2.2.2.2.2.2.2.2.2.2.2 = bt159.2.2.2.2.2.2.2.2.2.2.2.2 then ((inode_Blocks.f a2).bind fun t175 => ((nautilusref10_Blocks.f a2).bind fun t176 => (if t175 = t176 then ((inode_Depth.f a2).bind fun t177 => ((nautilusref10_Depth.f a2).bind fun t178 => (some (t177 == t178)))) else (none)))) else (none)) else (none)) else (none)) else (none)) else (none)))) else (none)))) = some r := H
  have A6 := Aside0.mk A60
  clear A60
  replace H := Option.bind_eq_some_iff.mp H
  obtain ⟨⟨t145, t146, t147, t148, t149, t150, t151, t152, t153, t154, t155, t156, t157⟩, A70, H⟩ := H
  replace H : ((nautilusref10_Decode.f a1).bind fun bt159 => (if t140 = true then ((inode_Right.f k a0_0 a0_1 a0_2 a0_3 a0_4 a0_5 a0_6 a0_7 a0_8 a0_9 a0_10 a0_11).bind fun t173 => ((nautilusref10_Right.f a0_0 a0_1 a0_2 a0_3 a0_4 a0_5 a0_6 a0_7 a0_8 a0_9 a0_10 a0_11).bind fun t174 => (if (t173 == t174) = true then (if t141.toList = t143.toList then (if t142 = t144 then (if (t145 == bt159.1 && (t146 == bt159.2.1 && (t147 == bt159.2.2.1 && (t148 == bt159.2.2.2.1 && (t149 == bt159.2.2.2.2.1 && (t150 == bt159.2.2.2.2.2.1 && ((t151 == bt159.2.2.2.2.2.2.1 && (t152 == bt159.2.2.2.2.2.2.2.1 && (t153 == bt159.2.2.2.2.2.2.2.2.1 && (t154 == bt159.2.2.2.2.2.2.2.2.2.1 && (t155 == bt159.2.2.2.2.2.2.2.2.2.2.1 && (t156 == bt159.2.2.2.2.2.2.2.2.2.2.2.1))))))))))))) = true then (if t157 = bt159.2.2.2.2.2.2.2.2.2.2.2.2 then ((inode_Blocks.f a2).bind fun t175 => ((nautilusref10_Blocks.f a2).bind fun t176 => (if t175 = t176 then ((inode_Depth.f a2).bind fun t177 => ((nautilusref10_Depth.f a2).bind fun t178 => (some (t177 == t178)))) else (none)))) else (none)) else (none)) else (none)) else (none)) else (none)))) else (none))) = some r := H
  have A7 := Aside0.mk A70
  clear A70
  replace H := Option.bind_eq_some_iff.mp H
  obtain ⟨⟨t159, t160, t161, t162, t163, t164, t165, t166, t167, t168, t169, t170, t171⟩, A80, H⟩ := H
  replace H : (if t140 = true then ((inode_Right.f k a0_0 a0_1 a0_2 a0_3 a0_4 a0_5 a0_6 a0_7 a0_8 a0_9 a0_10 a0_11).bind fun t173 => ((nautilusref10_Right.f a0_0 a0_1 a0_2 a0_3 a0_4 a0_5 a0_6 a0_7 a0_8 a0_9 a0_10 a0_11).bind fun t174 => (if (t173 == t174) = true then (if t141.toList = t143.toList then (if t142 = t144 then (if (t145 == t159 && (t146 == t160 && (t147 == t161 && (t148 == t162 && (t149 == t163 && (t150 == t164 && ((t151 == t165 && (t152 == t166 && (t153 == t167 && (t154 == t168 && (t155 == t169 && (t156 == t170))))))))))))) = true then (if t157 = t171 then ((inode_Blocks.f a2).bind fun t175 => ((nautilusref10_Blocks.f a2).bind fun t176 => (if t175 = t176 then ((inode_Depth.f a2).bind fun t177 => ((nautilusref10_Depth.f a2).bind fun t178 => (some (t177 == t178)))) else (none)))) else (none)) else (none)) else (none)) else (none)) else (none)))) else (none)) = some r := H
  have A8 := Aside0.mk A80
  clear A80
  by_cases c9 : t140 = true
  · subst c9
    have H1 : ((inode_Right.f k a0_0 a0_1 a0_2 a0_3 a0_4 a0_5 a0_6 a0_7 a0_8 a0_9 a0_10 a0_11).bind fun t173 => ((nautilusref10_Right.f a0_0 a0_1 a0_2 a0_3 a0_4 a0_5 a0_6 a0_7 a0_8 a0_9 a0_10 a0_11).bind fun t174 => (if (t173 == t174) = true then (if t141.toList = t143.toList then (if t142 = t144 then (if (t145 == t159 && (t146 == t160 && (t147 == t161 && (t148 == t162 && (t149 == t163 && (t150 == t164 && ((t151 == t165 && (t152 == t166 && (t153 == t167 && (t154 == t168 && (t155 == t169 && (t156 == t170))))))))))))) = true then (if t157 = t171 then ((inode_Blocks.f a2).bind fun t175 => ((nautilusref10_Blocks.f a2).bind fun t176 => (if t175 = t176 then ((inode_Depth.f a2).bind fun t177 => ((nautilusref10_Depth.f a2).bind fun t178 => (some (t177 == t178)))) else (none)))) else (none)) else (none)) else (none)) else (none)) else (none)))) = some r := by rw [if_pos rfl] at H; exact H
    clear H
    have H := H1
    clear H1
    replace H := Option.bind_eq_some_iff.mp H
    obtain ⟨t173, A100, H⟩ := H
    replace H : ((nautilusref10_Right.f a0_0 a0_1 a0_2 a0_3 a0_4 a0_5 a0_6 a0_7 a0_8 a0_9 a0_10 a0_11).bind fun t174 => (if (t173 == t174) = true then (if t141.toList = t143.toList then (if t142 = t144 then (if (t145 == t159 && (t146 == t160 && (t147 == t161 && (t148 == t162 && (t149 == t163 && (t150 == t164 && ((t151 == t165 && (t152 == t166 && (t153 == t167 && (t154 == t168 && (t155 == t169 && (t156 == t170))))))))))))) = true then (if t157 = t171 then ((inode_Blocks.f a2).bind fun t175 => ((nautilusref10_Blocks.f a2).bind fun t176 => (if t175 = t176 then ((inode_Depth.f a2).bind fun t177 => ((nautilusref10_Depth.f a2).bind fun t178 => (some (t177 == t178)))) else (none)))) else (none)) else (none)) else (none)) else (none)) else (none))) = some r := H
    have A10 := Aside0.mk A100
    clear A100
    replace H := Option.bind_eq_some_iff.mp H
    obtain ⟨t174, A110, H⟩ := H
    replace H : (if (t173 == t174) = true then (if t141.toList = t143.toList then (if t142 = t144 then (if (t145 == t159 && (t146 == t160 && (t147 == t161 && (t148 == t162 && (t149 == t163 && (t150 == t164 && ((t151 == t165 && (t152 == t166 && (t153 == t167 && (t154 == t168 && (t155 == t169 && (t156 == t170))))))))))))) = true then (if t157 = t171 then ((inode_Blocks.f a2).bind fun t175 => ((nautilusref10_Blocks.f a2).bind fun t176 => (if t175 = t176 then ((inode_Depth.f a2).bind fun t177 => ((nautilusref10_Depth.f a2).bind fun t178 => (some (t177 == t178)))) else (none)))) else (none)) else (none)) else (none)) else (none)) else (none)) = some r := H
    have A11 := Aside0.mk A110
    clear A110
    by_cases c12 : (t173 == t174) = true
    · rw [if_pos c12] at H
      have c12b0 : (t173 == t174) = true := c12
      (try (have c12b1 : decide (t173 = t174) = true := by simpa using c12))
      (try (have c12b2 : (t173 == t174) = true := by simpa using c12))
      clear c12
      by_cases c13 : t141.toList = t143.toList
      · rw [if_pos c13] at H
        have c13b0 : (t141.toList == t143.toList) = true := beq_iff_eq.mpr c13
        have c13b1 : (t141.toList != t143.toList) = false := bne_eq_false_iff_eq.mpr c13
        clear c13
        by_cases c14 : t142 = t144
        · rw [if_pos c14] at H
          have c14b0 : (t142 == t144) = true := beq_iff_eq.mpr c14
          have c14b1 : (t142 != t144) = false := bne_eq_false_iff_eq.mpr c14
          clear c14
          by_cases c15 : (t145 == t159 && (t146 == t160 && (t147 == t161 && (t148 == t162 && (t149 == t163 && (t150 == t164 && ((t151 == t165 && (t152 == t166 && (t153 == t167 && (t154 == t168 && (t155 == t169 && (t156 == t170))))))))))))) = true
          · rw [if_pos c15] at H
            have c15b0 : (t145 == t159 && (t146 == t160 && (t147 == t161 && (t148 == t162 && (t149 == t163 && (t150 == t164 && ((t151 == t165 && (t152 == t166 && (t153 == t167 && (t154 == t168 && (t155 == t169 && (t156 == t170))))))))))))) = true := c15
            (try (have c15b1 : decide (t145 = t159 && (t146 == t160 && (t147 == t161 && (t148 == t162 && (t149 == t163 && (t150 == t164 && ((t151 == t165 && (t152 == t166 && (t153 == t167 && (t154 == t168 && (t155 == t169 && (t156 == t170))))))))))))) = true := by simpa using c15))
            (try (have c15b2 : (t145 == t159 && (t146 == t160 && (t147 == t161 && (t148 == t162 && (t149 == t163 && (t150 == t164 && ((t151 == t165 && (t152 == t166 && (t153 == t167 && (t154 == t168 && (t155 == t169 && (t156 == t170))))))))))))) = true := by simpa using c15))
            clear c15
            by_cases c16 : t157 = t171
            · rw [if_pos c16] at H
              have c16b0 : (t157 == t171) = true := beq_iff_eq.mpr c16
              have c16b1 : (t157 != t171) = false := bne_eq_false_iff_eq.mpr c16
              clear c16
              replace H := Option.bind_eq_some_iff.mp H
              obtain ⟨t175, A170, H⟩ := H
              replace H : ((nautilusref10_Blocks.f a2).bind fun t176 => (if t175 = t176 then ((inode_Depth.f a2).bind fun t177 => ((nautilusref10_Depth.f a2).bind fun t178 => (some (t177 == t178)))) else (none))) = some r := H
              have A17 := Aside0.mk A170
              clear A170
              replace H := Option.bind_eq_some_iff.mp H
              obtain ⟨t176, A180, H⟩ := H
              replace H : (if t175 = t176 then ((inode_Depth.f a2).bind fun t177 => ((nautilusref10_Depth.f a2).bind fun t178 => (some (t177 == t178)))) else (none)) = some r := H
              have A18 := Aside0.mk A180
              clear A180
              by_cases c19 : t175 = t176
              · rw [if_pos c19] at H
                have c19b0 : (t175 == t176) = true := beq_iff_eq.mpr c19
                have c19b1 : (t175 != t176) = false := bne_eq_false_iff_eq.mpr c19
                clear c19
                replace H := Option.bind_eq_some_iff.mp H
                obtain ⟨t177, A200, H⟩ := H
                replace H : ((nautilusref10_Depth.f a2).bind fun t178 => (some (t177 == t178))) = some r := H
                have A20 := Aside0.mk A200
                clear A200
                replace H := Option.bind_eq_some_iff.mp H
                obtain ⟨t178, A210, H⟩ := H
                replace H : (some (t177 == t178)) = some r := H
                have A21 := Aside0.mk A210
                clear A210
                obtain rfl := Option.some.inj H
                go_enter Try.func5, Try.ntmps5
                try go_wp2_with (first | ((with_reducible refine gate_dst (N := 3) rfl ?_); refine box_event ?hg (N := 3) ?hd (cs := #[.int .i64 a0_0, .int .u16 a0_1, .int .u16 a0_2, .int .u32 a0_3, .int .u64 a0_4, .int .i64 a0_5, .int .u32 a0_6, .int .u32 a0_7, .int .u32 a0_8, .int .u32 a0_9, .int .u32 a0_10, .int .u32 a0_11]) (t := 30) ?hr ?_; (case hd => rfl); (case hg => rfl); (case hr => first | (go_simp; done) | (go_simp; rfl)); intro gb139 hg w22 hbox hb; have n0_ := Aside0.mk (below_step (by repeat (first | (with_reducible first | exact HB.out | apply below_alloc | apply pw_below_drewN | apply below_drew1) | exact HB.out)) hb); have n1_ := Aside0.mk (hbox); have n2_ := Aside0.mk ((by rw [hg]; exact (below_size (by repeat (first | (with_reducible first | exact HB.out | apply below_alloc | apply pw_below_drewN | apply below_drew1) | exact HB.out))) : w.heap.size ≤ gb139)); have n3_ := Aside0.mk ((by rw [hg]; exact (below_size (by repeat (first | (with_reducible first | exact HB.out | apply below_alloc | apply pw_below_drewN | apply below_drew1) | exact HB.out))) : w.heap.size ≤ gb139)); clear HB; have HB := n0_; have BK139 := n1_; have GW139 := n2_; have GE139 := n3_; clear n0_ n1_ n2_ n3_; clear hb hbox hg) | ((with_reducible refine gate_callee (f := 8) rfl ?_); refine goesL_ (some 16) rfl rfl Try.func8 (by kernel_rfl) rfl #[] rfl (by (try simp only [List.map_toArray, List.map_cons, List.map_nil]); first | done | rfl | (simp only [List.length_drop, List.length_take]; rfl)) ?_; (with_reducible refine (nautiluslaw10_shown.calls  true _ A4.out).mono ?_); rintro e w23 ⟨rfl, hb⟩; refine ⟨_, rfl, ?_⟩; have n0_ := Aside0.mk (blk_below (g := gb139) (o := .cells #[.int .i64 a0_0, .int .u16 a0_1, .int .u16 a0_2, .int .u32 a0_3, .int .u64 a0_4, .int .i64 a0_5, .int .u32 a0_6, .int .u32 a0_7, .int .u32 a0_8, .int .u32 a0_9, .int .u32 a0_10, .int .u32 a0_11] 30 (0, 0)) (by (with_reducible repeat (first | refine blk_drewN ?_ _ | refine blk_drew ?_ | refine blk_alloc ?_ _)); exact BK139.out) hb); have n1_ := Aside0.mk (below_step (by repeat (first | (with_reducible first | exact HB.out | apply below_alloc | apply pw_below_drewN | apply below_drew1 | refine below_set ?_ GE139.out) | exact HB.out)) hb); clear BK139; clear HB; have BK139 := n0_; have HB := n1_; clear n0_ n1_; (try clear hb); (try clear hb2); (try clear hk); (try clear hi); have hcz24_0 : w23.cell? ⟨gb139, 0, none⟩ = some (.int .i64 a0_0) := (blk_cell BK139.out 0).trans rfl; have hcz24_1 : w23.cell? ⟨gb139, 1, none⟩ = some (.int .u16 a0_1) := (blk_cell BK139.out 1).trans rfl; have hcz24_2 : w23.cell? ⟨gb139, 2, none⟩ = some (.int .u16 a0_2) := (blk_cell BK139.out 2).trans rfl; have hcz24_3 : w23.cell? ⟨gb139, 3, none⟩ = some (.int .u32 a0_3) := (blk_cell BK139.out 3).trans rfl; have hcz24_4 : w23.cell? ⟨gb139, 4, none⟩ = some (.int .u64 a0_4) := (blk_cell BK139.out 4).trans rfl; have hcz24_5 : w23.cell? ⟨gb139, 5, none⟩ = some (.int .i64 a0_5) := (blk_cell BK139.out 5).trans rfl; have hcz24_6 : w23.cell? ⟨gb139, 6, none⟩ = some (.int .u32 a0_6) := (blk_cell BK139.out 6).trans rfl; have hcz24_7 : w23.cell? ⟨gb139, 7, none⟩ = some (.int .u32 a0_7) := (blk_cell BK139.out 7).trans rfl; have hcz24_8 : w23.cell? ⟨gb139, 8, none⟩ = some (.int .u32 a0_8) := (blk_cell BK139.out 8).trans rfl; have hcz24_9 : w23.cell? ⟨gb139, 9, none⟩ = some (.int .u32 a0_9) := (blk_cell BK139.out 9).trans rfl; have hcz24_10 : w23.cell? ⟨gb139, 10, none⟩ = some (.int .u32 a0_10) := (blk_cell BK139.out 10).trans rfl; have hcz24_11 : w23.cell? ⟨gb139, 11, none⟩ = some (.int .u32 a0_11) := (blk_cell BK139.out 11).trans rfl; have hfz24_0 := blk_frozen BK139.out 0; have hfz24_1 := blk_frozen BK139.out 1; have hfz24_2 := blk_frozen BK139.out 2; have hfz24_3 := blk_frozen BK139.out 3; have hfz24_4 := blk_frozen BK139.out 4; have hfz24_5 := blk_frozen BK139.out 5; have hfz24_6 := blk_frozen BK139.out 6; have hfz24_7 := blk_frozen BK139.out 7; have hfz24_8 := blk_frozen BK139.out 8; have hfz24_9 := blk_frozen BK139.out 9; have hfz24_10 := blk_frozen BK139.out 10; have hfz24_11 := blk_frozen BK139.out 11) | ((with_reducible refine gate_callee (f := 11) rfl ?_); refine goesL_ (some 19) rfl rfl Try.func11 (by kernel_rfl) rfl #[.agg #[.int .i64 a0_0, .int .u16 a0_1, .int .u16 a0_2, .int .u32 a0_3, .int .u64 a0_4, .int .i64 a0_5, .int .u32 a0_6, .int .u32 a0_7, .int .u32 a0_8, .int .u32 a0_9, .int .u32 a0_10, .int .u32 a0_11]] rfl (by (try simp only [List.map_toArray, List.map_cons, List.map_nil]); first | done | rfl | (simp only [List.length_drop, List.length_take]; rfl)) ?_; (with_reducible refine (inode_Encode.calls a0_0 a0_1 a0_2 a0_3 a0_4 a0_5 a0_6 a0_7 a0_8 a0_9 a0_10 a0_11 t141 t142 _ A5.out).mono ?_); rintro e w25 ⟨rfl, hb⟩; refine ⟨_, rfl, ?_⟩; have n0_ := Aside0.mk (blk_below (g := gb139) (o := .cells #[.int .i64 a0_0, .int .u16 a0_1, .int .u16 a0_2, .int .u32 a0_3, .int .u64 a0_4, .int .i64 a0_5, .int .u32 a0_6, .int .u32 a0_7, .int .u32 a0_8, .int .u32 a0_9, .int .u32 a0_10, .int .u32 a0_11] 30 (0, 0)) (by (with_reducible repeat (first | refine blk_drewN ?_ _ | refine blk_drew ?_ | refine blk_alloc ?_ _)); exact BK139.out) hb); have n1_ := Aside0.mk (below_step (by repeat (first | (with_reducible first | exact HB.out | apply below_alloc | apply pw_below_drewN | apply below_drew1 | refine below_set ?_ GE139.out) | exact HB.out)) hb); clear BK139; clear HB; have BK139 := n0_; have HB := n1_; clear n0_ n1_; (try clear hb); (try clear hb2); (try clear hk); (try clear hi); have hcz26_0 : w25.cell? ⟨gb139, 0, none⟩ = some (.int .i64 a0_0) := (blk_cell BK139.out 0).trans rfl; have hcz26_1 : w25.cell? ⟨gb139, 1, none⟩ = some (.int .u16 a0_1) := (blk_cell BK139.out 1).trans rfl; have hcz26_2 : w25.cell? ⟨gb139, 2, none⟩ = some (.int .u16 a0_2) := (blk_cell BK139.out 2).trans rfl; have hcz26_3 : w25.cell? ⟨gb139, 3, none⟩ = some (.int .u32 a0_3) := (blk_cell BK139.out 3).trans rfl; have hcz26_4 : w25.cell? ⟨gb139, 4, none⟩ = some (.int .u64 a0_4) := (blk_cell BK139.out 4).trans rfl; have hcz26_5 : w25.cell? ⟨gb139, 5, none⟩ = some (.int .i64 a0_5) := (blk_cell BK139.out 5).trans rfl; have hcz26_6 : w25.cell? ⟨gb139, 6, none⟩ = some (.int .u32 a0_6) := (blk_cell BK139.out 6).trans rfl; have hcz26_7 : w25.cell? ⟨gb139, 7, none⟩ = some (.int .u32 a0_7) := (blk_cell BK139.out 7).trans rfl; have hcz26_8 : w25.cell? ⟨gb139, 8, none⟩ = some (.int .u32 a0_8) := (blk_cell BK139.out 8).trans rfl; have hcz26_9 : w25.cell? ⟨gb139, 9, none⟩ = some (.int .u32 a0_9) := (blk_cell BK139.out 9).trans rfl; have hcz26_10 : w25.cell? ⟨gb139, 10, none⟩ = some (.int .u32 a0_10) := (blk_cell BK139.out 10).trans rfl; have hcz26_11 : w25.cell? ⟨gb139, 11, none⟩ = some (.int .u32 a0_11) := (blk_cell BK139.out 11).trans rfl; have hfz26_0 := blk_frozen BK139.out 0; have hfz26_1 := blk_frozen BK139.out 1; have hfz26_2 := blk_frozen BK139.out 2; have hfz26_3 := blk_frozen BK139.out 3; have hfz26_4 := blk_frozen BK139.out 4; have hfz26_5 := blk_frozen BK139.out 5; have hfz26_6 := blk_frozen BK139.out 6; have hfz26_7 := blk_frozen BK139.out 7; have hfz26_8 := blk_frozen BK139.out 8; have hfz26_9 := blk_frozen BK139.out 9; have hfz26_10 := blk_frozen BK139.out 10; have hfz26_11 := blk_frozen BK139.out 11) | ((with_reducible refine gate_callee (f := 12) rfl ?_); refine goesL_ (some 24) rfl rfl Try.func12 (by kernel_rfl) rfl #[.agg #[.int .i64 a0_0, .int .u16 a0_1, .int .u16 a0_2, .int .u32 a0_3, .int .u64 a0_4, .int .i64 a0_5, .int .u32 a0_6, .int .u32 a0_7, .int .u32 a0_8, .int .u32 a0_9, .int .u32 a0_10, .int .u32 a0_11]] rfl (by (try simp only [List.map_toArray, List.map_cons, List.map_nil]); first | done | rfl | (simp only [List.length_drop, List.length_take]; rfl)) ?_; (with_reducible refine (nautilusref10_Encode.calls a0_0 a0_1 a0_2 a0_3 a0_4 a0_5 a0_6 a0_7 a0_8 a0_9 a0_10 a0_11 t143 t144 _ A6.out).mono ?_); rintro e w27 ⟨rfl, hb⟩; refine ⟨_, rfl, ?_⟩; have n0_ := Aside0.mk (blk_below (g := gb139) (o := .cells #[.int .i64 a0_0, .int .u16 a0_1, .int .u16 a0_2, .int .u32 a0_3, .int .u64 a0_4, .int .i64 a0_5, .int .u32 a0_6, .int .u32 a0_7, .int .u32 a0_8, .int .u32 a0_9, .int .u32 a0_10, .int .u32 a0_11] 30 (0, 0)) (by (with_reducible repeat (first | refine blk_drewN ?_ _ | refine blk_drew ?_ | refine blk_alloc ?_ _)); exact BK139.out) hb); have n1_ := Aside0.mk (below_step (by repeat (first | (with_reducible first | exact HB.out | apply below_alloc | apply pw_below_drewN | apply below_drew1 | refine below_set ?_ GE139.out) | exact HB.out)) hb); clear BK139; clear HB; have BK139 := n0_; have HB := n1_; clear n0_ n1_; (try clear hb); (try clear hb2); (try clear hk); (try clear hi)) | ((with_reducible refine gate_callee (f := 13) rfl ?_); refine goesL_ (some 29) rfl rfl Try.func13 (by kernel_rfl) rfl #[.string a1] rfl (by (try simp only [List.map_toArray, List.map_cons, List.map_nil]); first | done | rfl | (simp only [List.length_drop, List.length_take]; rfl)) ?_; (with_reducible refine (inode_Decode.calls a1 t145 t146 t147 t148 t149 t150 t151 t152 t153 t154 t155 t156 t157 _ A7.out).mono ?_); rintro e w28 ⟨rfl, hb⟩; refine ⟨_, rfl, ?_⟩; have n0_ := Aside0.mk (blk_below (g := gb139) (o := .cells #[.int .i64 a0_0, .int .u16 a0_1, .int .u16 a0_2, .int .u32 a0_3, .int .u64 a0_4, .int .i64 a0_5, .int .u32 a0_6, .int .u32 a0_7, .int .u32 a0_8, .int .u32 a0_9, .int .u32 a0_10, .int .u32 a0_11] 30 (0, 0)) (by (with_reducible repeat (first | refine blk_drewN ?_ _ | refine blk_drew ?_ | refine blk_alloc ?_ _)); exact BK139.out) hb); have n1_ := Aside0.mk (below_step (by repeat (first | (with_reducible first | exact HB.out | apply below_alloc | apply pw_below_drewN | apply below_drew1 | refine below_set ?_ GE139.out) | exact HB.out)) hb); clear BK139; clear HB; have BK139 := n0_; have HB := n1_; clear n0_ n1_; (try clear hb); (try clear hb2); (try clear hk); (try clear hi)) | ((with_reducible refine gate_dst (N := 12) rfl ?_); refine box_event ?hg (N := 12) ?hd (cs := #[.int .i64 0, .int .u16 0, .int .u16 0, .int .u32 0, .int .u64 0, .int .i64 0, .int .u32 0, .int .u32 0, .int .u32 0, .int .u32 0, .int .u32 0, .int .u32 0]) (t := 30) ?hr ?_; (case hd => rfl); (case hg => rfl); (case hr => first | (go_simp; done) | (go_simp; rfl)); intro gb158 hg w29 hbox hb; have n0_ := Aside0.mk (blk_below (g := gb139) (o := .cells #[.int .i64 a0_0, .int .u16 a0_1, .int .u16 a0_2, .int .u32 a0_3, .int .u64 a0_4, .int .i64 a0_5, .int .u32 a0_6, .int .u32 a0_7, .int .u32 a0_8, .int .u32 a0_9, .int .u32 a0_10, .int .u32 a0_11] 30 (0, 0)) (by (with_reducible repeat (first | refine blk_drewN ?_ _ | refine blk_drew ?_ | refine blk_alloc ?_ _)); exact BK139.out) hb); have n1_ := Aside0.mk (below_step (by repeat (first | (with_reducible first | exact HB.out | apply below_alloc | apply pw_below_drewN | apply below_drew1 | refine below_set ?_ GE139.out) | exact HB.out)) hb); have n2_ := Aside0.mk (hbox); have n3_ := Aside0.mk ((by rw [hg]; exact (below_size (by repeat (first | (with_reducible first | exact HB.out | apply below_alloc | apply pw_below_drewN | apply below_drew1 | refine below_set ?_ GE139.out) | exact HB.out))) : w.heap.size ≤ gb158)); have n4_ := Aside0.mk ((by rw [hg]; exact (below_size (by repeat (first | (with_reducible first | exact HB.out | apply below_alloc | apply pw_below_drewN | apply below_drew1 | refine below_set ?_ GE139.out) | exact HB.out))) : w.heap.size ≤ gb158)); have n5_ := Aside0.mk ((by rw [hg]; exact Nat.ne_of_lt (blk_lt (g := gb139) (o := .cells #[.int .i64 a0_0, .int .u16 a0_1, .int .u16 a0_2, .int .u32 a0_3, .int .u64 a0_4, .int .i64 a0_5, .int .u32 a0_6, .int .u32 a0_7, .int .u32 a0_8, .int .u32 a0_9, .int .u32 a0_10, .int .u32 a0_11] 30 (0, 0)) (by (with_reducible repeat (first | refine blk_drewN ?_ _ | refine blk_drew ?_ | refine blk_alloc ?_ _)); exact BK139.out)) : gb139 ≠ gb158)); have n6_ := Aside0.mk ((by rw [hg]; exact Nat.ne_of_gt (blk_lt (g := gb139) (o := .cells #[.int .i64 a0_0, .int .u16 a0_1, .int .u16 a0_2, .int .u32 a0_3, .int .u64 a0_4, .int .i64 a0_5, .int .u32 a0_6, .int .u32 a0_7, .int .u32 a0_8, .int .u32 a0_9, .int .u32 a0_10, .int .u32 a0_11] 30 (0, 0)) (by (with_reducible repeat (first | refine blk_drewN ?_ _ | refine blk_drew ?_ | refine blk_alloc ?_ _)); exact BK139.out)) : gb158 ≠ gb139)); clear BK139; clear HB; have BK139 := n0_; have HB := n1_; have BK158 := n2_; have GW158 := n3_; have GE158 := n4_; have NB139_158 := n5_; have NB158_139 := n6_; clear n0_ n1_ n2_ n3_ n4_ n5_ n6_; clear hb hbox hg; have hnb30 := NB158_139.out; have hnc30 := NB139_158.out; have hcz31_0 : w29.cell? ⟨gb158, 0, none⟩ = some (.int .i64 0) := (blk_cell BK158.out 0).trans rfl; have hcz31_1 : w29.cell? ⟨gb158, 1, none⟩ = some (.int .u16 0) := (blk_cell BK158.out 1).trans rfl; have hcz31_2 : w29.cell? ⟨gb158, 2, none⟩ = some (.int .u16 0) := (blk_cell BK158.out 2).trans rfl; have hcz31_3 : w29.cell? ⟨gb158, 3, none⟩ = some (.int .u32 0) := (blk_cell BK158.out 3).trans rfl; have hcz31_4 : w29.cell? ⟨gb158, 4, none⟩ = some (.int .u64 0) := (blk_cell BK158.out 4).trans rfl; have hcz31_5 : w29.cell? ⟨gb158, 5, none⟩ = some (.int .i64 0) := (blk_cell BK158.out 5).trans rfl; have hcz31_6 : w29.cell? ⟨gb158, 6, none⟩ = some (.int .u32 0) := (blk_cell BK158.out 6).trans rfl; have hcz31_7 : w29.cell? ⟨gb158, 7, none⟩ = some (.int .u32 0) := (blk_cell BK158.out 7).trans rfl; have hcz31_8 : w29.cell? ⟨gb158, 8, none⟩ = some (.int .u32 0) := (blk_cell BK158.out 8).trans rfl; have hcz31_9 : w29.cell? ⟨gb158, 9, none⟩ = some (.int .u32 0) := (blk_cell BK158.out 9).trans rfl; have hcz31_10 : w29.cell? ⟨gb158, 10, none⟩ = some (.int .u32 0) := (blk_cell BK158.out 10).trans rfl; have hcz31_11 : w29.cell? ⟨gb158, 11, none⟩ = some (.int .u32 0) := (blk_cell BK158.out 11).trans rfl; have hfz31_0 := blk_frozen BK158.out 0; have hfz31_1 := blk_frozen BK158.out 1; have hfz31_2 := blk_frozen BK158.out 2; have hfz31_3 := blk_frozen BK158.out 3; have hfz31_4 := blk_frozen BK158.out 4; have hfz31_5 := blk_frozen BK158.out 5; have hfz31_6 := blk_frozen BK158.out 6; have hfz31_7 := blk_frozen BK158.out 7; have hfz31_8 := blk_frozen BK158.out 8; have hfz31_9 := blk_frozen BK158.out 9; have hfz31_10 := blk_frozen BK158.out 10; have hfz31_11 := blk_frozen BK158.out 11) | ((with_reducible refine gate_callee (f := 14) rfl ?_); refine goesL_ (some 34) rfl rfl Try.func14 (by kernel_rfl) rfl #[.string a1] rfl (by (try simp only [List.map_toArray, List.map_cons, List.map_nil]); first | done | rfl | (simp only [List.length_drop, List.length_take]; rfl)) ?_; (with_reducible refine (nautilusref10_Decode.calls a1 t159 t160 t161 t162 t163 t164 t165 t166 t167 t168 t169 t170 t171 _ A8.out).mono ?_); rintro e w32 ⟨rfl, hb⟩; refine ⟨_, rfl, ?_⟩; have n0_ := Aside0.mk (blk_below (g := gb139) (o := .cells #[.int .i64 a0_0, .int .u16 a0_1, .int .u16 a0_2, .int .u32 a0_3, .int .u64 a0_4, .int .i64 a0_5, .int .u32 a0_6, .int .u32 a0_7, .int .u32 a0_8, .int .u32 a0_9, .int .u32 a0_10, .int .u32 a0_11] 30 (0, 0)) (by (with_reducible repeat (first | refine blk_drewN ?_ _ | refine blk_drew ?_ | refine blk_alloc ?_ _)); refine blk_far ?_ NB139_158.out _; (with_reducible repeat (first | refine blk_drewN ?_ _ | refine blk_drew ?_ | refine blk_alloc ?_ _)); refine blk_far ?_ NB139_158.out _; (with_reducible repeat (first | refine blk_drewN ?_ _ | refine blk_drew ?_ | refine blk_alloc ?_ _)); refine blk_far ?_ NB139_158.out _; (with_reducible repeat (first | refine blk_drewN ?_ _ | refine blk_drew ?_ | refine blk_alloc ?_ _)); refine blk_far ?_ NB139_158.out _; (with_reducible repeat (first | refine blk_drewN ?_ _ | refine blk_drew ?_ | refine blk_alloc ?_ _)); refine blk_far ?_ NB139_158.out _; (with_reducible repeat (first | refine blk_drewN ?_ _ | refine blk_drew ?_ | refine blk_alloc ?_ _)); refine blk_far ?_ NB139_158.out _; (with_reducible repeat (first | refine blk_drewN ?_ _ | refine blk_drew ?_ | refine blk_alloc ?_ _)); refine blk_far ?_ NB139_158.out _; (with_reducible repeat (first | refine blk_drewN ?_ _ | refine blk_drew ?_ | refine blk_alloc ?_ _)); refine blk_far ?_ NB139_158.out _; (with_reducible repeat (first | refine blk_drewN ?_ _ | refine blk_drew ?_ | refine blk_alloc ?_ _)); refine blk_far ?_ NB139_158.out _; (with_reducible repeat (first | refine blk_drewN ?_ _ | refine blk_drew ?_ | refine blk_alloc ?_ _)); refine blk_far ?_ NB139_158.out _; (with_reducible repeat (first | refine blk_drewN ?_ _ | refine blk_drew ?_ | refine blk_alloc ?_ _)); refine blk_far ?_ NB139_158.out _; (with_reducible repeat (first | refine blk_drewN ?_ _ | refine blk_drew ?_ | refine blk_alloc ?_ _)); refine blk_far ?_ NB139_158.out _; (with_reducible repeat (first | refine blk_drewN ?_ _ | refine blk_drew ?_ | refine blk_alloc ?_ _)); exact BK139.out) hb); have n1_ := Aside0.mk (blk_below (g := gb158) (o := .cells #[.int .i64 t145, .int .u16 t146, .int .u16 t147, .int .u32 t148, .int .u64 t149, .int .i64 t150, .int .u32 t151, .int .u32 t152, .int .u32 t153, .int .u32 t154, .int .u32 t155, .int .u32 t156] 30 (0, 0)) (by (with_reducible repeat (first | refine blk_drewN ?_ _ | refine blk_drew ?_ | refine blk_alloc ?_ _)); refine blk_put (cs := #[.int .i64 t145, .int .u16 t146, .int .u16 t147, .int .u32 t148, .int .u64 t149, .int .i64 t150, .int .u32 t151, .int .u32 t152, .int .u32 t153, .int .u32 t154, .int .u32 t155, .int .u32 0]) ?_ 11 _ rfl; (with_reducible repeat (first | refine blk_drewN ?_ _ | refine blk_drew ?_ | refine blk_alloc ?_ _)); refine blk_put (cs := #[.int .i64 t145, .int .u16 t146, .int .u16 t147, .int .u32 t148, .int .u64 t149, .int .i64 t150, .int .u32 t151, .int .u32 t152, .int .u32 t153, .int .u32 t154, .int .u32 0, .int .u32 0]) ?_ 10 _ rfl; (with_reducible repeat (first | refine blk_drewN ?_ _ | refine blk_drew ?_ | refine blk_alloc ?_ _)); refine blk_put (cs := #[.int .i64 t145, .int .u16 t146, .int .u16 t147, .int .u32 t148, .int .u64 t149, .int .i64 t150, .int .u32 t151, .int .u32 t152, .int .u32 t153, .int .u32 0, .int .u32 0, .int .u32 0]) ?_ 9 _ rfl; (with_reducible repeat (first | refine blk_drewN ?_ _ | refine blk_drew ?_ | refine blk_alloc ?_ _)); refine blk_put (cs := #[.int .i64 t145, .int .u16 t146, .int .u16 t147, .int .u32 t148, .int .u64 t149, .int .i64 t150, .int .u32 t151, .int .u32 t152, .int .u32 0, .int .u32 0, .int .u32 0, .int .u32 0]) ?_ 8 _ rfl; (with_reducible repeat (first | refine blk_drewN ?_ _ | refine blk_drew ?_ | refine blk_alloc ?_ _)); refine blk_put (cs := #[.int .i64 t145, .int .u16 t146, .int .u16 t147, .int .u32 t148, .int .u64 t149, .int .i64 t150, .int .u32 t151, .int .u32 0, .int .u32 0, .int .u32 0, .int .u32 0, .int .u32 0]) ?_ 7 _ rfl; (with_reducible repeat (first | refine blk_drewN ?_ _ | refine blk_drew ?_ | refine blk_alloc ?_ _)); refine blk_put (cs := #[.int .i64 t145, .int .u16 t146, .int .u16 t147, .int .u32 t148, .int .u64 t149, .int .i64 t150, .int .u32 0, .int .u32 0, .int .u32 0, .int .u32 0, .int .u32 0, .int .u32 0]) ?_ 6 _ rfl; (with_reducible repeat (first | refine blk_drewN ?_ _ | refine blk_drew ?_ | refine blk_alloc ?_ _)); refine blk_put (cs := #[.int .i64 t145, .int .u16 t146, .int .u16 t147, .int .u32 t148, .int .u64 t149, .int .i64 0, .int .u32 0, .int .u32 0, .int .u32 0, .int .u32 0, .int .u32 0, .int .u32 0]) ?_ 5 _ rfl; (with_reducible repeat (first | refine blk_drewN ?_ _ | refine blk_drew ?_ | refine blk_alloc ?_ _)); refine blk_put (cs := #[.int .i64 t145, .int .u16 t146, .int .u16 t147, .int .u32 t148, .int .u64 0, .int .i64 0, .int .u32 0, .int .u32 0, .int .u32 0, .int .u32 0, .int .u32 0, .int .u32 0]) ?_ 4 _ rfl; (with_reducible repeat (first | refine blk_drewN ?_ _ | refine blk_drew ?_ | refine blk_alloc ?_ _)); refine blk_put (cs := #[.int .i64 t145, .int .u16 t146, .int .u16 t147, .int .u32 0, .int .u64 0, .int .i64 0, .int .u32 0, .int .u32 0, .int .u32 0, .int .u32 0, .int .u32 0, .int .u32 0]) ?_ 3 _ rfl; (with_reducible repeat (first | refine blk_drewN ?_ _ | refine blk_drew ?_ | refine blk_alloc ?_ _)); refine blk_put (cs := #[.int .i64 t145, .int .u16 t146, .int .u16 0, .int .u32 0, .int .u64 0, .int .i64 0, .int .u32 0, .int .u32 0, .int .u32 0, .int .u32 0, .int .u32 0, .int .u32 0]) ?_ 2 _ rfl; (with_reducible repeat (first | refine blk_drewN ?_ _ | refine blk_drew ?_ | refine blk_alloc ?_ _)); refine blk_put (cs := #[.int .i64 t145, .int .u16 0, .int .u16 0, .int .u32 0, .int .u64 0, .int .i64 0, .int .u32 0, .int .u32 0, .int .u32 0, .int .u32 0, .int .u32 0, .int .u32 0]) ?_ 1 _ rfl; (with_reducible repeat (first | refine blk_drewN ?_ _ | refine blk_drew ?_ | refine blk_alloc ?_ _)); refine blk_put (cs := #[.int .i64 0, .int .u16 0, .int .u16 0, .int .u32 0, .int .u64 0, .int .i64 0, .int .u32 0, .int .u32 0, .int .u32 0, .int .u32 0, .int .u32 0, .int .u32 0]) ?_ 0 _ rfl; (with_reducible repeat (first | refine blk_drewN ?_ _ | refine blk_drew ?_ | refine blk_alloc ?_ _)); exact BK158.out) hb); have n2_ := Aside0.mk (below_step (by repeat (first | (with_reducible first | exact HB.out | apply below_alloc | apply pw_below_drewN | apply below_drew1 | refine below_set ?_ GE139.out | refine below_set ?_ GE158.out) | exact HB.out)) hb); clear BK139; clear BK158; clear HB; have BK139 := n0_; have BK158 := n1_; have HB := n2_; clear n0_ n1_ n2_; (try clear hb); (try clear hb2); (try clear hk); (try clear hi)) | ((with_reducible refine gate_dst (N := 14) rfl ?_); refine box_event ?hg (N := 14) ?hd (cs := #[.int .i64 0, .int .u16 0, .int .u16 0, .int .u32 0, .int .u64 0, .int .i64 0, .int .u32 0, .int .u32 0, .int .u32 0, .int .u32 0, .int .u32 0, .int .u32 0]) (t := 30) ?hr ?_; (case hd => rfl); (case hg => rfl); (case hr => first | (go_simp; done) | (go_simp; rfl)); intro gb172 hg w33 hbox hb; have n0_ := Aside0.mk (blk_below (g := gb139) (o := .cells #[.int .i64 a0_0, .int .u16 a0_1, .int .u16 a0_2, .int .u32 a0_3, .int .u64 a0_4, .int .i64 a0_5, .int .u32 a0_6, .int .u32 a0_7, .int .u32 a0_8, .int .u32 a0_9, .int .u32 a0_10, .int .u32 a0_11] 30 (0, 0)) (by (with_reducible repeat (first | refine blk_drewN ?_ _ | refine blk_drew ?_ | refine blk_alloc ?_ _)); exact BK139.out) hb); have n1_ := Aside0.mk (blk_below (g := gb158) (o := .cells #[.int .i64 t145, .int .u16 t146, .int .u16 t147, .int .u32 t148, .int .u64 t149, .int .i64 t150, .int .u32 t151, .int .u32 t152, .int .u32 t153, .int .u32 t154, .int .u32 t155, .int .u32 t156] 30 (0, 0)) (by (with_reducible repeat (first | refine blk_drewN ?_ _ | refine blk_drew ?_ | refine blk_alloc ?_ _)); exact BK158.out) hb); have n2_ := Aside0.mk (below_step (by repeat (first | (with_reducible first | exact HB.out | apply below_alloc | apply pw_below_drewN | apply below_drew1 | refine below_set ?_ GE139.out | refine below_set ?_ GE158.out) | exact HB.out)) hb); have n3_ := Aside0.mk (hbox); have n4_ := Aside0.mk ((by rw [hg]; exact (below_size (by repeat (first | (with_reducible first | exact HB.out | apply below_alloc | apply pw_below_drewN | apply below_drew1 | refine below_set ?_ GE139.out | refine below_set ?_ GE158.out) | exact HB.out))) : w.heap.size ≤ gb172)); have n5_ := Aside0.mk ((by rw [hg]; exact (below_size (by repeat (first | (with_reducible first | exact HB.out | apply below_alloc | apply pw_below_drewN | apply below_drew1 | refine below_set ?_ GE139.out | refine below_set ?_ GE158.out) | exact HB.out))) : w.heap.size ≤ gb172)); have n6_ := Aside0.mk ((by rw [hg]; exact Nat.ne_of_lt (blk_lt (g := gb139) (o := .cells #[.int .i64 a0_0, .int .u16 a0_1, .int .u16 a0_2, .int .u32 a0_3, .int .u64 a0_4, .int .i64 a0_5, .int .u32 a0_6, .int .u32 a0_7, .int .u32 a0_8, .int .u32 a0_9, .int .u32 a0_10, .int .u32 a0_11] 30 (0, 0)) (by (with_reducible repeat (first | refine blk_drewN ?_ _ | refine blk_drew ?_ | refine blk_alloc ?_ _)); exact BK139.out)) : gb139 ≠ gb172)); have n7_ := Aside0.mk ((by rw [hg]; exact Nat.ne_of_gt (blk_lt (g := gb139) (o := .cells #[.int .i64 a0_0, .int .u16 a0_1, .int .u16 a0_2, .int .u32 a0_3, .int .u64 a0_4, .int .i64 a0_5, .int .u32 a0_6, .int .u32 a0_7, .int .u32 a0_8, .int .u32 a0_9, .int .u32 a0_10, .int .u32 a0_11] 30 (0, 0)) (by (with_reducible repeat (first | refine blk_drewN ?_ _ | refine blk_drew ?_ | refine blk_alloc ?_ _)); exact BK139.out)) : gb172 ≠ gb139)); have n8_ := Aside0.mk ((by rw [hg]; exact Nat.ne_of_lt (blk_lt (g := gb158) (o := .cells #[.int .i64 t145, .int .u16 t146, .int .u16 t147, .int .u32 t148, .int .u64 t149, .int .i64 t150, .int .u32 t151, .int .u32 t152, .int .u32 t153, .int .u32 t154, .int .u32 t155, .int .u32 t156] 30 (0, 0)) (by (with_reducible repeat (first | refine blk_drewN ?_ _ | refine blk_drew ?_ | refine blk_alloc ?_ _)); exact BK158.out)) : gb158 ≠ gb172)); have n9_ := Aside0.mk ((by rw [hg]; exact Nat.ne_of_gt (blk_lt (g := gb158) (o := .cells #[.int .i64 t145, .int .u16 t146, .int .u16 t147, .int .u32 t148, .int .u64 t149, .int .i64 t150, .int .u32 t151, .int .u32 t152, .int .u32 t153, .int .u32 t154, .int .u32 t155, .int .u32 t156] 30 (0, 0)) (by (with_reducible repeat (first | refine blk_drewN ?_ _ | refine blk_drew ?_ | refine blk_alloc ?_ _)); exact BK158.out)) : gb172 ≠ gb158)); clear BK139; clear BK158; clear HB; have BK139 := n0_; have BK158 := n1_; have HB := n2_; have BK172 := n3_; have GW172 := n4_; have GE172 := n5_; have NB139_172 := n6_; have NB172_139 := n7_; have NB158_172 := n8_; have NB172_158 := n9_; clear n0_ n1_ n2_ n3_ n4_ n5_ n6_ n7_ n8_ n9_; clear hb hbox hg; have hnb34 := NB172_139.out; have hnc34 := NB139_172.out; have hnb35 := NB172_158.out; have hnc35 := NB158_172.out; have hcz36_0 : w33.cell? ⟨gb172, 0, none⟩ = some (.int .i64 0) := (blk_cell BK172.out 0).trans rfl; have hcz36_1 : w33.cell? ⟨gb172, 1, none⟩ = some (.int .u16 0) := (blk_cell BK172.out 1).trans rfl; have hcz36_2 : w33.cell? ⟨gb172, 2, none⟩ = some (.int .u16 0) := (blk_cell BK172.out 2).trans rfl; have hcz36_3 : w33.cell? ⟨gb172, 3, none⟩ = some (.int .u32 0) := (blk_cell BK172.out 3).trans rfl; have hcz36_4 : w33.cell? ⟨gb172, 4, none⟩ = some (.int .u64 0) := (blk_cell BK172.out 4).trans rfl; have hcz36_5 : w33.cell? ⟨gb172, 5, none⟩ = some (.int .i64 0) := (blk_cell BK172.out 5).trans rfl; have hcz36_6 : w33.cell? ⟨gb172, 6, none⟩ = some (.int .u32 0) := (blk_cell BK172.out 6).trans rfl; have hcz36_7 : w33.cell? ⟨gb172, 7, none⟩ = some (.int .u32 0) := (blk_cell BK172.out 7).trans rfl; have hcz36_8 : w33.cell? ⟨gb172, 8, none⟩ = some (.int .u32 0) := (blk_cell BK172.out 8).trans rfl; have hcz36_9 : w33.cell? ⟨gb172, 9, none⟩ = some (.int .u32 0) := (blk_cell BK172.out 9).trans rfl; have hcz36_10 : w33.cell? ⟨gb172, 10, none⟩ = some (.int .u32 0) := (blk_cell BK172.out 10).trans rfl; have hcz36_11 : w33.cell? ⟨gb172, 11, none⟩ = some (.int .u32 0) := (blk_cell BK172.out 11).trans rfl; have hfz36_0 := blk_frozen BK172.out 0; have hfz36_1 := blk_frozen BK172.out 1; have hfz36_2 := blk_frozen BK172.out 2; have hfz36_3 := blk_frozen BK172.out 3; have hfz36_4 := blk_frozen BK172.out 4; have hfz36_5 := blk_frozen BK172.out 5; have hfz36_6 := blk_frozen BK172.out 6; have hfz36_7 := blk_frozen BK172.out 7; have hfz36_8 := blk_frozen BK172.out 8; have hfz36_9 := blk_frozen BK172.out 9; have hfz36_10 := blk_frozen BK172.out 10; have hfz36_11 := blk_frozen BK172.out 11))
                have n0_ : Aside0 (((((((((((((w33.setCell ⟨gb172, 0, none⟩ (.int .i64 t159)).setCell ⟨gb172, 1, none⟩ (.int .u16 t160)).setCell ⟨gb172, 2, none⟩ (.int .u16 t161)).setCell ⟨gb172, 3, none⟩ (.int .u32 t162)).setCell ⟨gb172, 4, none⟩ (.int .u64 t163)).setCell ⟨gb172, 5, none⟩ (.int .i64 t164)).setCell ⟨gb172, 6, none⟩ (.int .u32 t165)).setCell ⟨gb172, 7, none⟩ (.int .u32 t166)).setCell ⟨gb172, 8, none⟩ (.int .u32 t167)).setCell ⟨gb172, 9, none⟩ (.int .u32 t168)).setCell ⟨gb172, 10, none⟩ (.int .u32 t169)).setCell ⟨gb172, 11, none⟩ (.int .u32 t170)).heap[gb139]? = some (.cells #[.int .i64 a0_0, .int .u16 a0_1, .int .u16 a0_2, .int .u32 a0_3, .int .u64 a0_4, .int .i64 a0_5, .int .u32 a0_6, .int .u32 a0_7, .int .u32 a0_8, .int .u32 a0_9, .int .u32 a0_10, .int .u32 a0_11] 30 (0, 0))) := ⟨by (with_reducible repeat (first | refine blk_drewN ?_ _ | refine blk_drew ?_ | refine blk_alloc ?_ _)); refine blk_far ?_ NB139_172.out _; (with_reducible repeat (first | refine blk_drewN ?_ _ | refine blk_drew ?_ | refine blk_alloc ?_ _)); refine blk_far ?_ NB139_172.out _; (with_reducible repeat (first | refine blk_drewN ?_ _ | refine blk_drew ?_ | refine blk_alloc ?_ _)); refine blk_far ?_ NB139_172.out _; (with_reducible repeat (first | refine blk_drewN ?_ _ | refine blk_drew ?_ | refine blk_alloc ?_ _)); refine blk_far ?_ NB139_172.out _; (with_reducible repeat (first | refine blk_drewN ?_ _ | refine blk_drew ?_ | refine blk_alloc ?_ _)); refine blk_far ?_ NB139_172.out _; (with_reducible repeat (first | refine blk_drewN ?_ _ | refine blk_drew ?_ | refine blk_alloc ?_ _)); refine blk_far ?_ NB139_172.out _; (with_reducible repeat (first | refine blk_drewN ?_ _ | refine blk_drew ?_ | refine blk_alloc ?_ _)); refine blk_far ?_ NB139_172.out _; (with_reducible repeat (first | refine blk_drewN ?_ _ | refine blk_drew ?_ | refine blk_alloc ?_ _)); refine blk_far ?_ NB139_172.out _; (with_reducible repeat (first | refine blk_drewN ?_ _ | refine blk_drew ?_ | refine blk_alloc ?_ _)); refine blk_far ?_ NB139_172.out _; (with_reducible repeat (first | refine blk_drewN ?_ _ | refine blk_drew ?_ | refine blk_alloc ?_ _)); refine blk_far ?_ NB139_172.out _; (with_reducible repeat (first | refine blk_drewN ?_ _ | refine blk_drew ?_ | refine blk_alloc ?_ _)); refine blk_far ?_ NB139_172.out _; (with_reducible repeat (first | refine blk_drewN ?_ _ | refine blk_drew ?_ | refine blk_alloc ?_ _)); refine blk_far ?_ NB139_172.out _; (with_reducible repeat (first | refine blk_drewN ?_ _ | refine blk_drew ?_ | refine blk_alloc ?_ _)); exact BK139.out⟩
                have n1_ : Aside0 (((((((((((((w33.setCell ⟨gb172, 0, none⟩ (.int .i64 t159)).setCell ⟨gb172, 1, none⟩ (.int .u16 t160)).setCell ⟨gb172, 2, none⟩ (.int .u16 t161)).setCell ⟨gb172, 3, none⟩ (.int .u32 t162)).setCell ⟨gb172, 4, none⟩ (.int .u64 t163)).setCell ⟨gb172, 5, none⟩ (.int .i64 t164)).setCell ⟨gb172, 6, none⟩ (.int .u32 t165)).setCell ⟨gb172, 7, none⟩ (.int .u32 t166)).setCell ⟨gb172, 8, none⟩ (.int .u32 t167)).setCell ⟨gb172, 9, none⟩ (.int .u32 t168)).setCell ⟨gb172, 10, none⟩ (.int .u32 t169)).setCell ⟨gb172, 11, none⟩ (.int .u32 t170)).heap[gb158]? = some (.cells #[.int .i64 t145, .int .u16 t146, .int .u16 t147, .int .u32 t148, .int .u64 t149, .int .i64 t150, .int .u32 t151, .int .u32 t152, .int .u32 t153, .int .u32 t154, .int .u32 t155, .int .u32 t156] 30 (0, 0))) := ⟨by (with_reducible repeat (first | refine blk_drewN ?_ _ | refine blk_drew ?_ | refine blk_alloc ?_ _)); refine blk_far ?_ NB158_172.out _; (with_reducible repeat (first | refine blk_drewN ?_ _ | refine blk_drew ?_ | refine blk_alloc ?_ _)); refine blk_far ?_ NB158_172.out _; (with_reducible repeat (first | refine blk_drewN ?_ _ | refine blk_drew ?_ | refine blk_alloc ?_ _)); refine blk_far ?_ NB158_172.out _; (with_reducible repeat (first | refine blk_drewN ?_ _ | refine blk_drew ?_ | refine blk_alloc ?_ _)); refine blk_far ?_ NB158_172.out _; (with_reducible repeat (first | refine blk_drewN ?_ _ | refine blk_drew ?_ | refine blk_alloc ?_ _)); refine blk_far ?_ NB158_172.out _; (with_reducible repeat (first | refine blk_drewN ?_ _ | refine blk_drew ?_ | refine blk_alloc ?_ _)); refine blk_far ?_ NB158_172.out _; (with_reducible repeat (first | refine blk_drewN ?_ _ | refine blk_drew ?_ | refine blk_alloc ?_ _)); refine blk_far ?_ NB158_172.out _; (with_reducible repeat (first | refine blk_drewN ?_ _ | refine blk_drew ?_ | refine blk_alloc ?_ _)); refine blk_far ?_ NB158_172.out _; (with_reducible repeat (first | refine blk_drewN ?_ _ | refine blk_drew ?_ | refine blk_alloc ?_ _)); refine blk_far ?_ NB158_172.out _; (with_reducible repeat (first | refine blk_drewN ?_ _ | refine blk_drew ?_ | refine blk_alloc ?_ _)); refine blk_far ?_ NB158_172.out _; (with_reducible repeat (first | refine blk_drewN ?_ _ | refine blk_drew ?_ | refine blk_alloc ?_ _)); refine blk_far ?_ NB158_172.out _; (with_reducible repeat (first | refine blk_drewN ?_ _ | refine blk_drew ?_ | refine blk_alloc ?_ _)); refine blk_far ?_ NB158_172.out _; (with_reducible repeat (first | refine blk_drewN ?_ _ | refine blk_drew ?_ | refine blk_alloc ?_ _)); exact BK158.out⟩
                have n2_ : Aside0 (((((((((((((w33.setCell ⟨gb172, 0, none⟩ (.int .i64 t159)).setCell ⟨gb172, 1, none⟩ (.int .u16 t160)).setCell ⟨gb172, 2, none⟩ (.int .u16 t161)).setCell ⟨gb172, 3, none⟩ (.int .u32 t162)).setCell ⟨gb172, 4, none⟩ (.int .u64 t163)).setCell ⟨gb172, 5, none⟩ (.int .i64 t164)).setCell ⟨gb172, 6, none⟩ (.int .u32 t165)).setCell ⟨gb172, 7, none⟩ (.int .u32 t166)).setCell ⟨gb172, 8, none⟩ (.int .u32 t167)).setCell ⟨gb172, 9, none⟩ (.int .u32 t168)).setCell ⟨gb172, 10, none⟩ (.int .u32 t169)).setCell ⟨gb172, 11, none⟩ (.int .u32 t170)).heap[gb172]? = some (.cells #[.int .i64 t159, .int .u16 t160, .int .u16 t161, .int .u32 t162, .int .u64 t163, .int .i64 t164, .int .u32 t165, .int .u32 t166, .int .u32 t167, .int .u32 t168, .int .u32 t169, .int .u32 t170] 30 (0, 0))) := ⟨by (with_reducible repeat (first | refine blk_drewN ?_ _ | refine blk_drew ?_ | refine blk_alloc ?_ _)); refine blk_put (cs := #[.int .i64 t159, .int .u16 t160, .int .u16 t161, .int .u32 t162, .int .u64 t163, .int .i64 t164, .int .u32 t165, .int .u32 t166, .int .u32 t167, .int .u32 t168, .int .u32 t169, .int .u32 0]) ?_ 11 _ rfl; (with_reducible repeat (first | refine blk_drewN ?_ _ | refine blk_drew ?_ | refine blk_alloc ?_ _)); refine blk_put (cs := #[.int .i64 t159, .int .u16 t160, .int .u16 t161, .int .u32 t162, .int .u64 t163, .int .i64 t164, .int .u32 t165, .int .u32 t166, .int .u32 t167, .int .u32 t168, .int .u32 0, .int .u32 0]) ?_ 10 _ rfl; (with_reducible repeat (first | refine blk_drewN ?_ _ | refine blk_drew ?_ | refine blk_alloc ?_ _)); refine blk_put (cs := #[.int .i64 t159, .int .u16 t160, .int .u16 t161, .int .u32 t162, .int .u64 t163, .int .i64 t164, .int .u32 t165, .int .u32 t166, .int .u32 t167, .int .u32 0, .int .u32 0, .int .u32 0]) ?_ 9 _ rfl; (with_reducible repeat (first | refine blk_drewN ?_ _ | refine blk_drew ?_ | refine blk_alloc ?_ _)); refine blk_put (cs := #[.int .i64 t159, .int .u16 t160, .int .u16 t161, .int .u32 t162, .int .u64 t163, .int .i64 t164, .int .u32 t165, .int .u32 t166, .int .u32 0, .int .u32 0, .int .u32 0, .int .u32 0]) ?_ 8 _ rfl; (with_reducible repeat (first | refine blk_drewN ?_ _ | refine blk_drew ?_ | refine blk_alloc ?_ _)); refine blk_put (cs := #[.int .i64 t159, .int .u16 t160, .int .u16 t161, .int .u32 t162, .int .u64 t163, .int .i64 t164, .int .u32 t165, .int .u32 0, .int .u32 0, .int .u32 0, .int .u32 0, .int .u32 0]) ?_ 7 _ rfl; (with_reducible repeat (first | refine blk_drewN ?_ _ | refine blk_drew ?_ | refine blk_alloc ?_ _)); refine blk_put (cs := #[.int .i64 t159, .int .u16 t160, .int .u16 t161, .int .u32 t162, .int .u64 t163, .int .i64 t164, .int .u32 0, .int .u32 0, .int .u32 0, .int .u32 0, .int .u32 0, .int .u32 0]) ?_ 6 _ rfl; (with_reducible repeat (first | refine blk_drewN ?_ _ | refine blk_drew ?_ | refine blk_alloc ?_ _)); refine blk_put (cs := #[.int .i64 t159, .int .u16 t160, .int .u16 t161, .int .u32 t162, .int .u64 t163, .int .i64 0, .int .u32 0, .int .u32 0, .int .u32 0, .int .u32 0, .int .u32 0, .int .u32 0]) ?_ 5 _ rfl; (with_reducible repeat (first | refine blk_drewN ?_ _ | refine blk_drew ?_ | refine blk_alloc ?_ _)); refine blk_put (cs := #[.int .i64 t159, .int .u16 t160, .int .u16 t161, .int .u32 t162, .int .u64 0, .int .i64 0, .int .u32 0, .int .u32 0, .int .u32 0, .int .u32 0, .int .u32 0, .int .u32 0]) ?_ 4 _ rfl; (with_reducible repeat (first | refine blk_drewN ?_ _ | refine blk_drew ?_ | refine blk_alloc ?_ _)); refine blk_put (cs := #[.int .i64 t159, .int .u16 t160, .int .u16 t161, .int .u32 0, .int .u64 0, .int .i64 0, .int .u32 0, .int .u32 0, .int .u32 0, .int .u32 0, .int .u32 0, .int .u32 0]) ?_ 3 _ rfl; (with_reducible repeat (first | refine blk_drewN ?_ _ | refine blk_drew ?_ | refine blk_alloc ?_ _)); refine blk_put (cs := #[.int .i64 t159, .int .u16 t160, .int .u16 0, .int .u32 0, .int .u64 0, .int .i64 0, .int .u32 0, .int .u32 0, .int .u32 0, .int .u32 0, .int .u32 0, .int .u32 0]) ?_ 2 _ rfl; (with_reducible repeat (first | refine blk_drewN ?_ _ | refine blk_drew ?_ | refine blk_alloc ?_ _)); refine blk_put (cs := #[.int .i64 t159, .int .u16 0, .int .u16 0, .int .u32 0, .int .u64 0, .int .i64 0, .int .u32 0, .int .u32 0, .int .u32 0, .int .u32 0, .int .u32 0, .int .u32 0]) ?_ 1 _ rfl; (with_reducible repeat (first | refine blk_drewN ?_ _ | refine blk_drew ?_ | refine blk_alloc ?_ _)); refine blk_put (cs := #[.int .i64 0, .int .u16 0, .int .u16 0, .int .u32 0, .int .u64 0, .int .i64 0, .int .u32 0, .int .u32 0, .int .u32 0, .int .u32 0, .int .u32 0, .int .u32 0]) ?_ 0 _ rfl; (with_reducible repeat (first | refine blk_drewN ?_ _ | refine blk_drew ?_ | refine blk_alloc ?_ _)); exact BK172.out⟩
                have n3_ : Aside0 (Below w.heap.size w ((((((((((((w33.setCell ⟨gb172, 0, none⟩ (.int .i64 t159)).setCell ⟨gb172, 1, none⟩ (.int .u16 t160)).setCell ⟨gb172, 2, none⟩ (.int .u16 t161)).setCell ⟨gb172, 3, none⟩ (.int .u32 t162)).setCell ⟨gb172, 4, none⟩ (.int .u64 t163)).setCell ⟨gb172, 5, none⟩ (.int .i64 t164)).setCell ⟨gb172, 6, none⟩ (.int .u32 t165)).setCell ⟨gb172, 7, none⟩ (.int .u32 t166)).setCell ⟨gb172, 8, none⟩ (.int .u32 t167)).setCell ⟨gb172, 9, none⟩ (.int .u32 t168)).setCell ⟨gb172, 10, none⟩ (.int .u32 t169)).setCell ⟨gb172, 11, none⟩ (.int .u32 t170))) := ⟨by repeat (first | (with_reducible first | exact HB.out | apply below_alloc | apply pw_below_drewN | apply below_drew1 | refine below_set ?_ GE139.out | refine below_set ?_ GE158.out | refine below_set ?_ GE172.out) | exact HB.out)⟩
                (try clear BK139)
                (try clear BK158)
                (try clear BK172)
                (try clear HB)
                generalize ((((((((((((w33.setCell ⟨gb172, 0, none⟩ (.int .i64 t159)).setCell ⟨gb172, 1, none⟩ (.int .u16 t160)).setCell ⟨gb172, 2, none⟩ (.int .u16 t161)).setCell ⟨gb172, 3, none⟩ (.int .u32 t162)).setCell ⟨gb172, 4, none⟩ (.int .u64 t163)).setCell ⟨gb172, 5, none⟩ (.int .i64 t164)).setCell ⟨gb172, 6, none⟩ (.int .u32 t165)).setCell ⟨gb172, 7, none⟩ (.int .u32 t166)).setCell ⟨gb172, 8, none⟩ (.int .u32 t167)).setCell ⟨gb172, 9, none⟩ (.int .u32 t168)).setCell ⟨gb172, 10, none⟩ (.int .u32 t169)).setCell ⟨gb172, 11, none⟩ (.int .u32 t170)) = w37 at n0_ n1_ n2_ n3_ ⊢
                have BK139 := n0_
                have BK158 := n1_
                have BK172 := n2_
                have HB := n3_
                clear n0_ n1_ n2_ n3_
                have n0_ := Aside0.mk (blk_drew BK139.out)
                have n1_ := Aside0.mk (blk_drew BK158.out)
                have n2_ := Aside0.mk (blk_drew BK172.out)
                have n3_ := Aside0.mk (below_drew1 HB.out)
                clear BK139
                clear BK158
                clear BK172
                clear HB
                have BK139 := n0_
                have BK158 := n1_
                have BK172 := n2_
                have HB := n3_
                clear n0_ n1_ n2_ n3_
                refine start_ (n := 43) (S := fun w' => w'.cell? ⟨gb139, 0, none⟩ = some (.int .i64 a0_0) ∧ w'.cell? ⟨gb139, 1, none⟩ = some (.int .u16 a0_1) ∧ w'.cell? ⟨gb139, 2, none⟩ = some (.int .u16 a0_2) ∧ w'.cell? ⟨gb139, 3, none⟩ = some (.int .u32 a0_3) ∧ w'.cell? ⟨gb139, 4, none⟩ = some (.int .u64 a0_4) ∧ w'.cell? ⟨gb139, 5, none⟩ = some (.int .i64 a0_5) ∧ w'.cell? ⟨gb139, 6, none⟩ = some (.int .u32 a0_6) ∧ w'.cell? ⟨gb139, 7, none⟩ = some (.int .u32 a0_7) ∧ w'.cell? ⟨gb139, 8, none⟩ = some (.int .u32 a0_8) ∧ w'.cell? ⟨gb139, 9, none⟩ = some (.int .u32 a0_9) ∧ w'.cell? ⟨gb139, 10, none⟩ = some (.int .u32 a0_10) ∧ w'.cell? ⟨gb139, 11, none⟩ = some (.int .u32 a0_11) ∧ w'.cell? ⟨gb158, 0, none⟩ = some (.int .i64 t145) ∧ w'.cell? ⟨gb158, 1, none⟩ = some (.int .u16 t146) ∧ w'.cell? ⟨gb158, 2, none⟩ = some (.int .u16 t147) ∧ w'.cell? ⟨gb158, 3, none⟩ = some (.int .u32 t148) ∧ w'.cell? ⟨gb158, 4, none⟩ = some (.int .u64 t149) ∧ w'.cell? ⟨gb158, 5, none⟩ = some (.int .i64 t150) ∧ w'.cell? ⟨gb158, 6, none⟩ = some (.int .u32 t151) ∧ w'.cell? ⟨gb158, 7, none⟩ = some (.int .u32 t152) ∧ w'.cell? ⟨gb158, 8, none⟩ = some (.int .u32 t153) ∧ w'.cell? ⟨gb158, 9, none⟩ = some (.int .u32 t154) ∧ w'.cell? ⟨gb158, 10, none⟩ = some (.int .u32 t155) ∧ w'.cell? ⟨gb158, 11, none⟩ = some (.int .u32 t156) ∧ w'.cell? ⟨gb172, 0, none⟩ = some (.int .i64 t159) ∧ w'.cell? ⟨gb172, 1, none⟩ = some (.int .u16 t160) ∧ w'.cell? ⟨gb172, 2, none⟩ = some (.int .u16 t161) ∧ w'.cell? ⟨gb172, 3, none⟩ = some (.int .u32 t162) ∧ w'.cell? ⟨gb172, 4, none⟩ = some (.int .u64 t163) ∧ w'.cell? ⟨gb172, 5, none⟩ = some (.int .i64 t164) ∧ w'.cell? ⟨gb172, 6, none⟩ = some (.int .u32 t165) ∧ w'.cell? ⟨gb172, 7, none⟩ = some (.int .u32 t166) ∧ w'.cell? ⟨gb172, 8, none⟩ = some (.int .u32 t167) ∧ w'.cell? ⟨gb172, 9, none⟩ = some (.int .u32 t168) ∧ w'.cell? ⟨gb172, 10, none⟩ = some (.int .u32 t169) ∧ w'.cell? ⟨gb172, 11, none⟩ = some (.int .u32 t170)) (ds := []) #[false, false, false, false, false, false, false, false, false, false, false, false, false, false, false, false, false, false, false, false, false, false, false, false, false, false, false, false, false, false, false, false, false, false, false, false, false, false, false, false, false, false, false] (by kernel_rfl) rfl rfl ⟨(blk_cell BK139.out 0).trans rfl, (blk_cell BK139.out 1).trans rfl, (blk_cell BK139.out 2).trans rfl, (blk_cell BK139.out 3).trans rfl, (blk_cell BK139.out 4).trans rfl, (blk_cell BK139.out 5).trans rfl, (blk_cell BK139.out 6).trans rfl, (blk_cell BK139.out 7).trans rfl, (blk_cell BK139.out 8).trans rfl, (blk_cell BK139.out 9).trans rfl, (blk_cell BK139.out 10).trans rfl, (blk_cell BK139.out 11).trans rfl, (blk_cell BK158.out 0).trans rfl, (blk_cell BK158.out 1).trans rfl, (blk_cell BK158.out 2).trans rfl, (blk_cell BK158.out 3).trans rfl, (blk_cell BK158.out 4).trans rfl, (blk_cell BK158.out 5).trans rfl, (blk_cell BK158.out 6).trans rfl, (blk_cell BK158.out 7).trans rfl, (blk_cell BK158.out 8).trans rfl, (blk_cell BK158.out 9).trans rfl, (blk_cell BK158.out 10).trans rfl, (blk_cell BK158.out 11).trans rfl, (blk_cell BK172.out 0).trans rfl, (blk_cell BK172.out 1).trans rfl, (blk_cell BK172.out 2).trans rfl, (blk_cell BK172.out 3).trans rfl, (blk_cell BK172.out 4).trans rfl, (blk_cell BK172.out 5).trans rfl, (blk_cell BK172.out 6).trans rfl, (blk_cell BK172.out 7).trans rfl, (blk_cell BK172.out 8).trans rfl, (blk_cell BK172.out 9).trans rfl, (blk_cell BK172.out 10).trans rfl, (blk_cell BK172.out 11).trans rfl⟩ (fun hHeld => ?_); refine with_tabW nautiluslaw10_InodeBytes.tab6 nautiluslaw10_InodeBytes.bits6 (fun HT_ HW_ => ?_)
                generalize w37.drew = w38 at BK139 BK158 BK172 HB hHeld ⊢
                refine pure_ (i := 0) (N := some 37) (v := ?_) (a' := ?_) #[true, false, false, false, false, false, false, false, false, false, false, false, false, false, false, false, false, false, false, false, false, false, false, false, false, false, false, false, false, false, false, false, false, false, false, false, false, false, false, false, false, false, false] rfl rfl (any_of HT_.out (by kernel_rfl)) (fun _ _ _ h => h) (Or.inl ⟨by rfl, ?_⟩) ?_ ?_
                rotate_left
                · intro w'
                  go_simp
                  with_reducible rfl
                rotate_left
                · simp only [Act.put, List.setIfInBounds_toArray, List.set_cons_zero, List.set_cons_succ, i64_w, i32_w]
                  rfl
                refine pure_ (i := 1) (N := some 38) (v := ?_) (a' := ?_) #[true, true, false, false, false, false, false, false, false, false, false, false, false, false, false, false, false, false, false, false, false, false, false, false, false, false, false, false, false, false, false, false, false, false, false, false, false, false, false, false, false, false, false] rfl rfl (any_of HT_.out (by kernel_rfl)) (fun _ _ _ h => h) (Or.inl ⟨by rfl, ?_⟩) ?_ ?_
                rotate_left
                · intro w'
                  go_simp
                  with_reducible rfl
                rotate_left
                · simp only [Act.put, List.setIfInBounds_toArray, List.set_cons_zero, List.set_cons_succ, i64_w, i32_w]
                  rfl
                refine take_ (i := 2) (N := some 39) (v := ?_) (a' := ?_) #[true, true, true, false, false, false, false, false, false, false, false, false, false, false, false, false, false, false, false, false, false, false, false, false, false, false, false, false, false, false, false, false, false, false, false, false, false, false, false, false, false, false, false] rfl rfl (take_ofW HT_.out HW_.out (by kernel_rfl)) (fun _ _ _ h => h) (Or.inl ⟨by rfl, ?_⟩) hHeld ?_ ?_
                rotate_left
                · rintro w' ⟨s0, s1, s2, s3, s4, s5, s6, s7, s8, s9, s10, s11, s12, s13, s14, s15, s16, s17, s18, s19, s20, s21, s22, s23, s24, s25, s26, s27, s28, s29, s30, s31, s32, s33, s34, s35⟩
                  go_simp
                  with_reducible rfl
                rotate_left
                · simp only [Act.put, List.setIfInBounds_toArray, List.set_cons_zero, List.set_cons_succ, i64_w, i32_w]
                  rfl
                refine take_ (i := 4) (N := some 41) (v := ?_) (a' := ?_) #[true, true, true, false, true, false, false, false, false, false, false, false, false, false, false, false, false, false, false, false, false, false, false, false, false, false, false, false, false, false, false, false, false, false, false, false, false, false, false, false, false, false, false] rfl rfl (take_ofW HT_.out HW_.out (by kernel_rfl)) (fun _ _ _ h => h) (Or.inl ⟨by rfl, ?_⟩) hHeld ?_ ?_
                rotate_left
                · rintro w' ⟨s0, s1, s2, s3, s4, s5, s6, s7, s8, s9, s10, s11, s12, s13, s14, s15, s16, s17, s18, s19, s20, s21, s22, s23, s24, s25, s26, s27, s28, s29, s30, s31, s32, s33, s34, s35⟩
                  go_simp
                  with_reducible rfl
                rotate_left
                · simp only [Act.put, List.setIfInBounds_toArray, List.set_cons_zero, List.set_cons_succ, i64_w, i32_w]
                  rfl
                refine one_ (i := 3) (N := some 40) #[true, true, true, true, true, false, false, false, false, false, false, false, false, false, false, false, false, false, false, false, false, false, false, false, false, false, false, false, false, false, false, false, false, false, false, false, false, false, false, false, false, false, false] rfl rfl (one_of HT_.out (by kernel_rfl)) (by decide) (fun K hK => ?_)
                refine goes_ Try.func15 (by kernel_rfl) rfl #[.agg #[.int .i64 a0_0, .int .u16 a0_1, .int .u16 a0_2, .int .u32 a0_3, .int .u64 a0_4, .int .i64 a0_5, .int .u32 a0_6, .int .u32 a0_7, .int .u32 a0_8, .int .u32 a0_9, .int .u32 a0_10, .int .u32 a0_11]] (by rfl) rfl rfl (by (try simp only [List.map_toArray, List.map_cons, List.map_nil]); first | done | rfl | (simp only [List.length_drop, List.length_take]; rfl)) ?_
                with_reducible refine (inode_Right.calls k a0_0 a0_1 a0_2 a0_3 a0_4 a0_5 a0_6 a0_7 a0_8 a0_9 a0_10 a0_11 t173 _ A10.out).mono ?_
                rintro e w39 ⟨rfl, hb⟩
                refine ⟨_, rfl, ?_⟩
                have n0_ := Aside0.mk (blk_below (g := gb139) (o := .cells #[.int .i64 a0_0, .int .u16 a0_1, .int .u16 a0_2, .int .u32 a0_3, .int .u64 a0_4, .int .i64 a0_5, .int .u32 a0_6, .int .u32 a0_7, .int .u32 a0_8, .int .u32 a0_9, .int .u32 a0_10, .int .u32 a0_11] 30 (0, 0)) (by (with_reducible repeat (first | refine blk_drewN ?_ _ | refine blk_drew ?_ | refine blk_alloc ?_ _)); exact BK139.out) hb)
                have n1_ := Aside0.mk (blk_below (g := gb158) (o := .cells #[.int .i64 t145, .int .u16 t146, .int .u16 t147, .int .u32 t148, .int .u64 t149, .int .i64 t150, .int .u32 t151, .int .u32 t152, .int .u32 t153, .int .u32 t154, .int .u32 t155, .int .u32 t156] 30 (0, 0)) (by (with_reducible repeat (first | refine blk_drewN ?_ _ | refine blk_drew ?_ | refine blk_alloc ?_ _)); exact BK158.out) hb)
                have n2_ := Aside0.mk (blk_below (g := gb172) (o := .cells #[.int .i64 t159, .int .u16 t160, .int .u16 t161, .int .u32 t162, .int .u64 t163, .int .i64 t164, .int .u32 t165, .int .u32 t166, .int .u32 t167, .int .u32 t168, .int .u32 t169, .int .u32 t170] 30 (0, 0)) (by (with_reducible repeat (first | refine blk_drewN ?_ _ | refine blk_drew ?_ | refine blk_alloc ?_ _)); exact BK172.out) hb)
                have n3_ := Aside0.mk (below_step (by repeat (first | (with_reducible first | exact HB.out | apply below_alloc | apply pw_below_drewN | apply below_drew1 | refine below_set ?_ GE139.out | refine below_set ?_ GE158.out | refine below_set ?_ GE172.out) | exact HB.out)) hb)
                clear BK139
                clear BK158
                clear BK172
                clear HB
                have BK139 := n0_
                have BK158 := n1_
                have BK172 := n2_
                have HB := n3_
                clear n0_ n1_ n2_ n3_
                (try clear hb)
                (try clear hb2)
                (try clear hk)
                (try clear hi)
                refine hK.out _ _ ⟨(blk_cell BK139.out 0).trans rfl, (blk_cell BK139.out 1).trans rfl, (blk_cell BK139.out 2).trans rfl, (blk_cell BK139.out 3).trans rfl, (blk_cell BK139.out 4).trans rfl, (blk_cell BK139.out 5).trans rfl, (blk_cell BK139.out 6).trans rfl, (blk_cell BK139.out 7).trans rfl, (blk_cell BK139.out 8).trans rfl, (blk_cell BK139.out 9).trans rfl, (blk_cell BK139.out 10).trans rfl, (blk_cell BK139.out 11).trans rfl, (blk_cell BK158.out 0).trans rfl, (blk_cell BK158.out 1).trans rfl, (blk_cell BK158.out 2).trans rfl, (blk_cell BK158.out 3).trans rfl, (blk_cell BK158.out 4).trans rfl, (blk_cell BK158.out 5).trans rfl, (blk_cell BK158.out 6).trans rfl, (blk_cell BK158.out 7).trans rfl, (blk_cell BK158.out 8).trans rfl, (blk_cell BK158.out 9).trans rfl, (blk_cell BK158.out 10).trans rfl, (blk_cell BK158.out 11).trans rfl, (blk_cell BK172.out 0).trans rfl, (blk_cell BK172.out 1).trans rfl, (blk_cell BK172.out 2).trans rfl, (blk_cell BK172.out 3).trans rfl, (blk_cell BK172.out 4).trans rfl, (blk_cell BK172.out 5).trans rfl, (blk_cell BK172.out 6).trans rfl, (blk_cell BK172.out 7).trans rfl, (blk_cell BK172.out 8).trans rfl, (blk_cell BK172.out 9).trans rfl, (blk_cell BK172.out 10).trans rfl, (blk_cell BK172.out 11).trans rfl⟩ (fun hHeld => ?_)
                clear hK K
                refine norm_ (a' := ?_) ?_ ?_
                rotate_left
                · show Act.put _ (some 40) _ = _
                  simp only [Act.put, List.setIfInBounds_toArray, List.set_cons_zero, List.set_cons_succ, i64_w, i32_w]
                  rfl
                refine one_ (i := 5) (N := some 42) #[true, true, true, true, true, true, false, false, false, false, false, false, false, false, false, false, false, false, false, false, false, false, false, false, false, false, false, false, false, false, false, false, false, false, false, false, false, false, false, false, false, false, false] rfl rfl (one_of HT_.out (by kernel_rfl)) (by decide) (fun K hK => ?_)
                refine goes_ Try.func16 (by kernel_rfl) rfl #[.agg #[.int .i64 a0_0, .int .u16 a0_1, .int .u16 a0_2, .int .u32 a0_3, .int .u64 a0_4, .int .i64 a0_5, .int .u32 a0_6, .int .u32 a0_7, .int .u32 a0_8, .int .u32 a0_9, .int .u32 a0_10, .int .u32 a0_11]] (by rfl) rfl rfl (by (try simp only [List.map_toArray, List.map_cons, List.map_nil]); first | done | rfl | (simp only [List.length_drop, List.length_take]; rfl)) ?_
                with_reducible refine (nautilusref10_Right.calls a0_0 a0_1 a0_2 a0_3 a0_4 a0_5 a0_6 a0_7 a0_8 a0_9 a0_10 a0_11 t174 _ A11.out).mono ?_
                rintro e w40 ⟨rfl, hb⟩
                refine ⟨_, rfl, ?_⟩
                have n0_ := Aside0.mk (blk_below (g := gb139) (o := .cells #[.int .i64 a0_0, .int .u16 a0_1, .int .u16 a0_2, .int .u32 a0_3, .int .u64 a0_4, .int .i64 a0_5, .int .u32 a0_6, .int .u32 a0_7, .int .u32 a0_8, .int .u32 a0_9, .int .u32 a0_10, .int .u32 a0_11] 30 (0, 0)) (by (with_reducible repeat (first | refine blk_drewN ?_ _ | refine blk_drew ?_ | refine blk_alloc ?_ _)); exact BK139.out) hb)
                have n1_ := Aside0.mk (blk_below (g := gb158) (o := .cells #[.int .i64 t145, .int .u16 t146, .int .u16 t147, .int .u32 t148, .int .u64 t149, .int .i64 t150, .int .u32 t151, .int .u32 t152, .int .u32 t153, .int .u32 t154, .int .u32 t155, .int .u32 t156] 30 (0, 0)) (by (with_reducible repeat (first | refine blk_drewN ?_ _ | refine blk_drew ?_ | refine blk_alloc ?_ _)); exact BK158.out) hb)
                have n2_ := Aside0.mk (blk_below (g := gb172) (o := .cells #[.int .i64 t159, .int .u16 t160, .int .u16 t161, .int .u32 t162, .int .u64 t163, .int .i64 t164, .int .u32 t165, .int .u32 t166, .int .u32 t167, .int .u32 t168, .int .u32 t169, .int .u32 t170] 30 (0, 0)) (by (with_reducible repeat (first | refine blk_drewN ?_ _ | refine blk_drew ?_ | refine blk_alloc ?_ _)); exact BK172.out) hb)
                have n3_ := Aside0.mk (below_step (by repeat (first | (with_reducible first | exact HB.out | apply below_alloc | apply pw_below_drewN | apply below_drew1 | refine below_set ?_ GE139.out | refine below_set ?_ GE158.out | refine below_set ?_ GE172.out) | exact HB.out)) hb)
                clear BK139
                clear BK158
                clear BK172
                clear HB
                have BK139 := n0_
                have BK158 := n1_
                have BK172 := n2_
                have HB := n3_
                clear n0_ n1_ n2_ n3_
                (try clear hb)
                (try clear hb2)
                (try clear hk)
                (try clear hi)
                refine hK.out _ _ ⟨(blk_cell BK139.out 0).trans rfl, (blk_cell BK139.out 1).trans rfl, (blk_cell BK139.out 2).trans rfl, (blk_cell BK139.out 3).trans rfl, (blk_cell BK139.out 4).trans rfl, (blk_cell BK139.out 5).trans rfl, (blk_cell BK139.out 6).trans rfl, (blk_cell BK139.out 7).trans rfl, (blk_cell BK139.out 8).trans rfl, (blk_cell BK139.out 9).trans rfl, (blk_cell BK139.out 10).trans rfl, (blk_cell BK139.out 11).trans rfl, (blk_cell BK158.out 0).trans rfl, (blk_cell BK158.out 1).trans rfl, (blk_cell BK158.out 2).trans rfl, (blk_cell BK158.out 3).trans rfl, (blk_cell BK158.out 4).trans rfl, (blk_cell BK158.out 5).trans rfl, (blk_cell BK158.out 6).trans rfl, (blk_cell BK158.out 7).trans rfl, (blk_cell BK158.out 8).trans rfl, (blk_cell BK158.out 9).trans rfl, (blk_cell BK158.out 10).trans rfl, (blk_cell BK158.out 11).trans rfl, (blk_cell BK172.out 0).trans rfl, (blk_cell BK172.out 1).trans rfl, (blk_cell BK172.out 2).trans rfl, (blk_cell BK172.out 3).trans rfl, (blk_cell BK172.out 4).trans rfl, (blk_cell BK172.out 5).trans rfl, (blk_cell BK172.out 6).trans rfl, (blk_cell BK172.out 7).trans rfl, (blk_cell BK172.out 8).trans rfl, (blk_cell BK172.out 9).trans rfl, (blk_cell BK172.out 10).trans rfl, (blk_cell BK172.out 11).trans rfl⟩ (fun hHeld => ?_)
                clear hK K
                refine norm_ (a' := ?_) ?_ ?_
                rotate_left
                · show Act.put _ (some 42) _ = _
                  simp only [Act.put, List.setIfInBounds_toArray, List.set_cons_zero, List.set_cons_succ, i64_w, i32_w]
                  rfl
                refine pure_ (i := 6) (N := some 43) (v := ?_) (a' := ?_) #[true, true, true, true, true, true, true, false, false, false, false, false, false, false, false, false, false, false, false, false, false, false, false, false, false, false, false, false, false, false, false, false, false, false, false, false, false, false, false, false, false, false, false] rfl rfl (any_of HT_.out (by kernel_rfl)) (fun _ _ _ h => h) (Or.inl ⟨by rfl, ?_⟩) ?_ ?_
                rotate_left
                · intro w'
                  go_simp
                  with_reducible rfl
                rotate_left
                · simp only [Act.put, List.setIfInBounds_toArray, List.set_cons_zero, List.set_cons_succ, i64_w, i32_w]
                  rfl
                refine pure_ (i := 7) (N := some 44) (v := ?_) (a' := ?_) #[true, true, true, true, true, true, true, true, false, false, false, false, false, false, false, false, false, false, false, false, false, false, false, false, false, false, false, false, false, false, false, false, false, false, false, false, false, false, false, false, false, false, false] rfl rfl (any_of HT_.out (by kernel_rfl)) (fun _ _ _ h => h) (Or.inl ⟨by rfl, ?_⟩) ?_ ?_
                rotate_left
                · intro w'
                  go_simp
                  with_reducible rfl
                rotate_left
                · simp only [Act.put, List.setIfInBounds_toArray, List.set_cons_zero, List.set_cons_succ, i64_w, i32_w]
                  rfl
                refine pure_ (i := 8) (N := some 45) (v := ?_) (a' := ?_) #[true, true, true, true, true, true, true, true, true, false, false, false, false, false, false, false, false, false, false, false, false, false, false, false, false, false, false, false, false, false, false, false, false, false, false, false, false, false, false, false, false, false, false] rfl rfl (any_of HT_.out (by kernel_rfl)) (fun _ _ _ h => h) (Or.inl ⟨by rfl, ?_⟩) ?_ ?_
                rotate_left
                · intro w'
                  go_simp
                  with_reducible rfl
                rotate_left
                · simp only [Act.put, List.setIfInBounds_toArray, List.set_cons_zero, List.set_cons_succ, i64_w, i32_w]
                  rfl
                refine pure_ (i := 9) (N := some 46) (v := ?_) (a' := ?_) #[true, true, true, true, true, true, true, true, true, true, false, false, false, false, false, false, false, false, false, false, false, false, false, false, false, false, false, false, false, false, false, false, false, false, false, false, false, false, false, false, false, false, false] rfl rfl (any_of HT_.out (by kernel_rfl)) (fun _ _ _ h => h) (Or.inl ⟨by rfl, ?_⟩) ?_ ?_
                rotate_left
                · intro w'
                  go_simp
                  with_reducible rfl
                rotate_left
                · simp only [Act.put, List.setIfInBounds_toArray, List.set_cons_zero, List.set_cons_succ, i64_w, i32_w]
                  rfl
                refine pure_ (i := 10) (N := some 47) (v := ?_) (a' := ?_) #[true, true, true, true, true, true, true, true, true, true, true, false, false, false, false, false, false, false, false, false, false, false, false, false, false, false, false, false, false, false, false, false, false, false, false, false, false, false, false, false, false, false, false] rfl rfl (any_of HT_.out (by kernel_rfl)) (fun _ _ _ h => h) (Or.inl ⟨by rfl, ?_⟩) ?_ ?_
                rotate_left
                · intro w'
                  go_simp
                  with_reducible rfl
                rotate_left
                · simp only [Act.put, List.setIfInBounds_toArray, List.set_cons_zero, List.set_cons_succ, i64_w, i32_w]
                  rfl
                refine pure_ (i := 11) (N := some 48) (v := ?_) (a' := ?_) #[true, true, true, true, true, true, true, true, true, true, true, true, false, false, false, false, false, false, false, false, false, false, false, false, false, false, false, false, false, false, false, false, false, false, false, false, false, false, false, false, false, false, false] rfl rfl (any_of HT_.out (by kernel_rfl)) (fun _ _ _ h => h) (Or.inl ⟨by rfl, ?_⟩) ?_ ?_
                rotate_left
                · intro w'
                  go_simp
                  with_reducible rfl
                rotate_left
                · simp only [Act.put, List.setIfInBounds_toArray, List.set_cons_zero, List.set_cons_succ, i64_w, i32_w]
                  rfl
                refine pure_ (i := 12) (N := some 49) (v := ?_) (a' := ?_) #[true, true, true, true, true, true, true, true, true, true, true, true, true, false, false, false, false, false, false, false, false, false, false, false, false, false, false, false, false, false, false, false, false, false, false, false, false, false, false, false, false, false, false] rfl rfl (any_of HT_.out (by kernel_rfl)) (fun _ _ _ h => h) (Or.inl ⟨by rfl, ?_⟩) ?_ ?_
                rotate_left
                · intro w'
                  go_simp
                  with_reducible rfl
                rotate_left
                · simp only [Act.put, List.setIfInBounds_toArray, List.set_cons_zero, List.set_cons_succ, i64_w, i32_w]
                  rfl
                refine pure_ (i := 13) (N := some 50) (v := ?_) (a' := ?_) #[true, true, true, true, true, true, true, true, true, true, true, true, true, true, false, false, false, false, false, false, false, false, false, false, false, false, false, false, false, false, false, false, false, false, false, false, false, false, false, false, false, false, false] rfl rfl (any_of HT_.out (by kernel_rfl)) (fun _ _ _ h => h) (Or.inl ⟨by rfl, ?_⟩) ?_ ?_
                rotate_left
                · intro w'
                  go_simp
                  with_reducible rfl
                rotate_left
                · simp only [Act.put, List.setIfInBounds_toArray, List.set_cons_zero, List.set_cons_succ, i64_w, i32_w]
                  rfl
                refine pure_ (i := 14) (N := some 51) (v := ?_) (a' := ?_) #[true, true, true, true, true, true, true, true, true, true, true, true, true, true, true, false, false, false, false, false, false, false, false, false, false, false, false, false, false, false, false, false, false, false, false, false, false, false, false, false, false, false, false] rfl rfl (any_of HT_.out (by kernel_rfl)) (fun _ _ _ h => h) (Or.inl ⟨by rfl, ?_⟩) ?_ ?_
                rotate_left
                · intro w'
                  go_simp
                  with_reducible rfl
                rotate_left
                · simp only [Act.put, List.setIfInBounds_toArray, List.set_cons_zero, List.set_cons_succ, i64_w, i32_w]
                  rfl
                refine pure_ (i := 15) (N := some 52) (v := ?_) (a' := ?_) #[true, true, true, true, true, true, true, true, true, true, true, true, true, true, true, true, false, false, false, false, false, false, false, false, false, false, false, false, false, false, false, false, false, false, false, false, false, false, false, false, false, false, false] rfl rfl (any_of HT_.out (by kernel_rfl)) (fun _ _ _ h => h) (Or.inl ⟨by rfl, ?_⟩) ?_ ?_
                rotate_left
                · intro w'
                  go_simp
                  with_reducible rfl
                rotate_left
                · simp only [Act.put, List.setIfInBounds_toArray, List.set_cons_zero, List.set_cons_succ, i64_w, i32_w]
                  rfl
                refine pure_ (i := 16) (N := some 53) (v := ?_) (a' := ?_) #[true, true, true, true, true, true, true, true, true, true, true, true, true, true, true, true, true, false, false, false, false, false, false, false, false, false, false, false, false, false, false, false, false, false, false, false, false, false, false, false, false, false, false] rfl rfl (any_of HT_.out (by kernel_rfl)) (fun _ _ _ h => h) (Or.inl ⟨by rfl, ?_⟩) ?_ ?_
                rotate_left
                · intro w'
                  go_simp
                  with_reducible rfl
                rotate_left
                · simp only [Act.put, List.setIfInBounds_toArray, List.set_cons_zero, List.set_cons_succ, i64_w, i32_w]
                  rfl
                refine pure_ (i := 17) (N := some 54) (v := ?_) (a' := ?_) #[true, true, true, true, true, true, true, true, true, true, true, true, true, true, true, true, true, true, false, false, false, false, false, false, false, false, false, false, false, false, false, false, false, false, false, false, false, false, false, false, false, false, false] rfl rfl (any_of HT_.out (by kernel_rfl)) (fun _ _ _ h => h) (Or.inl ⟨by rfl, ?_⟩) ?_ ?_
                rotate_left
                · intro w'
                  go_simp
                  with_reducible rfl
                rotate_left
                · simp only [Act.put, List.setIfInBounds_toArray, List.set_cons_zero, List.set_cons_succ, i64_w, i32_w]
                  rfl
                refine pure_ (i := 18) (N := some 55) (v := ?_) (a' := ?_) #[true, true, true, true, true, true, true, true, true, true, true, true, true, true, true, true, true, true, true, false, false, false, false, false, false, false, false, false, false, false, false, false, false, false, false, false, false, false, false, false, false, false, false] rfl rfl (any_of HT_.out (by kernel_rfl)) (fun _ _ _ h => h) (Or.inl ⟨by rfl, ?_⟩) ?_ ?_
                rotate_left
                · intro w'
                  go_simp
                  with_reducible rfl
                rotate_left
                · simp only [Act.put, List.setIfInBounds_toArray, List.set_cons_zero, List.set_cons_succ, i64_w, i32_w]
                  rfl
                refine take_ (i := 19) (N := some 56) (v := ?_) (a' := ?_) #[true, true, true, true, true, true, true, true, true, true, true, true, true, true, true, true, true, true, true, true, false, false, false, false, false, false, false, false, false, false, false, false, false, false, false, false, false, false, false, false, false, false, false] rfl rfl (take_ofW HT_.out HW_.out (by kernel_rfl)) (fun _ _ _ h => h) (Or.inl ⟨by rfl, ?_⟩) hHeld ?_ ?_
                rotate_left
                · rintro w' ⟨s0, s1, s2, s3, s4, s5, s6, s7, s8, s9, s10, s11, s12, s13, s14, s15, s16, s17, s18, s19, s20, s21, s22, s23, s24, s25, s26, s27, s28, s29, s30, s31, s32, s33, s34, s35⟩
                  go_simp
                  with_reducible rfl
                rotate_left
                · simp only [Act.put, List.setIfInBounds_toArray, List.set_cons_zero, List.set_cons_succ, i64_w, i32_w]
                  rfl
                refine take_ (i := 20) (N := some 57) (v := ?_) (a' := ?_) #[true, true, true, true, true, true, true, true, true, true, true, true, true, true, true, true, true, true, true, true, true, false, false, false, false, false, false, false, false, false, false, false, false, false, false, false, false, false, false, false, false, false, false] rfl rfl (take_ofW HT_.out HW_.out (by kernel_rfl)) (fun _ _ _ h => h) (Or.inl ⟨by rfl, ?_⟩) hHeld ?_ ?_
                rotate_left
                · rintro w' ⟨s0, s1, s2, s3, s4, s5, s6, s7, s8, s9, s10, s11, s12, s13, s14, s15, s16, s17, s18, s19, s20, s21, s22, s23, s24, s25, s26, s27, s28, s29, s30, s31, s32, s33, s34, s35⟩
                  go_simp
                  with_reducible rfl
                rotate_left
                · simp only [Act.put, List.setIfInBounds_toArray, List.set_cons_zero, List.set_cons_succ, i64_w, i32_w]
                  rfl
                refine pure_ (i := 21) (N := some 58) (v := ?_) (a' := ?_) #[true, true, true, true, true, true, true, true, true, true, true, true, true, true, true, true, true, true, true, true, true, true, false, false, false, false, false, false, false, false, false, false, false, false, false, false, false, false, false, false, false, false, false] rfl rfl (any_of HT_.out (by kernel_rfl)) (fun _ _ _ h => h) (Or.inl ⟨by rfl, ?_⟩) ?_ ?_
                rotate_left
                · intro w'
                  go_simp
                  with_reducible rfl
                rotate_left
                · simp only [Act.put, List.setIfInBounds_toArray, List.set_cons_zero, List.set_cons_succ, i64_w, i32_w]
                  rfl
                refine pure_ (i := 22) (N := some 59) (v := ?_) (a' := ?_) #[true, true, true, true, true, true, true, true, true, true, true, true, true, true, true, true, true, true, true, true, true, true, true, false, false, false, false, false, false, false, false, false, false, false, false, false, false, false, false, false, false, false, false] rfl rfl (any_of HT_.out (by kernel_rfl)) (fun _ _ _ h => h) (Or.inl ⟨by rfl, ?_⟩) ?_ ?_
                rotate_left
                · intro w'
                  go_simp
                  with_reducible rfl
                rotate_left
                · simp only [Act.put, List.setIfInBounds_toArray, List.set_cons_zero, List.set_cons_succ, i64_w, i32_w]
                  rfl
                refine pure_ (i := 23) (N := some 60) (v := ?_) (a' := ?_) #[true, true, true, true, true, true, true, true, true, true, true, true, true, true, true, true, true, true, true, true, true, true, true, true, false, false, false, false, false, false, false, false, false, false, false, false, false, false, false, false, false, false, false] rfl rfl (any_of HT_.out (by kernel_rfl)) (fun _ _ _ h => h) (Or.inl ⟨by rfl, ?_⟩) ?_ ?_
                rotate_left
                · intro w'
                  go_simp
                  with_reducible rfl
                rotate_left
                · simp only [Act.put, List.setIfInBounds_toArray, List.set_cons_zero, List.set_cons_succ, i64_w, i32_w]
                  rfl
                refine pure_ (i := 24) (N := some 61) (v := ?_) (a' := ?_) #[true, true, true, true, true, true, true, true, true, true, true, true, true, true, true, true, true, true, true, true, true, true, true, true, true, false, false, false, false, false, false, false, false, false, false, false, false, false, false, false, false, false, false] rfl rfl (any_of HT_.out (by kernel_rfl)) (fun _ _ _ h => h) (Or.inl ⟨by rfl, ?_⟩) ?_ ?_
                rotate_left
                · intro w'
                  go_simp
                  with_reducible rfl
                rotate_left
                · simp only [Act.put, List.setIfInBounds_toArray, List.set_cons_zero, List.set_cons_succ, i64_w, i32_w]
                  rfl
                refine pure_ (i := 25) (N := some 62) (v := ?_) (a' := ?_) #[true, true, true, true, true, true, true, true, true, true, true, true, true, true, true, true, true, true, true, true, true, true, true, true, true, true, false, false, false, false, false, false, false, false, false, false, false, false, false, false, false, false, false] rfl rfl (any_of HT_.out (by kernel_rfl)) (fun _ _ _ h => h) (Or.inl ⟨by rfl, ?_⟩) ?_ ?_
                rotate_left
                · intro w'
                  go_simp
                  with_reducible rfl
                rotate_left
                · simp only [Act.put, List.setIfInBounds_toArray, List.set_cons_zero, List.set_cons_succ, i64_w, i32_w]
                  rfl
                refine pure_ (i := 26) (N := some 63) (v := ?_) (a' := ?_) #[true, true, true, true, true, true, true, true, true, true, true, true, true, true, true, true, true, true, true, true, true, true, true, true, true, true, true, false, false, false, false, false, false, false, false, false, false, false, false, false, false, false, false] rfl rfl (any_of HT_.out (by kernel_rfl)) (fun _ _ _ h => h) (Or.inl ⟨by rfl, ?_⟩) ?_ ?_
                rotate_left
                · intro w'
                  go_simp
                  with_reducible rfl
                rotate_left
                · simp only [Act.put, List.setIfInBounds_toArray, List.set_cons_zero, List.set_cons_succ, i64_w, i32_w]
                  rfl
                refine pure_ (i := 27) (N := some 64) (v := ?_) (a' := ?_) #[true, true, true, true, true, true, true, true, true, true, true, true, true, true, true, true, true, true, true, true, true, true, true, true, true, true, true, true, false, false, false, false, false, false, false, false, false, false, false, false, false, false, false] rfl rfl (any_of HT_.out (by kernel_rfl)) (fun _ _ _ h => h) (Or.inl ⟨by rfl, ?_⟩) ?_ ?_
                rotate_left
                · intro w'
                  go_simp
                  with_reducible rfl
                rotate_left
                · simp only [Act.put, List.setIfInBounds_toArray, List.set_cons_zero, List.set_cons_succ, i64_w, i32_w]
                  rfl
                refine pure_ (i := 28) (N := some 65) (v := ?_) (a' := ?_) #[true, true, true, true, true, true, true, true, true, true, true, true, true, true, true, true, true, true, true, true, true, true, true, true, true, true, true, true, true, false, false, false, false, false, false, false, false, false, false, false, false, false, false] rfl rfl (any_of HT_.out (by kernel_rfl)) (fun _ _ _ h => h) (Or.inl ⟨by rfl, ?_⟩) ?_ ?_
                rotate_left
                · intro w'
                  go_simp
                  with_reducible rfl
                rotate_left
                · simp only [Act.put, List.setIfInBounds_toArray, List.set_cons_zero, List.set_cons_succ, i64_w, i32_w]
                  rfl
                refine pure_ (i := 29) (N := some 66) (v := ?_) (a' := ?_) #[true, true, true, true, true, true, true, true, true, true, true, true, true, true, true, true, true, true, true, true, true, true, true, true, true, true, true, true, true, true, false, false, false, false, false, false, false, false, false, false, false, false, false] rfl rfl (any_of HT_.out (by kernel_rfl)) (fun _ _ _ h => h) (Or.inl ⟨by rfl, ?_⟩) ?_ ?_
                rotate_left
                · intro w'
                  go_simp
                  with_reducible rfl
                rotate_left
                · simp only [Act.put, List.setIfInBounds_toArray, List.set_cons_zero, List.set_cons_succ, i64_w, i32_w]
                  rfl
                refine pure_ (i := 31) (N := some 68) (v := ?_) (a' := ?_) #[true, true, true, true, true, true, true, true, true, true, true, true, true, true, true, true, true, true, true, true, true, true, true, true, true, true, true, true, true, true, false, true, false, false, false, false, false, false, false, false, false, false, false] rfl rfl (any_of HT_.out (by kernel_rfl)) (fun _ _ _ h => h) (Or.inl ⟨by rfl, ?_⟩) ?_ ?_
                rotate_left
                · intro w'
                  go_simp
                  with_reducible rfl
                rotate_left
                · simp only [Act.put, List.setIfInBounds_toArray, List.set_cons_zero, List.set_cons_succ, i64_w, i32_w]
                  rfl
                refine one_ (i := 30) (N := some 67) #[true, true, true, true, true, true, true, true, true, true, true, true, true, true, true, true, true, true, true, true, true, true, true, true, true, true, true, true, true, true, true, true, false, false, false, false, false, false, false, false, false, false, false] rfl rfl (one_of HT_.out (by kernel_rfl)) (by decide) (fun K hK => ?_)
                refine goes_ Try.func9 (by kernel_rfl) rfl #[.int .u32 a2] (by rfl) rfl rfl (by (try simp only [List.map_toArray, List.map_cons, List.map_nil]); first | done | rfl | (simp only [List.length_drop, List.length_take]; rfl)) ?_
                with_reducible refine (inode_Blocks.calls a2 t175 _ A17.out).mono ?_
                rintro e w' ⟨rfl, ⟨nd, rfl⟩⟩
                refine ⟨_, rfl, ?_⟩
                refine hK.out _ _ ⟨(blk_cell BK139.out 0).trans rfl, (blk_cell BK139.out 1).trans rfl, (blk_cell BK139.out 2).trans rfl, (blk_cell BK139.out 3).trans rfl, (blk_cell BK139.out 4).trans rfl, (blk_cell BK139.out 5).trans rfl, (blk_cell BK139.out 6).trans rfl, (blk_cell BK139.out 7).trans rfl, (blk_cell BK139.out 8).trans rfl, (blk_cell BK139.out 9).trans rfl, (blk_cell BK139.out 10).trans rfl, (blk_cell BK139.out 11).trans rfl, (blk_cell BK158.out 0).trans rfl, (blk_cell BK158.out 1).trans rfl, (blk_cell BK158.out 2).trans rfl, (blk_cell BK158.out 3).trans rfl, (blk_cell BK158.out 4).trans rfl, (blk_cell BK158.out 5).trans rfl, (blk_cell BK158.out 6).trans rfl, (blk_cell BK158.out 7).trans rfl, (blk_cell BK158.out 8).trans rfl, (blk_cell BK158.out 9).trans rfl, (blk_cell BK158.out 10).trans rfl, (blk_cell BK158.out 11).trans rfl, (blk_cell BK172.out 0).trans rfl, (blk_cell BK172.out 1).trans rfl, (blk_cell BK172.out 2).trans rfl, (blk_cell BK172.out 3).trans rfl, (blk_cell BK172.out 4).trans rfl, (blk_cell BK172.out 5).trans rfl, (blk_cell BK172.out 6).trans rfl, (blk_cell BK172.out 7).trans rfl, (blk_cell BK172.out 8).trans rfl, (blk_cell BK172.out 9).trans rfl, (blk_cell BK172.out 10).trans rfl, (blk_cell BK172.out 11).trans rfl⟩ (fun hHeld => ?_)
                clear hK K
                refine norm_ (a' := ?_) ?_ ?_
                rotate_left
                · show Act.put _ (some 67) _ = _
                  simp only [Act.put, List.setIfInBounds_toArray, List.set_cons_zero, List.set_cons_succ, i64_w, i32_w]
                  rfl
                refine one_ (i := 32) (N := some 69) #[true, true, true, true, true, true, true, true, true, true, true, true, true, true, true, true, true, true, true, true, true, true, true, true, true, true, true, true, true, true, true, true, true, false, false, false, false, false, false, false, false, false, false] rfl rfl (one_of HT_.out (by kernel_rfl)) (by decide) (fun K hK => ?_)
                refine goes_ Try.func17 (by kernel_rfl) rfl #[.int .u32 a2] (by rfl) rfl rfl (by (try simp only [List.map_toArray, List.map_cons, List.map_nil]); first | done | rfl | (simp only [List.length_drop, List.length_take]; rfl)) ?_
                with_reducible refine (nautilusref10_Blocks.calls a2 t176 _ A18.out).mono ?_
                rintro e w' ⟨rfl, ⟨nd, rfl⟩⟩
                refine ⟨_, rfl, ?_⟩
                refine hK.out _ _ ⟨(blk_cell BK139.out 0).trans rfl, (blk_cell BK139.out 1).trans rfl, (blk_cell BK139.out 2).trans rfl, (blk_cell BK139.out 3).trans rfl, (blk_cell BK139.out 4).trans rfl, (blk_cell BK139.out 5).trans rfl, (blk_cell BK139.out 6).trans rfl, (blk_cell BK139.out 7).trans rfl, (blk_cell BK139.out 8).trans rfl, (blk_cell BK139.out 9).trans rfl, (blk_cell BK139.out 10).trans rfl, (blk_cell BK139.out 11).trans rfl, (blk_cell BK158.out 0).trans rfl, (blk_cell BK158.out 1).trans rfl, (blk_cell BK158.out 2).trans rfl, (blk_cell BK158.out 3).trans rfl, (blk_cell BK158.out 4).trans rfl, (blk_cell BK158.out 5).trans rfl, (blk_cell BK158.out 6).trans rfl, (blk_cell BK158.out 7).trans rfl, (blk_cell BK158.out 8).trans rfl, (blk_cell BK158.out 9).trans rfl, (blk_cell BK158.out 10).trans rfl, (blk_cell BK158.out 11).trans rfl, (blk_cell BK172.out 0).trans rfl, (blk_cell BK172.out 1).trans rfl, (blk_cell BK172.out 2).trans rfl, (blk_cell BK172.out 3).trans rfl, (blk_cell BK172.out 4).trans rfl, (blk_cell BK172.out 5).trans rfl, (blk_cell BK172.out 6).trans rfl, (blk_cell BK172.out 7).trans rfl, (blk_cell BK172.out 8).trans rfl, (blk_cell BK172.out 9).trans rfl, (blk_cell BK172.out 10).trans rfl, (blk_cell BK172.out 11).trans rfl⟩ (fun hHeld => ?_)
                clear hK K
                refine norm_ (a' := ?_) ?_ ?_
                rotate_left
                · show Act.put _ (some 69) _ = _
                  simp only [Act.put, List.setIfInBounds_toArray, List.set_cons_zero, List.set_cons_succ, i64_w, i32_w]
                  rfl
                refine pure_ (i := 33) (N := some 70) (v := ?_) (a' := ?_) #[true, true, true, true, true, true, true, true, true, true, true, true, true, true, true, true, true, true, true, true, true, true, true, true, true, true, true, true, true, true, true, true, true, true, false, false, false, false, false, false, false, false, false] rfl rfl (any_of HT_.out (by kernel_rfl)) (fun _ _ _ h => h) (Or.inl ⟨by rfl, ?_⟩) ?_ ?_
                rotate_left
                · intro w'
                  go_simp
                  with_reducible rfl
                rotate_left
                · simp only [Act.put, List.setIfInBounds_toArray, List.set_cons_zero, List.set_cons_succ, i64_w, i32_w]
                  rfl
                refine pure_ (i := 34) (N := some 71) (v := ?_) (a' := ?_) #[true, true, true, true, true, true, true, true, true, true, true, true, true, true, true, true, true, true, true, true, true, true, true, true, true, true, true, true, true, true, true, true, true, true, true, false, false, false, false, false, false, false, false] rfl rfl (any_of HT_.out (by kernel_rfl)) (fun _ _ _ h => h) (Or.inl ⟨by rfl, ?_⟩) ?_ ?_
                rotate_left
                · intro w'
                  go_simp
                  with_reducible rfl
                rotate_left
                · simp only [Act.put, List.setIfInBounds_toArray, List.set_cons_zero, List.set_cons_succ, i64_w, i32_w]
                  rfl
                refine pure_ (i := 35) (N := some 72) (v := ?_) (a' := ?_) #[true, true, true, true, true, true, true, true, true, true, true, true, true, true, true, true, true, true, true, true, true, true, true, true, true, true, true, true, true, true, true, true, true, true, true, true, false, false, false, false, false, false, false] rfl rfl (any_of HT_.out (by kernel_rfl)) (fun _ _ _ h => h) (Or.inl ⟨by rfl, ?_⟩) ?_ ?_
                rotate_left
                · intro w'
                  go_simp
                  with_reducible rfl
                rotate_left
                · simp only [Act.put, List.setIfInBounds_toArray, List.set_cons_zero, List.set_cons_succ, i64_w, i32_w]
                  rfl
                refine pure_ (i := 36) (N := some 73) (v := ?_) (a' := ?_) #[true, true, true, true, true, true, true, true, true, true, true, true, true, true, true, true, true, true, true, true, true, true, true, true, true, true, true, true, true, true, true, true, true, true, true, true, true, false, false, false, false, false, false] rfl rfl (any_of HT_.out (by kernel_rfl)) (fun _ _ _ h => h) (Or.inl ⟨by rfl, ?_⟩) ?_ ?_
                rotate_left
                · intro w'
                  go_simp
                  with_reducible rfl
                rotate_left
                · simp only [Act.put, List.setIfInBounds_toArray, List.set_cons_zero, List.set_cons_succ, i64_w, i32_w]
                  rfl
                refine pure_ (i := 38) (N := some 75) (v := ?_) (a' := ?_) #[true, true, true, true, true, true, true, true, true, true, true, true, true, true, true, true, true, true, true, true, true, true, true, true, true, true, true, true, true, true, true, true, true, true, true, true, true, false, true, false, false, false, false] rfl rfl (any_of HT_.out (by kernel_rfl)) (fun _ _ _ h => h) (Or.inl ⟨by rfl, ?_⟩) ?_ ?_
                rotate_left
                · intro w'
                  go_simp
                  with_reducible rfl
                rotate_left
                · simp only [Act.put, List.setIfInBounds_toArray, List.set_cons_zero, List.set_cons_succ, i64_w, i32_w]
                  rfl
                refine one_ (i := 37) (N := some 74) #[true, true, true, true, true, true, true, true, true, true, true, true, true, true, true, true, true, true, true, true, true, true, true, true, true, true, true, true, true, true, true, true, true, true, true, true, true, true, true, false, false, false, false] rfl rfl (one_of HT_.out (by kernel_rfl)) (by decide) (fun K hK => ?_)
                refine goes_ Try.func10 (by kernel_rfl) rfl #[.int .u32 a2] (by rfl) rfl rfl (by (try simp only [List.map_toArray, List.map_cons, List.map_nil]); first | done | rfl | (simp only [List.length_drop, List.length_take]; rfl)) ?_
                with_reducible refine (inode_Depth.calls a2 t177 _ A20.out).mono ?_
                rintro e w' ⟨rfl, ⟨nd, rfl⟩⟩
                refine ⟨_, rfl, ?_⟩
                refine hK.out _ _ ⟨(blk_cell BK139.out 0).trans rfl, (blk_cell BK139.out 1).trans rfl, (blk_cell BK139.out 2).trans rfl, (blk_cell BK139.out 3).trans rfl, (blk_cell BK139.out 4).trans rfl, (blk_cell BK139.out 5).trans rfl, (blk_cell BK139.out 6).trans rfl, (blk_cell BK139.out 7).trans rfl, (blk_cell BK139.out 8).trans rfl, (blk_cell BK139.out 9).trans rfl, (blk_cell BK139.out 10).trans rfl, (blk_cell BK139.out 11).trans rfl, (blk_cell BK158.out 0).trans rfl, (blk_cell BK158.out 1).trans rfl, (blk_cell BK158.out 2).trans rfl, (blk_cell BK158.out 3).trans rfl, (blk_cell BK158.out 4).trans rfl, (blk_cell BK158.out 5).trans rfl, (blk_cell BK158.out 6).trans rfl, (blk_cell BK158.out 7).trans rfl, (blk_cell BK158.out 8).trans rfl, (blk_cell BK158.out 9).trans rfl, (blk_cell BK158.out 10).trans rfl, (blk_cell BK158.out 11).trans rfl, (blk_cell BK172.out 0).trans rfl, (blk_cell BK172.out 1).trans rfl, (blk_cell BK172.out 2).trans rfl, (blk_cell BK172.out 3).trans rfl, (blk_cell BK172.out 4).trans rfl, (blk_cell BK172.out 5).trans rfl, (blk_cell BK172.out 6).trans rfl, (blk_cell BK172.out 7).trans rfl, (blk_cell BK172.out 8).trans rfl, (blk_cell BK172.out 9).trans rfl, (blk_cell BK172.out 10).trans rfl, (blk_cell BK172.out 11).trans rfl⟩ (fun hHeld => ?_)
                clear hK K
                refine norm_ (a' := ?_) ?_ ?_
                rotate_left
                · show Act.put _ (some 74) _ = _
                  simp only [Act.put, List.setIfInBounds_toArray, List.set_cons_zero, List.set_cons_succ, i64_w, i32_w]
                  rfl
                refine one_ (i := 39) (N := some 76) #[true, true, true, true, true, true, true, true, true, true, true, true, true, true, true, true, true, true, true, true, true, true, true, true, true, true, true, true, true, true, true, true, true, true, true, true, true, true, true, true, false, false, false] rfl rfl (one_of HT_.out (by kernel_rfl)) (by decide) (fun K hK => ?_)
                refine goes_ Try.func18 (by kernel_rfl) rfl #[.int .u32 a2] (by rfl) rfl rfl (by (try simp only [List.map_toArray, List.map_cons, List.map_nil]); first | done | rfl | (simp only [List.length_drop, List.length_take]; rfl)) ?_
                with_reducible refine (nautilusref10_Depth.calls a2 t178 _ A21.out).mono ?_
                rintro e w' ⟨rfl, ⟨nd, rfl⟩⟩
                refine ⟨_, rfl, ?_⟩
                refine hK.out _ _ ⟨(blk_cell BK139.out 0).trans rfl, (blk_cell BK139.out 1).trans rfl, (blk_cell BK139.out 2).trans rfl, (blk_cell BK139.out 3).trans rfl, (blk_cell BK139.out 4).trans rfl, (blk_cell BK139.out 5).trans rfl, (blk_cell BK139.out 6).trans rfl, (blk_cell BK139.out 7).trans rfl, (blk_cell BK139.out 8).trans rfl, (blk_cell BK139.out 9).trans rfl, (blk_cell BK139.out 10).trans rfl, (blk_cell BK139.out 11).trans rfl, (blk_cell BK158.out 0).trans rfl, (blk_cell BK158.out 1).trans rfl, (blk_cell BK158.out 2).trans rfl, (blk_cell BK158.out 3).trans rfl, (blk_cell BK158.out 4).trans rfl, (blk_cell BK158.out 5).trans rfl, (blk_cell BK158.out 6).trans rfl, (blk_cell BK158.out 7).trans rfl, (blk_cell BK158.out 8).trans rfl, (blk_cell BK158.out 9).trans rfl, (blk_cell BK158.out 10).trans rfl, (blk_cell BK158.out 11).trans rfl, (blk_cell BK172.out 0).trans rfl, (blk_cell BK172.out 1).trans rfl, (blk_cell BK172.out 2).trans rfl, (blk_cell BK172.out 3).trans rfl, (blk_cell BK172.out 4).trans rfl, (blk_cell BK172.out 5).trans rfl, (blk_cell BK172.out 6).trans rfl, (blk_cell BK172.out 7).trans rfl, (blk_cell BK172.out 8).trans rfl, (blk_cell BK172.out 9).trans rfl, (blk_cell BK172.out 10).trans rfl, (blk_cell BK172.out 11).trans rfl⟩ (fun hHeld => ?_)
                clear hK K
                refine norm_ (a' := ?_) ?_ ?_
                rotate_left
                · show Act.put _ (some 76) _ = _
                  simp only [Act.put, List.setIfInBounds_toArray, List.set_cons_zero, List.set_cons_succ, i64_w, i32_w]
                  rfl
                refine pure_ (i := 40) (N := some 77) (v := ?_) (a' := ?_) #[true, true, true, true, true, true, true, true, true, true, true, true, true, true, true, true, true, true, true, true, true, true, true, true, true, true, true, true, true, true, true, true, true, true, true, true, true, true, true, true, true, false, false] rfl rfl (any_of HT_.out (by kernel_rfl)) (fun _ _ _ h => h) (Or.inl ⟨by rfl, ?_⟩) ?_ ?_
                rotate_left
                · intro w'
                  go_simp
                  with_reducible rfl
                rotate_left
                · simp only [Act.put, List.setIfInBounds_toArray, List.set_cons_zero, List.set_cons_succ, i64_w, i32_w]
                  rfl
                refine pure_ (i := 41) (N := some 78) (v := ?_) (a' := ?_) #[true, true, true, true, true, true, true, true, true, true, true, true, true, true, true, true, true, true, true, true, true, true, true, true, true, true, true, true, true, true, true, true, true, true, true, true, true, true, true, true, true, true, false] rfl rfl (any_of HT_.out (by kernel_rfl)) (fun _ _ _ h => h) (Or.inl ⟨by rfl, ?_⟩) ?_ ?_
                rotate_left
                · intro w'
                  go_simp
                  with_reducible rfl
                rotate_left
                · simp only [Act.put, List.setIfInBounds_toArray, List.set_cons_zero, List.set_cons_succ, i64_w, i32_w]
                  rfl
                refine pure_ (i := 42) (N := some 6) (v := ?_) (a' := ?_) #[true, true, true, true, true, true, true, true, true, true, true, true, true, true, true, true, true, true, true, true, true, true, true, true, true, true, true, true, true, true, true, true, true, true, true, true, true, true, true, true, true, true, true] rfl rfl (any_of HT_.out (by kernel_rfl)) (fun _ _ _ h => h) (Or.inl ⟨by rfl, ?_⟩) ?_ ?_
                rotate_left
                · intro w'
                  go_simp
                  with_reducible rfl
                rotate_left
                · simp only [Act.put, List.setIfInBounds_toArray, List.set_cons_zero, List.set_cons_succ, i64_w, i32_w]
                  rfl
                refine done_ (done_of HT_.out (by kernel_rfl)) ?_
                try go_wp2
                go_ret
                exact ⟨by first | rfl | (simp [errW_none, errW_some] <;> rfl) | (simp [*, errW_none, errW_some] <;> rfl) | (simp [show IntKind.u64.wrap 0 = 0 from rfl, Int.zero_tdiv]; done), by repeat (first | (with_reducible first | exact HB.out | apply below_alloc | apply pw_below_drewN | apply below_drew1 | refine below_set ?_ GE139.out | refine below_set ?_ GE158.out | refine below_set ?_ GE172.out) | exact HB.out)⟩
              · rw [if_neg c19] at H
                have c19b0 : (t175 == t176) = false := beq_eq_false_iff_ne.mpr c19
                have c19b1 : (t175 != t176) = true := bne_iff_ne.mpr c19
                exact absurd H (by simp)
            · rw [if_neg c16] at H
              have c16b0 : (t157 == t171) = false := beq_eq_false_iff_ne.mpr c16
              have c16b1 : (t157 != t171) = true := bne_iff_ne.mpr c16
              exact absurd H (by simp)
          · rw [if_neg c15] at H
            have c15b0 : (t145 == t159 && (t146 == t160 && (t147 == t161 && (t148 == t162 && (t149 == t163 && (t150 == t164 && ((t151 == t165 && (t152 == t166 && (t153 == t167 && (t154 == t168 && (t155 == t169 && (t156 == t170))))))))))))) = false := by simpa using c15
            (try (have c15b1 : decide (t145 = t159 && (t146 == t160 && (t147 == t161 && (t148 == t162 && (t149 == t163 && (t150 == t164 && ((t151 == t165 && (t152 == t166 && (t153 == t167 && (t154 == t168 && (t155 == t169 && (t156 == t170))))))))))))) = false := by simpa using c15))
            (try (have c15b2 : (t145 == t159 && (t146 == t160 && (t147 == t161 && (t148 == t162 && (t149 == t163 && (t150 == t164 && ((t151 == t165 && (t152 == t166 && (t153 == t167 && (t154 == t168 && (t155 == t169 && (t156 == t170))))))))))))) = false := by simpa using c15))
            (try (have c15b3 : ¬ (t145 = t159 && (t146 == t160 && (t147 == t161 && (t148 == t162 && (t149 == t163 && (t150 == t164 && ((t151 == t165 && (t152 == t166 && (t153 == t167 && (t154 == t168 && (t155 == t169 && (t156 == t170))))))))))))) := by simpa using c15))
            clear c15
            exact absurd H (by simp)
        · rw [if_neg c14] at H
          have c14b0 : (t142 == t144) = false := beq_eq_false_iff_ne.mpr c14
          have c14b1 : (t142 != t144) = true := bne_iff_ne.mpr c14
          exact absurd H (by simp)
      · rw [if_neg c13] at H
        have c13b0 : (t141.toList == t143.toList) = false := beq_eq_false_iff_ne.mpr c13
        have c13b1 : (t141.toList != t143.toList) = true := bne_iff_ne.mpr c13
        exact absurd H (by simp)
    · rw [if_neg c12] at H
      have c12b0 : (t173 == t174) = false := by simpa using c12
      (try (have c12b1 : decide (t173 = t174) = false := by simpa using c12))
      (try (have c12b2 : (t173 == t174) = false := by simpa using c12))
      (try (have c12b3 : ¬ (t173 = t174) := by simpa using c12))
      clear c12
      exact absurd H (by simp)
  · replace c9 := Bool.eq_false_iff.mpr c9
    subst c9
    have H1 : (none) = some r := by rw [if_neg (show ¬ (false = true) by decide)] at H; exact H
    clear H
    have H := H1
    clear H1
    exact absurd H (by simp)

/-- THE ONE PURE STATEMENT of nautiluslaw10_InodeBytes: yours. -/
def nautiluslaw10_InodeBytes.Pure : Prop := ∀ (a0_0 : Int) (a0_1 : Int) (a0_2 : Int) (a0_3 : Int) (a0_4 : Int) (a0_5 : Int) (a0_6 : Int) (a0_7 : Int) (a0_8 : Int) (a0_9 : Int) (a0_10 : Int) (a0_11 : Int) (a1 : ByteArray) (a2 : Int), (Lit.int .i64 a0_0).wf = true → (Lit.int .u16 a0_1).wf = true → (Lit.int .u16 a0_2).wf = true → (Lit.int .u32 a0_3).wf = true → (Lit.int .u64 a0_4).wf = true → (Lit.int .i64 a0_5).wf = true → (Lit.int .u32 a0_6).wf = true → (Lit.int .u32 a0_7).wf = true → (Lit.int .u32 a0_8).wf = true → (Lit.int .u32 a0_9).wf = true → (Lit.int .u32 a0_10).wf = true → (Lit.int .u32 a0_11).wf = true → a1.size ≤ 140737488351232 → (Lit.int .u32 a2).wf = true → ∃ k, nautiluslaw10_InodeBytes.f k a0_0 a0_1 a0_2 a0_3 a0_4 a0_5 a0_6 a0_7 a0_8 a0_9 a0_10 a0_11 a1 a2 = some true
theorem nautiluslaw10_InodeBytes.walk (P : nautiluslaw10_InodeBytes.Pure) (a0_0 : Int) (a0_1 : Int) (a0_2 : Int) (a0_3 : Int) (a0_4 : Int) (a0_5 : Int) (a0_6 : Int) (a0_7 : Int) (a0_8 : Int) (a0_9 : Int) (a0_10 : Int) (a0_11 : Int) (a1 : ByteArray) (a2 : Int) (w : World) (w0_0 : (Lit.int .i64 a0_0).wf = true) (w0_1 : (Lit.int .u16 a0_1).wf = true) (w0_2 : (Lit.int .u16 a0_2).wf = true) (w0_3 : (Lit.int .u32 a0_3).wf = true) (w0_4 : (Lit.int .u64 a0_4).wf = true) (w0_5 : (Lit.int .i64 a0_5).wf = true) (w0_6 : (Lit.int .u32 a0_6).wf = true) (w0_7 : (Lit.int .u32 a0_7).wf = true) (w0_8 : (Lit.int .u32 a0_8).wf = true) (w0_9 : (Lit.int .u32 a0_9).wf = true) (w0_10 : (Lit.int .u32 a0_10).wf = true) (w0_11 : (Lit.int .u32 a0_11).wf = true) (w1 : a1.size ≤ 140737488351232) (w2 : (Lit.int .u32 a2).wf = true) :
    Calls Try.prog 5 #[.agg #[.int .i64 a0_0, .int .u16 a0_1, .int .u16 a0_2, .int .u32 a0_3, .int .u64 a0_4, .int .i64 a0_5, .int .u32 a0_6, .int .u32 a0_7, .int .u32 a0_8, .int .u32 a0_9, .int .u32 a0_10, .int .u32 a0_11], .string a1, .int .u32 a2] w fun e w' => e = .returned (.bool true) ∧ Below w.heap.size w w' := by
  obtain ⟨k, h⟩ := P a0_0 a0_1 a0_2 a0_3 a0_4 a0_5 a0_6 a0_7 a0_8 a0_9 a0_10 a0_11 a1 a2 w0_0 w0_1 w0_2 w0_3 w0_4 w0_5 w0_6 w0_7 w0_8 w0_9 w0_10 w0_11 w1 w2
  refine (nautiluslaw10_InodeBytes.calls k a0_0 a0_1 a0_2 a0_3 a0_4 a0_5 a0_6 a0_7 a0_8 a0_9 a0_10 a0_11 a1 a2 true w h).mono ?_
  rintro e w' ⟨rfl, hd⟩
  exact ⟨rfl, hd⟩

end Go.Proofs.Ytdcdcnnigggdjaa.Q
