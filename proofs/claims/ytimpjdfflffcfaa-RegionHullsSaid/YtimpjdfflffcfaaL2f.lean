/- Contracts of functions of the given program, printed by a program of this project. -/
import Derived.Test.YtimpjdfflffcfaaL2e
import Derived.Test.YtimpjdfflffcfaaRq
import Derived.Test.YtimpjdfflffcfaaProg
set_option linter.unusedVariables false
set_option linter.unusedSimpArgs false
namespace Go.Proofs.Ytimpjdfflffcfaa
open Go Go.RowKit
set_option maxRecDepth 100000
set_option maxHeartbeats 8000000

theorem refIn1 (n : Int) (w : World) :
    Calls Try.prog 88 #[.int .i64 n] w fun e w' => e = .returned (.bool (decide (-1048576 ≤ n ∧ n ≤ 1048576))) ∧ Below w.heap.size w w' := by
  refine enter 9 [(0, .int .i64 n)] [] Try.func88 rfl Try.ntmps88 rfl (by kernel_rfl) (Tab.start w) ?_
  refine cont_seq ?_
  refine cont_region 1 rfl ?_
  refine bS [0] 1 0 [(0, .int .i64 n)] ?_
  refine cont_done ?_
  refine then_normal ?_
  refine cont_seq ?_
  refine cont_region 7 rfl ?_
  refine bS [0, 0, 0] 3 4 [(0, .int .i64 n), (5, .bool (decide (n ≥ (-1048576))))] ?_
  refine cont_split 5 (decide (n ≥ (-1048576))) rfl (fun c1_ => ?_) (fun c1_ => ?_)
  ·
    replace c1_ := of_decide_eq_true c1_
    refine bS [0, 0, 0, 0] 7 0 [(2, .bool (decide (n ≤ 1048576)))] ?_
    refine cont_done ?_
    refine then_normal ?_
    refine cont_ret ?_
    refine ret_one (.inl rfl) rfl 0 (.bool (decide (n ≤ 1048576))) (by kernel_rfl) (by kernel_rfl) (fun w hT => ?_)
    exact ⟨ret_bool (by rw [Bool.eq_iff_iff]; simp <;> omega), hT.post rfl⟩
  replace c1_ := of_decide_eq_false c1_
  refine bS [0, 0, 0, 0] 7 0 [(2, .bool false)] ?_
  refine cont_done ?_
  refine then_normal ?_
  refine cont_ret ?_
  refine ret_one (.inl rfl) rfl 0 (.bool false) (by kernel_rfl) (by kernel_rfl) (fun w hT => ?_)
  exact ⟨ret_bool (by rw [Bool.eq_iff_iff]; simp <;> omega), hT.post rfl⟩

theorem rectMayQ (a b c d : Int) (w : World) :
    Calls Try.prog 80 #[.agg #[.int .i64 a, .int .i64 b, .int .i64 c, .int .i64 d]] w fun e w' => e = .returned (.bool (mayQ ⟨a, b, c, d⟩)) ∧ Below w.heap.size w w' := by
  refine enter 39 [(0, .agg #[.int .i64 a, .int .i64 b, .int .i64 c, .int .i64 d])] [] Try.func80 rfl Try.ntmps80 rfl (by kernel_rfl) (Tab.start w) ?_
  refine cont_seq ?_
  refine cont_region 2 rfl ?_
  refine batch1 [0, 0] 2 0 (fun b1 => [(1, .pointer (some ⟨b1, 0, none⟩))]) (fun b1 => [.cells b1 [.int .i64 a, .int .i64 b, .int .i64 c, .int .i64 d] 25 true]) rfl rfl [1] (fun _ => rfl) (fun b1 => by kernel_rfl) (fun b1 => by kernel_rfl) (fun b1 => ?_)
  refine cont_done ?_
  refine then_normal ?_
  refine cont_seq ?_
  refine cont_region 37 rfl ?_
  refine bS [0, 0, 0, 0, 0, 0, 0, 0, 0, 0, 0] 11 26 [(1, .pointer (some ⟨b1, 0, none⟩)), (13, .bool (decide ((mn (mn (mn a b) c) d) ≥ (-1048576))))] ?_
  refine cont_split 13 (decide ((mn (mn (mn a b) c) d) ≥ (-1048576))) rfl (fun c2_ => ?_) (fun c2_ => ?_)
  ·
    replace c2_ := of_decide_eq_true c2_
    refine bS [0, 0, 0, 0, 0, 0, 0, 0, 0, 0, 0, 0] 23 14 [(1, .pointer (some ⟨b1, 0, none⟩)), (25, .bool (decide ((mx (mx (mx a b) c) d) ≤ 1048576)))] ?_
    refine cont_split 25 (decide ((mx (mx (mx a b) c) d) ≤ 1048576)) rfl (fun c3_ => ?_) (fun c3_ => ?_)
    ·
      replace c3_ := of_decide_eq_true c3_
      refine bS [0, 0, 0, 0, 0, 0, 0] 30 7 [(1, .pointer (some ⟨b1, 0, none⟩)), (32, .bool (decide (a ≤ c)))] ?_
      refine cont_split 32 (decide (a ≤ c)) rfl (fun c4_ => ?_) (fun c4_ => ?_)
      ·
        replace c4_ := of_decide_eq_true c4_
        refine bS [0, 0, 0, 0, 0, 0, 0] 37 0 [(2, .bool (decide (b ≤ d)))] ?_
        refine cont_forget 0 rfl ?_
        refine cont_done ?_
        refine then_normal ?_
        refine cont_ret ?_
        refine ret_one (.inl rfl) rfl 0 (.bool (decide (b ≤ d))) (by kernel_rfl) (by kernel_rfl) (fun w hT => ?_)
        refine ⟨ret_bool ?_, hT.post rfl⟩
        rw [Bool.eq_iff_iff]
        simp only [mayQ, decide_eq_true_eq, Bool.false_eq_true, true_iff, false_iff]
        try unfold mn at *
        try unfold mx at *
        omega
      replace c4_ := of_decide_eq_false c4_
      refine bS [0, 0, 0, 0, 0, 0, 0] 37 0 [(2, .bool false)] ?_
      refine cont_forget 0 rfl ?_
      refine cont_done ?_
      refine then_normal ?_
      refine cont_ret ?_
      refine ret_one (.inl rfl) rfl 0 (.bool false) (by kernel_rfl) (by kernel_rfl) (fun w hT => ?_)
      refine ⟨ret_bool ?_, hT.post rfl⟩
      rw [Bool.eq_iff_iff]
      simp only [mayQ, decide_eq_true_eq, Bool.false_eq_true, true_iff, false_iff]
      try unfold mn at *
      try unfold mx at *
      omega
    replace c3_ := of_decide_eq_false c3_
    refine bS [0, 0, 0, 0, 0, 0, 0, 0, 0, 0, 0, 0, 0, 0] 37 0 [(2, .bool false)] ?_
    refine cont_forget 0 rfl ?_
    refine cont_done ?_
    refine then_normal ?_
    refine cont_ret ?_
    refine ret_one (.inl rfl) rfl 0 (.bool false) (by kernel_rfl) (by kernel_rfl) (fun w hT => ?_)
    refine ⟨ret_bool ?_, hT.post rfl⟩
    rw [Bool.eq_iff_iff]
    simp only [mayQ, decide_eq_true_eq, Bool.false_eq_true, true_iff, false_iff]
    try unfold mn at *
    try unfold mx at *
    omega
  replace c2_ := of_decide_eq_false c2_
  refine bS [0, 0, 0, 0, 0, 0, 0, 0, 0, 0, 0, 0, 0, 0, 0, 0, 0, 0, 0, 0, 0, 0, 0, 0, 0, 0] 37 0 [(2, .bool false)] ?_
  refine cont_forget 0 rfl ?_
  refine cont_done ?_
  refine then_normal ?_
  refine cont_ret ?_
  refine ret_one (.inl rfl) rfl 0 (.bool false) (by kernel_rfl) (by kernel_rfl) (fun w hT => ?_)
  refine ⟨ret_bool ?_, hT.post rfl⟩
  rw [Bool.eq_iff_iff]
  simp only [mayQ, decide_eq_true_eq, Bool.false_eq_true, true_iff, false_iff]
  try unfold mn at *
  try unfold mx at *
  omega

theorem refMayQ (a b c d : Int) (w : World) :
    Calls Try.prog 79 #[.agg #[.int .i64 a, .int .i64 b, .int .i64 c, .int .i64 d]] w fun e w' => e = .returned (.bool (mayQ ⟨a, b, c, d⟩)) ∧ Below w.heap.size w w' := by
  refine enter 35 [(0, .agg #[.int .i64 a, .int .i64 b, .int .i64 c, .int .i64 d])] [] Try.func79 rfl Try.ntmps79 rfl (by kernel_rfl) (Tab.start w) ?_
  refine cont_seq ?_
  refine cont_region 2 rfl ?_
  refine batch1 [0, 0] 2 0 (fun b1 => [(1, .pointer (some ⟨b1, 0, none⟩))]) (fun b1 => [.cells b1 [.int .i64 a, .int .i64 b, .int .i64 c, .int .i64 d] 25 true]) rfl rfl [1] (fun _ => rfl) (fun b1 => by kernel_rfl) (fun b1 => by kernel_rfl) (fun b1 => ?_)
  refine cont_done ?_
  refine then_normal ?_
  refine cont_seq ?_
  refine cont_region 33 rfl ?_
  refine bS [0, 0] 2 31 [(1, .pointer (some ⟨b1, 0, none⟩)), (4, .int .i64 a)] ?_
  refine pl_step 3 30 rfl rfl ?_
  refine call_pure (d := 5) (.bool (decide (-1048576 ≤ a ∧ a ≤ 1048576))) (by kernel_rfl) (fun w hT => refIn1 a w) ?_
  refine bS [0] 4 29 [(1, .pointer (some ⟨b1, 0, none⟩)), (6, .bool (decide (-1048576 ≤ a ∧ a ≤ 1048576)))] ?_
  refine cont_split 6 (decide (-1048576 ≤ a ∧ a ≤ 1048576)) rfl (fun c2_ => ?_) (fun c2_ => ?_)
  ·
    replace c2_ := of_decide_eq_true c2_
    refine bS [0, 0] 6 27 [(1, .pointer (some ⟨b1, 0, none⟩)), (6, .bool true), (8, .int .i64 b)] ?_
    refine pl_step 7 26 rfl rfl ?_
    refine call_pure (d := 9) (.bool (decide (-1048576 ≤ b ∧ b ≤ 1048576))) (by kernel_rfl) (fun w hT => refIn1 b w) ?_
    refine bS [0, 0] 9 24 [(1, .pointer (some ⟨b1, 0, none⟩)), (11, .bool (decide (-1048576 ≤ b ∧ b ≤ 1048576)))] ?_
    refine cont_split 11 (decide (-1048576 ≤ b ∧ b ≤ 1048576)) rfl (fun c3_ => ?_) (fun c3_ => ?_)
    ·
      replace c3_ := of_decide_eq_true c3_
      refine bS [0, 0] 11 22 [(1, .pointer (some ⟨b1, 0, none⟩)), (11, .bool true), (13, .int .i64 c)] ?_
      refine pl_step 12 21 rfl rfl ?_
      refine call_pure (d := 14) (.bool (decide (-1048576 ≤ c ∧ c ≤ 1048576))) (by kernel_rfl) (fun w hT => refIn1 c w) ?_
      refine bS [0, 0] 14 19 [(1, .pointer (some ⟨b1, 0, none⟩)), (16, .bool (decide (-1048576 ≤ c ∧ c ≤ 1048576)))] ?_
      refine cont_split 16 (decide (-1048576 ≤ c ∧ c ≤ 1048576)) rfl (fun c4_ => ?_) (fun c4_ => ?_)
      ·
        replace c4_ := of_decide_eq_true c4_
        refine bS [0, 0] 16 17 [(1, .pointer (some ⟨b1, 0, none⟩)), (16, .bool true), (18, .int .i64 d)] ?_
        refine pl_step 17 16 rfl rfl ?_
        refine call_pure (d := 19) (.bool (decide (-1048576 ≤ d ∧ d ≤ 1048576))) (by kernel_rfl) (fun w hT => refIn1 d w) ?_
        refine bS [0, 0] 19 14 [(1, .pointer (some ⟨b1, 0, none⟩)), (21, .bool (decide (-1048576 ≤ d ∧ d ≤ 1048576)))] ?_
        refine cont_split 21 (decide (-1048576 ≤ d ∧ d ≤ 1048576)) rfl (fun c5_ => ?_) (fun c5_ => ?_)
        ·
          replace c5_ := of_decide_eq_true c5_
          refine bS [0, 0, 0, 0, 0, 0, 0] 26 7 [(1, .pointer (some ⟨b1, 0, none⟩)), (28, .bool (decide (a ≤ c)))] ?_
          refine cont_split 28 (decide (a ≤ c)) rfl (fun c6_ => ?_) (fun c6_ => ?_)
          ·
            replace c6_ := of_decide_eq_true c6_
            refine bS [0, 0, 0, 0, 0, 0, 0] 33 0 [(2, .bool (decide (b ≤ d)))] ?_
            refine cont_forget 0 rfl ?_
            refine cont_done ?_
            refine then_normal ?_
            refine cont_ret ?_
            refine ret_one (.inl rfl) rfl 0 (.bool (decide (b ≤ d))) (by kernel_rfl) (by kernel_rfl) (fun w hT => ?_)
            refine ⟨ret_bool ?_, hT.post rfl⟩
            rw [Bool.eq_iff_iff]
            simp only [mayQ, decide_eq_true_eq, Bool.false_eq_true, true_iff, false_iff]
            try unfold mn at *
            try unfold mx at *
            omega
          replace c6_ := of_decide_eq_false c6_
          refine bS [0, 0, 0, 0, 0, 0, 0] 33 0 [(2, .bool false)] ?_
          refine cont_forget 0 rfl ?_
          refine cont_done ?_
          refine then_normal ?_
          refine cont_ret ?_
          refine ret_one (.inl rfl) rfl 0 (.bool false) (by kernel_rfl) (by kernel_rfl) (fun w hT => ?_)
          refine ⟨ret_bool ?_, hT.post rfl⟩
          rw [Bool.eq_iff_iff]
          simp only [mayQ, decide_eq_true_eq, Bool.false_eq_true, true_iff, false_iff]
          try unfold mn at *
          try unfold mx at *
          omega
        replace c5_ := of_decide_eq_false c5_
        refine bS [0, 0, 0, 0, 0, 0, 0, 0, 0, 0, 0, 0, 0, 0] 33 0 [(2, .bool false)] ?_
        refine cont_forget 0 rfl ?_
        refine cont_done ?_
        refine then_normal ?_
        refine cont_ret ?_
        refine ret_one (.inl rfl) rfl 0 (.bool false) (by kernel_rfl) (by kernel_rfl) (fun w hT => ?_)
        refine ⟨ret_bool ?_, hT.post rfl⟩
        rw [Bool.eq_iff_iff]
        simp only [mayQ, decide_eq_true_eq, Bool.false_eq_true, true_iff, false_iff]
        try unfold mn at *
        try unfold mx at *
        omega
      replace c4_ := of_decide_eq_false c4_
      refine bS [0, 0, 0, 0, 0, 0, 0, 0, 0, 0, 0, 0, 0, 0, 0, 0, 0, 0, 0] 33 0 [(2, .bool false)] ?_
      refine cont_forget 0 rfl ?_
      refine cont_done ?_
      refine then_normal ?_
      refine cont_ret ?_
      refine ret_one (.inl rfl) rfl 0 (.bool false) (by kernel_rfl) (by kernel_rfl) (fun w hT => ?_)
      refine ⟨ret_bool ?_, hT.post rfl⟩
      rw [Bool.eq_iff_iff]
      simp only [mayQ, decide_eq_true_eq, Bool.false_eq_true, true_iff, false_iff]
      try unfold mn at *
      try unfold mx at *
      omega
    replace c3_ := of_decide_eq_false c3_
    refine bS [0, 0, 0, 0, 0, 0, 0, 0, 0, 0, 0, 0, 0, 0, 0, 0, 0, 0, 0, 0, 0, 0, 0, 0] 33 0 [(2, .bool false)] ?_
    refine cont_forget 0 rfl ?_
    refine cont_done ?_
    refine then_normal ?_
    refine cont_ret ?_
    refine ret_one (.inl rfl) rfl 0 (.bool false) (by kernel_rfl) (by kernel_rfl) (fun w hT => ?_)
    refine ⟨ret_bool ?_, hT.post rfl⟩
    rw [Bool.eq_iff_iff]
    simp only [mayQ, decide_eq_true_eq, Bool.false_eq_true, true_iff, false_iff]
    try unfold mn at *
    try unfold mx at *
    omega
  replace c2_ := of_decide_eq_false c2_
  refine bS [0, 0, 0, 0, 0, 0, 0, 0, 0, 0, 0, 0, 0, 0, 0, 0, 0, 0, 0, 0, 0, 0, 0, 0, 0, 0, 0, 0, 0] 33 0 [(2, .bool false)] ?_
  refine cont_forget 0 rfl ?_
  refine cont_done ?_
  refine then_normal ?_
  refine cont_ret ?_
  refine ret_one (.inl rfl) rfl 0 (.bool false) (by kernel_rfl) (by kernel_rfl) (fun w hT => ?_)
  refine ⟨ret_bool ?_, hT.post rfl⟩
  rw [Bool.eq_iff_iff]
  simp only [mayQ, decide_eq_true_eq, Bool.false_eq_true, true_iff, false_iff]
  try unfold mn at *
  try unfold mx at *
  omega

theorem rectChkQ (a b c d : Int) (w : World) :
    Calls Try.prog 78 #[.agg #[.int .i64 a, .int .i64 b, .int .i64 c, .int .i64 d]] w fun e w' => e = .returned (.tuple #[.agg #[.int .i64 (((chkQ ⟨a, b, c, d⟩).1).x0), .int .i64 (((chkQ ⟨a, b, c, d⟩).1).y0), .int .i64 (((chkQ ⟨a, b, c, d⟩).1).x1), .int .i64 (((chkQ ⟨a, b, c, d⟩).1).y1)], .int .i64 ((chkQ ⟨a, b, c, d⟩).2)]) ∧ Below w.heap.size w w' := by
  refine enter 9 [(0, .agg #[.int .i64 a, .int .i64 b, .int .i64 c, .int .i64 d])] [] Try.func78 rfl Try.ntmps78 rfl (by kernel_rfl) (Tab.start w) ?_
  refine cont_seq ?_
  refine cont_region 3 rfl ?_
  refine batch2 [0, 0, 0] 3 0 (fun b1 b2 => [(1, .pointer (some ⟨b1, 0, none⟩)), (2, .pointer (some ⟨b2, 0, none⟩))]) (fun b1 b2 => [.cells b2 [.int .i64 0, .int .i64 0, .int .i64 0, .int .i64 0] 25 true, .cells b1 [.int .i64 a, .int .i64 b, .int .i64 c, .int .i64 d] 25 true]) rfl rfl [1, 2] (fun _ _ => rfl) (fun b1 b2 => by kernel_rfl) (fun b1 b2 => by kernel_rfl) (fun b1 b2 => ?_)
  refine cont_done ?_
  refine then_normal ?_
  refine cont_seq ?_
  refine cont_seq ?_
  refine cont_region 3 rfl ?_
  refine bS [1] 1 2 [(1, .pointer (some ⟨b1, 0, none⟩)), (2, .pointer (some ⟨b2, 0, none⟩)), (4, .agg #[.int .i64 a, .int .i64 b, .int .i64 c, .int .i64 d])] ?_
  refine pl_step 2 1 rfl rfl ?_
  refine call_pure (d := 5) (.bool (mayQ ⟨a, b, c, d⟩)) (by kernel_rfl) (fun w hT => rectMayQ a b c d w) ?_
  refine bS [0] 3 0 [(1, .pointer (some ⟨b1, 0, none⟩)), (2, .pointer (some ⟨b2, 0, none⟩)), (6, .bool (!(mayQ ⟨a, b, c, d⟩)))] ?_
  refine cont_done ?_
  refine then_normal ?_
  refine cont_split 6 (!(mayQ ⟨a, b, c, d⟩)) rfl (fun c3_ => ?_) (fun c3_ => ?_)
  ·
    replace c3_ : (mayQ ⟨a, b, c, d⟩) = false := by simpa using c3_
    refine cont_true rfl ?_
    refine cont_seq ?_
    refine cont_region 3 rfl ?_
    refine bS [0, 0, 0] 3 0 [(2, .pointer (some ⟨b2, 0, none⟩)), (3, .int .i64 4)] ?_
    refine cont_forget 1 rfl ?_
    refine cont_done ?_
    refine then_normal ?_
    refine cont_ret ?_
    refine then_ret ?_
    refine ret_two (.inl rfl) rfl 0 0 (.agg #[.int .i64 0, .int .i64 0, .int .i64 0, .int .i64 0]) (.int .i64 4) (by kernel_rfl) (by kernel_rfl) (by kernel_rfl) (by kernel_rfl) (fun w hT => ?_)
    exact ⟨by simp [chkQ, zeroR, *], hT.post rfl⟩
  replace c3_ : (mayQ ⟨a, b, c, d⟩) = true := by simpa using c3_
  refine cont_false rfl ?_
  refine cont_skip ?_
  refine then_normal ?_
  refine cont_seq ?_
  refine cont_region 3 rfl ?_
  refine batch0 [1, 0, 0] 3 0 [(2, .pointer (some ⟨b2, 0, none⟩)), (3, .int .i64 0)] [.cells b2 [.int .i64 a, .int .i64 b, .int .i64 c, .int .i64 d] 25 true, .cells b1 [.int .i64 a, .int .i64 b, .int .i64 c, .int .i64 d] 25 true] rfl rfl (by kernel_rfl) (by kernel_rfl) ?_
  refine cont_forget 1 rfl ?_
  refine cont_done ?_
  refine then_normal ?_
  refine cont_ret ?_
  refine ret_two (.inl rfl) rfl 0 0 (.agg #[.int .i64 a, .int .i64 b, .int .i64 c, .int .i64 d]) (.int .i64 0) (by kernel_rfl) (by kernel_rfl) (by kernel_rfl) (by kernel_rfl) (fun w hT => ?_)
  exact ⟨by simp [chkQ, zeroR, *], hT.post rfl⟩

theorem movFarQ (n : Int) (w : World) :
    Calls Try.prog 77 #[.int .i64 n] w fun e w' => e = .returned (.int .i64 (farQ n)) ∧ Below w.heap.size w w' := by
  refine enter 6 [(0, .int .i64 n)] [] Try.func77 rfl Try.ntmps77 rfl (by kernel_rfl) (Tab.start w) ?_
  refine cont_seq ?_
  refine cont_region 1 rfl ?_
  refine bS [0] 1 0 [(0, .int .i64 n)] ?_
  refine cont_done ?_
  refine then_normal ?_
  refine cont_seq ?_
  refine cont_region 4 rfl ?_
  refine bS [0, 0, 0, 0] 4 0 [(2, .int .i64 (mn (mx n (-4194304)) 4194304))] ?_
  refine cont_done ?_
  refine then_normal ?_
  refine cont_ret ?_
  refine ret_one (.inl rfl) rfl 0 (.int .i64 (mn (mx n (-4194304)) 4194304)) (by kernel_rfl) (by kernel_rfl) (fun w hT => ?_)
  exact ⟨rfl, hT.post rfl⟩

theorem rectMovQ (a b c d x y : Int) (w : World) (ha : -2000000 ≤ a ∧ a ≤ 2000000) (hb : -2000000 ≤ b ∧ b ≤ 2000000) (hc : -2000000 ≤ c ∧ c ≤ 2000000) (hd : -2000000 ≤ d ∧ d ≤ 2000000) :
    Calls Try.prog 64 #[.agg #[.int .i64 a, .int .i64 b, .int .i64 c, .int .i64 d], .int .i64 x, .int .i64 y] w fun e w' => e = .returned (.tuple #[.agg #[.int .i64 (((moveP x y ⟨a, b, c, d⟩).1).x0), .int .i64 (((moveP x y ⟨a, b, c, d⟩).1).y0), .int .i64 (((moveP x y ⟨a, b, c, d⟩).1).x1), .int .i64 (((moveP x y ⟨a, b, c, d⟩).1).y1)], .int .i64 ((moveP x y ⟨a, b, c, d⟩).2)]) ∧ Below w.heap.size w w' := by
  have hfx := farQ_range x
  have hfy := farQ_range y
  refine enter 35 [(0, .agg #[.int .i64 a, .int .i64 b, .int .i64 c, .int .i64 d]), (1, .int .i64 x), (2, .int .i64 y)] [] Try.func64 rfl Try.ntmps64 rfl (by kernel_rfl) (Tab.start w) ?_
  refine cont_seq ?_
  refine cont_region 3 rfl ?_
  refine batch2 [0, 0, 0] 3 0 (fun b1 b2 => [(1, .int .i64 x), (2, .int .i64 y), (3, .pointer (some ⟨b1, 0, none⟩)), (6, .pointer (some ⟨b2, 0, none⟩))]) (fun b1 b2 => [.cells b2 [.int .i64 0, .int .i64 0, .int .i64 0, .int .i64 0] 25 true, .cells b1 [.int .i64 a, .int .i64 b, .int .i64 c, .int .i64 d] 25 true]) rfl rfl [1, 2, 3, 6] (fun _ _ => rfl) (fun b1 b2 => by kernel_rfl) (fun b1 b2 => by kernel_rfl) (fun b1 b2 => ?_)
  refine cont_done ?_
  refine then_normal ?_
  refine cont_seq ?_
  refine cont_region 1 rfl ?_
  refine bS [0] 1 0 [(1, .int .i64 x), (2, .int .i64 y), (3, .pointer (some ⟨b1, 0, none⟩)), (6, .pointer (some ⟨b2, 0, none⟩)), (8, .func (.func 77) #[] #[])] ?_
  refine cont_done ?_
  refine then_normal ?_
  refine cont_seq ?_
  refine cont_region 8 rfl ?_
  refine bS [0, 0] 2 6 [(2, .int .i64 y), (3, .pointer (some ⟨b1, 0, none⟩)), (6, .pointer (some ⟨b2, 0, none⟩)), (8, .func (.func 77) #[] #[]), (9, .func (.func 77) #[] #[]), (10, .int .i64 x)] ?_
  refine pl_step 3 5 rfl rfl ?_
  refine call_pure (d := 11) (.int .i64 (farQ x)) (by kernel_rfl) (fun w hT => movFarQ x w) ?_
  refine bS [0, 0] 5 3 [(3, .pointer (some ⟨b1, 0, none⟩)), (6, .pointer (some ⟨b2, 0, none⟩)), (11, .int .i64 (farQ x)), (12, .func (.func 77) #[] #[]), (13, .int .i64 y)] ?_
  refine pl_step 6 2 rfl rfl ?_
  refine call_pure (d := 14) (.int .i64 (farQ y)) (by kernel_rfl) (fun w hT => movFarQ y w) ?_
  refine bS [0, 0] 8 0 [(1, .int .i64 (farQ x)), (2, .int .i64 (farQ y)), (3, .pointer (some ⟨b1, 0, none⟩)), (6, .pointer (some ⟨b2, 0, none⟩))] ?_
  refine cont_done ?_
  refine then_normal ?_
  refine cont_seq ?_
  refine cont_region 22 rfl ?_
  refine bS [0, 1, 0, 0] 4 18 [(1, .int .i64 (farQ x)), (2, .int .i64 (farQ y)), (3, .pointer (some ⟨b1, 0, none⟩)), (6, .pointer (some ⟨b2, 0, none⟩)), (18, .int .i64 (IntKind.i64.wrap (a + (farQ x))))] ?_
  refine cont_recast 18 (.int .i64 (IntKind.i64.wrap (a + (farQ x)))) (.int .i64 (a + (farQ x))) rfl (wrapI (by omega) (by omega)) ?_
  refine bS [0, 1, 0, 0] 8 14 [(1, .int .i64 (farQ x)), (2, .int .i64 (farQ y)), (3, .pointer (some ⟨b1, 0, none⟩)), (6, .pointer (some ⟨b2, 0, none⟩)), (18, .int .i64 (a + (farQ x))), (22, .int .i64 (IntKind.i64.wrap (b + (farQ y))))] ?_
  refine cont_recast 22 (.int .i64 (IntKind.i64.wrap (b + (farQ y)))) (.int .i64 (b + (farQ y))) rfl (wrapI (by omega) (by omega)) ?_
  refine bS [0, 1, 0, 0] 12 10 [(2, .int .i64 (farQ y)), (3, .pointer (some ⟨b1, 0, none⟩)), (6, .pointer (some ⟨b2, 0, none⟩)), (18, .int .i64 (a + (farQ x))), (22, .int .i64 (b + (farQ y))), (26, .int .i64 (IntKind.i64.wrap (c + (farQ x))))] ?_
  refine cont_recast 26 (.int .i64 (IntKind.i64.wrap (c + (farQ x)))) (.int .i64 (c + (farQ x))) rfl (wrapI (by omega) (by omega)) ?_
  refine bS [0, 1, 0, 0] 16 6 [(6, .pointer (some ⟨b2, 0, none⟩)), (18, .int .i64 (a + (farQ x))), (22, .int .i64 (b + (farQ y))), (26, .int .i64 (c + (farQ x))), (30, .int .i64 (IntKind.i64.wrap (d + (farQ y))))] ?_
  refine cont_recast 30 (.int .i64 (IntKind.i64.wrap (d + (farQ y)))) (.int .i64 (d + (farQ y))) rfl (wrapI (by omega) (by omega)) ?_
  refine cont_forget 1 rfl ?_
  refine bS [0] 17 5 [(6, .pointer (some ⟨b2, 0, none⟩)), (31, .agg #[.int .i64 (a + (farQ x)), .int .i64 (b + (farQ y)), .int .i64 (c + (farQ x)), .int .i64 (d + (farQ y))])] ?_
  refine pl_step 18 4 rfl rfl ?_
  refine call_pure (d := 32) (.tuple #[.agg #[.int .i64 (((chkQ ⟨(a + (farQ x)), (b + (farQ y)), (c + (farQ x)), (d + (farQ y))⟩).1).x0), .int .i64 (((chkQ ⟨(a + (farQ x)), (b + (farQ y)), (c + (farQ x)), (d + (farQ y))⟩).1).y0), .int .i64 (((chkQ ⟨(a + (farQ x)), (b + (farQ y)), (c + (farQ x)), (d + (farQ y))⟩).1).x1), .int .i64 (((chkQ ⟨(a + (farQ x)), (b + (farQ y)), (c + (farQ x)), (d + (farQ y))⟩).1).y1)], .int .i64 ((chkQ ⟨(a + (farQ x)), (b + (farQ y)), (c + (farQ x)), (d + (farQ y))⟩).2)]) (by kernel_rfl) (fun w hT => rectChkQ (a + (farQ x)) (b + (farQ y)) (c + (farQ x)) (d + (farQ y)) w) ?_
  refine batch0 [0, 0, 0, 0] 22 0 [(6, .pointer (some ⟨b2, 0, none⟩)), (7, .int .i64 ((chkQ ⟨(a + (farQ x)), (b + (farQ y)), (c + (farQ x)), (d + (farQ y))⟩).2))] [.cells b2 [.int .i64 (((chkQ ⟨(a + (farQ x)), (b + (farQ y)), (c + (farQ x)), (d + (farQ y))⟩).1).x0), .int .i64 (((chkQ ⟨(a + (farQ x)), (b + (farQ y)), (c + (farQ x)), (d + (farQ y))⟩).1).y0), .int .i64 (((chkQ ⟨(a + (farQ x)), (b + (farQ y)), (c + (farQ x)), (d + (farQ y))⟩).1).x1), .int .i64 (((chkQ ⟨(a + (farQ x)), (b + (farQ y)), (c + (farQ x)), (d + (farQ y))⟩).1).y1)] 25 true] rfl rfl (by kernel_rfl) (by kernel_rfl) ?_
  refine cont_done ?_
  refine then_normal ?_
  refine cont_ret ?_
  refine ret_two (.inl rfl) rfl 0 0 (.agg #[.int .i64 (((chkQ ⟨(a + (farQ x)), (b + (farQ y)), (c + (farQ x)), (d + (farQ y))⟩).1).x0), .int .i64 (((chkQ ⟨(a + (farQ x)), (b + (farQ y)), (c + (farQ x)), (d + (farQ y))⟩).1).y0), .int .i64 (((chkQ ⟨(a + (farQ x)), (b + (farQ y)), (c + (farQ x)), (d + (farQ y))⟩).1).x1), .int .i64 (((chkQ ⟨(a + (farQ x)), (b + (farQ y)), (c + (farQ x)), (d + (farQ y))⟩).1).y1)]) (.int .i64 ((chkQ ⟨(a + (farQ x)), (b + (farQ y)), (c + (farQ x)), (d + (farQ y))⟩).2)) (by kernel_rfl) (by kernel_rfl) (by kernel_rfl) (by kernel_rfl) (fun w hT => ?_)
  exact ⟨rfl, hT.post rfl⟩

theorem rectSclQ (a b c d s : Int) (w : World) :
    Calls Try.prog 67 #[.agg #[.int .i64 a, .int .i64 b, .int .i64 c, .int .i64 d], .int .i64 s] w fun e w' => e = .returned (.tuple #[.agg #[.int .i64 (((scaleR s ⟨a, b, c, d⟩).1).x0), .int .i64 (((scaleR s ⟨a, b, c, d⟩).1).y0), .int .i64 (((scaleR s ⟨a, b, c, d⟩).1).x1), .int .i64 (((scaleR s ⟨a, b, c, d⟩).1).y1)], .int .i64 ((scaleR s ⟨a, b, c, d⟩).2)]) ∧ Below w.heap.size w w' := by
  refine enter 39 [(0, .agg #[.int .i64 a, .int .i64 b, .int .i64 c, .int .i64 d]), (1, .int .i64 s)] [] Try.func67 rfl Try.ntmps67 rfl (by kernel_rfl) (Tab.start w) ?_
  refine cont_seq ?_
  refine cont_region 3 rfl ?_
  refine batch2 [0, 0, 0] 3 0 (fun b1 b2 => [(1, .int .i64 s), (2, .pointer (some ⟨b1, 0, none⟩)), (4, .pointer (some ⟨b2, 0, none⟩))]) (fun b1 b2 => [.cells b2 [.int .i64 0, .int .i64 0, .int .i64 0, .int .i64 0] 25 true, .cells b1 [.int .i64 a, .int .i64 b, .int .i64 c, .int .i64 d] 25 true]) rfl rfl [1, 2, 4] (fun _ _ => rfl) (fun b1 b2 => by kernel_rfl) (fun b1 b2 => by kernel_rfl) (fun b1 b2 => ?_)
  refine cont_done ?_
  refine then_normal ?_
  refine cont_seq ?_
  refine cont_block ?_
  refine cont_seq ?_
  refine cont_region 7 rfl ?_
  refine bS [0, 0, 0] 3 4 [(1, .int .i64 s), (2, .pointer (some ⟨b1, 0, none⟩)), (4, .pointer (some ⟨b2, 0, none⟩)), (9, .bool (decide (s < 1)))] ?_
  refine cont_split 9 (decide (s < 1)) rfl (fun c3_ => ?_) (fun c3_ => ?_)
  ·
    replace c3_ := of_decide_eq_true c3_
    refine bS [0, 0, 0, 0] 7 0 [(1, .int .i64 s), (2, .pointer (some ⟨b1, 0, none⟩)), (4, .pointer (some ⟨b2, 0, none⟩)), (6, .bool true)] ?_
    refine cont_done ?_
    refine then_normal ?_
    refine cont_true rfl ?_
    refine cont_seq ?_
    refine cont_region 3 rfl ?_
    refine bS [0, 0, 0] 3 0 [(4, .pointer (some ⟨b2, 0, none⟩)), (5, .int .i64 1)] ?_
    refine cont_forget 1 rfl ?_
    refine cont_done ?_
    refine then_normal ?_
    refine cont_ret ?_
    refine blk_ret ?_
    refine then_ret ?_
    refine ret_two (.inl rfl) rfl 0 0 (.agg #[.int .i64 0, .int .i64 0, .int .i64 0, .int .i64 0]) (.int .i64 1) (by kernel_rfl) (by kernel_rfl) (by kernel_rfl) (by kernel_rfl) (fun w hT => ?_)
    exact ⟨by first | (rw [scaleR_bad (by omega)]; rfl) | (rw [scaleR_out (by omega) ‹_›]; rfl) | (rw [scaleR_in (by omega) ‹_›]; first | done | rfl | (rw [chkQ_yes ‹_›]) | (rw [chkQ_no ‹_›]; rfl)), hT.post rfl⟩
  replace c3_ := of_decide_eq_false c3_
  refine bS [0, 0, 0, 0] 7 0 [(1, .int .i64 s), (2, .pointer (some ⟨b1, 0, none⟩)), (4, .pointer (some ⟨b2, 0, none⟩)), (6, .bool (decide (s > 8)))] ?_
  refine cont_done ?_
  refine then_normal ?_
  refine cont_split 6 (decide (s > 8)) rfl (fun c4_ => ?_) (fun c4_ => ?_)
  ·
    replace c4_ := of_decide_eq_true c4_
    refine cont_true rfl ?_
    refine cont_seq ?_
    refine cont_region 3 rfl ?_
    refine bS [0, 0, 0] 3 0 [(4, .pointer (some ⟨b2, 0, none⟩)), (5, .int .i64 1)] ?_
    refine cont_forget 1 rfl ?_
    refine cont_done ?_
    refine then_normal ?_
    refine cont_ret ?_
    refine blk_ret ?_
    refine then_ret ?_
    refine ret_two (.inl rfl) rfl 0 0 (.agg #[.int .i64 0, .int .i64 0, .int .i64 0, .int .i64 0]) (.int .i64 1) (by kernel_rfl) (by kernel_rfl) (by kernel_rfl) (by kernel_rfl) (fun w hT => ?_)
    exact ⟨by first | (rw [scaleR_bad (by omega)]; rfl) | (rw [scaleR_out (by omega) ‹_›]; rfl) | (rw [scaleR_in (by omega) ‹_›]; first | done | rfl | (rw [chkQ_yes ‹_›]) | (rw [chkQ_no ‹_›]; rfl)), hT.post rfl⟩
  replace c4_ := of_decide_eq_false c4_
  refine cont_false rfl ?_
  refine cont_seq ?_
  refine cont_region 4 rfl ?_
  refine bS [1] 1 3 [(1, .int .i64 s), (2, .pointer (some ⟨b1, 0, none⟩)), (4, .pointer (some ⟨b2, 0, none⟩)), (15, .agg #[.int .i64 a, .int .i64 b, .int .i64 c, .int .i64 d])] ?_
  refine pl_step 2 2 rfl rfl ?_
  refine call_pure (d := 16) (.bool (mayQ ⟨a, b, c, d⟩)) (by kernel_rfl) (fun w hT => rectMayQ a b c d w) ?_
  refine bS [0, 0] 4 0 [(1, .int .i64 s), (2, .pointer (some ⟨b1, 0, none⟩)), (4, .pointer (some ⟨b2, 0, none⟩)), (14, .bool (!(mayQ ⟨a, b, c, d⟩)))] ?_
  refine cont_done ?_
  refine then_normal ?_
  refine cont_split 14 (!(mayQ ⟨a, b, c, d⟩)) rfl (fun c5_ => ?_) (fun c5_ => ?_)
  ·
    replace c5_ : (mayQ ⟨a, b, c, d⟩) = false := by simpa using c5_
    refine cont_true rfl ?_
    refine cont_seq ?_
    refine cont_region 3 rfl ?_
    refine bS [0, 0, 0] 3 0 [(4, .pointer (some ⟨b2, 0, none⟩)), (5, .int .i64 4)] ?_
    refine cont_forget 1 rfl ?_
    refine cont_done ?_
    refine then_normal ?_
    refine cont_ret ?_
    refine blk_ret ?_
    refine then_ret ?_
    refine ret_two (.inl rfl) rfl 0 0 (.agg #[.int .i64 0, .int .i64 0, .int .i64 0, .int .i64 0]) (.int .i64 4) (by kernel_rfl) (by kernel_rfl) (by kernel_rfl) (by kernel_rfl) (fun w hT => ?_)
    exact ⟨by first | (rw [scaleR_bad (by omega)]; rfl) | (rw [scaleR_out (by omega) ‹_›]; rfl) | (rw [scaleR_in (by omega) ‹_›]; first | done | rfl | (rw [chkQ_yes ‹_›]) | (rw [chkQ_no ‹_›]; rfl)), hT.post rfl⟩
  replace c5_ : (mayQ ⟨a, b, c, d⟩) = true := by simpa using c5_
  refine cont_false rfl ?_
  refine cont_skip ?_
  refine blk_normal ?_
  refine then_normal ?_
  refine cont_seq ?_
  refine cont_region 22 rfl ?_
  have hm_ := mayQ_true.1 ‹_›
  simp only at hm_
  have hsc : ∀ x : Int, -1048576 ≤ x → x ≤ 1048576 → -8388608 ≤ x * s ∧ x * s ≤ 8388608 := fun x h1 h2 => by
    have := Int.mul_le_mul_of_nonneg_right h1 (show 0 ≤ s by omega)
    have := Int.mul_le_mul_of_nonneg_right h2 (show 0 ≤ s by omega)
    omega
  have hs1 := hsc a (by omega) (by omega)
  have hs2 := hsc b (by omega) (by omega)
  have hs3 := hsc c (by omega) (by omega)
  have hs4 := hsc d (by omega) (by omega)
  refine bS [0, 1, 0, 0] 4 18 [(1, .int .i64 s), (2, .pointer (some ⟨b1, 0, none⟩)), (4, .pointer (some ⟨b2, 0, none⟩)), (22, .int .i64 (IntKind.i64.wrap (a * s)))] ?_
  refine cont_recast 22 (.int .i64 (IntKind.i64.wrap (a * s))) (.int .i64 (a * s)) rfl (wrapI (by omega) (by omega)) ?_
  refine bS [0, 1, 0, 0] 8 14 [(1, .int .i64 s), (2, .pointer (some ⟨b1, 0, none⟩)), (4, .pointer (some ⟨b2, 0, none⟩)), (22, .int .i64 (a * s)), (26, .int .i64 (IntKind.i64.wrap (b * s)))] ?_
  refine cont_recast 26 (.int .i64 (IntKind.i64.wrap (b * s))) (.int .i64 (b * s)) rfl (wrapI (by omega) (by omega)) ?_
  refine bS [0, 1, 0, 0] 12 10 [(1, .int .i64 s), (2, .pointer (some ⟨b1, 0, none⟩)), (4, .pointer (some ⟨b2, 0, none⟩)), (22, .int .i64 (a * s)), (26, .int .i64 (b * s)), (30, .int .i64 (IntKind.i64.wrap (c * s)))] ?_
  refine cont_recast 30 (.int .i64 (IntKind.i64.wrap (c * s))) (.int .i64 (c * s)) rfl (wrapI (by omega) (by omega)) ?_
  refine bS [0, 1, 0, 0] 16 6 [(4, .pointer (some ⟨b2, 0, none⟩)), (22, .int .i64 (a * s)), (26, .int .i64 (b * s)), (30, .int .i64 (c * s)), (34, .int .i64 (IntKind.i64.wrap (d * s)))] ?_
  refine cont_recast 34 (.int .i64 (IntKind.i64.wrap (d * s))) (.int .i64 (d * s)) rfl (wrapI (by omega) (by omega)) ?_
  refine cont_forget 1 rfl ?_
  refine bS [0] 17 5 [(4, .pointer (some ⟨b2, 0, none⟩)), (35, .agg #[.int .i64 (a * s), .int .i64 (b * s), .int .i64 (c * s), .int .i64 (d * s)])] ?_
  refine pl_step 18 4 rfl rfl ?_
  refine call_pure (d := 36) (.tuple #[.agg #[.int .i64 (((chkQ ⟨(a * s), (b * s), (c * s), (d * s)⟩).1).x0), .int .i64 (((chkQ ⟨(a * s), (b * s), (c * s), (d * s)⟩).1).y0), .int .i64 (((chkQ ⟨(a * s), (b * s), (c * s), (d * s)⟩).1).x1), .int .i64 (((chkQ ⟨(a * s), (b * s), (c * s), (d * s)⟩).1).y1)], .int .i64 ((chkQ ⟨(a * s), (b * s), (c * s), (d * s)⟩).2)]) (by kernel_rfl) (fun w hT => rectChkQ (a * s) (b * s) (c * s) (d * s) w) ?_
  refine batch0 [0, 0, 0, 0] 22 0 [(4, .pointer (some ⟨b2, 0, none⟩)), (5, .int .i64 ((chkQ ⟨(a * s), (b * s), (c * s), (d * s)⟩).2))] [.cells b2 [.int .i64 (((chkQ ⟨(a * s), (b * s), (c * s), (d * s)⟩).1).x0), .int .i64 (((chkQ ⟨(a * s), (b * s), (c * s), (d * s)⟩).1).y0), .int .i64 (((chkQ ⟨(a * s), (b * s), (c * s), (d * s)⟩).1).x1), .int .i64 (((chkQ ⟨(a * s), (b * s), (c * s), (d * s)⟩).1).y1)] 25 true] rfl rfl (by kernel_rfl) (by kernel_rfl) ?_
  refine cont_done ?_
  refine then_normal ?_
  refine cont_ret ?_
  refine ret_two (.inl rfl) rfl 0 0 (.agg #[.int .i64 (((chkQ ⟨(a * s), (b * s), (c * s), (d * s)⟩).1).x0), .int .i64 (((chkQ ⟨(a * s), (b * s), (c * s), (d * s)⟩).1).y0), .int .i64 (((chkQ ⟨(a * s), (b * s), (c * s), (d * s)⟩).1).x1), .int .i64 (((chkQ ⟨(a * s), (b * s), (c * s), (d * s)⟩).1).y1)]) (.int .i64 ((chkQ ⟨(a * s), (b * s), (c * s), (d * s)⟩).2)) (by kernel_rfl) (by kernel_rfl) (by kernel_rfl) (by kernel_rfl) (fun w hT => ?_)
  exact ⟨by first | (rw [scaleR_bad (by omega)]; rfl) | (rw [scaleR_out (by omega) ‹_›]; rfl) | (rw [scaleR_in (by omega) ‹_›]; first | done | rfl | (rw [chkQ_yes ‹_›]) | (rw [chkQ_no ‹_›]; rfl)), hT.post rfl⟩

theorem refSclQ (a b c d s : Int) (w : World) :
    Calls Try.prog 68 #[.agg #[.int .i64 a, .int .i64 b, .int .i64 c, .int .i64 d], .int .i64 s] w fun e w' => e = .returned (.tuple #[.agg #[.int .i64 (((scaleR s ⟨a, b, c, d⟩).1).x0), .int .i64 (((scaleR s ⟨a, b, c, d⟩).1).y0), .int .i64 (((scaleR s ⟨a, b, c, d⟩).1).x1), .int .i64 (((scaleR s ⟨a, b, c, d⟩).1).y1)], .int .i64 ((scaleR s ⟨a, b, c, d⟩).2)]) ∧ Below w.heap.size w w' := by
  refine enter 41 [(0, .agg #[.int .i64 a, .int .i64 b, .int .i64 c, .int .i64 d]), (1, .int .i64 s)] [] Try.func68 rfl Try.ntmps68 rfl (by kernel_rfl) (Tab.start w) ?_
  refine cont_seq ?_
  refine cont_region 3 rfl ?_
  refine batch2 [0, 0, 0] 3 0 (fun b1 b2 => [(1, .int .i64 s), (2, .pointer (some ⟨b1, 0, none⟩)), (4, .pointer (some ⟨b2, 0, none⟩))]) (fun b1 b2 => [.cells b2 [.int .i64 0, .int .i64 0, .int .i64 0, .int .i64 0] 25 true, .cells b1 [.int .i64 a, .int .i64 b, .int .i64 c, .int .i64 d] 25 true]) rfl rfl [1, 2, 4] (fun _ _ => rfl) (fun b1 b2 => by kernel_rfl) (fun b1 b2 => by kernel_rfl) (fun b1 b2 => ?_)
  refine cont_done ?_
  refine then_normal ?_
  refine cont_seq ?_
  refine cont_seq ?_
  refine cont_region 6 rfl ?_
  refine bS [0, 0, 0] 3 3 [(1, .int .i64 s), (2, .pointer (some ⟨b1, 0, none⟩)), (4, .pointer (some ⟨b2, 0, none⟩)), (10, .bool (decide (s < 1)))] ?_
  refine cont_split 10 (decide (s < 1)) rfl (fun c3_ => ?_) (fun c3_ => ?_)
  ·
    replace c3_ := of_decide_eq_true c3_
    refine bS [0, 0, 0] 6 0 [(1, .int .i64 s), (2, .pointer (some ⟨b1, 0, none⟩)), (4, .pointer (some ⟨b2, 0, none⟩)), (13, .bool true)] ?_
    refine cont_done ?_
    refine then_normal ?_
    refine cont_true rfl ?_
    refine cont_seq ?_
    refine cont_region 3 rfl ?_
    refine bS [0, 0, 0] 3 0 [(4, .pointer (some ⟨b2, 0, none⟩)), (5, .int .i64 1)] ?_
    refine cont_forget 1 rfl ?_
    refine cont_done ?_
    refine then_normal ?_
    refine cont_ret ?_
    refine then_ret ?_
    refine ret_two (.inl rfl) rfl 0 0 (.agg #[.int .i64 0, .int .i64 0, .int .i64 0, .int .i64 0]) (.int .i64 1) (by kernel_rfl) (by kernel_rfl) (by kernel_rfl) (by kernel_rfl) (fun w hT => ?_)
    exact ⟨by first | (rw [scaleR_bad (by omega)]; rfl) | (rw [scaleR_out (by omega) ‹_›]; rfl) | (rw [scaleR_in (by omega) ‹_›]; first | done | rfl | (rw [chkQ_yes ‹_›]) | (rw [chkQ_no ‹_›]; rfl)), hT.post rfl⟩
  replace c3_ := of_decide_eq_false c3_
  refine bS [0, 0, 0] 6 0 [(1, .int .i64 s), (2, .pointer (some ⟨b1, 0, none⟩)), (4, .pointer (some ⟨b2, 0, none⟩)), (13, .bool (decide (s > 8)))] ?_
  refine cont_done ?_
  refine then_normal ?_
  refine cont_split 13 (decide (s > 8)) rfl (fun c4_ => ?_) (fun c4_ => ?_)
  ·
    replace c4_ := of_decide_eq_true c4_
    refine cont_true rfl ?_
    refine cont_seq ?_
    refine cont_region 3 rfl ?_
    refine bS [0, 0, 0] 3 0 [(4, .pointer (some ⟨b2, 0, none⟩)), (5, .int .i64 1)] ?_
    refine cont_forget 1 rfl ?_
    refine cont_done ?_
    refine then_normal ?_
    refine cont_ret ?_
    refine then_ret ?_
    refine ret_two (.inl rfl) rfl 0 0 (.agg #[.int .i64 0, .int .i64 0, .int .i64 0, .int .i64 0]) (.int .i64 1) (by kernel_rfl) (by kernel_rfl) (by kernel_rfl) (by kernel_rfl) (fun w hT => ?_)
    exact ⟨by first | (rw [scaleR_bad (by omega)]; rfl) | (rw [scaleR_out (by omega) ‹_›]; rfl) | (rw [scaleR_in (by omega) ‹_›]; first | done | rfl | (rw [chkQ_yes ‹_›]) | (rw [chkQ_no ‹_›]; rfl)), hT.post rfl⟩
  replace c4_ := of_decide_eq_false c4_
  refine cont_false rfl ?_
  refine cont_skip ?_
  refine then_normal ?_
  refine cont_seq ?_
  refine cont_region 3 rfl ?_
  refine bS [1] 1 2 [(1, .int .i64 s), (2, .pointer (some ⟨b1, 0, none⟩)), (4, .pointer (some ⟨b2, 0, none⟩)), (15, .agg #[.int .i64 a, .int .i64 b, .int .i64 c, .int .i64 d])] ?_
  refine pl_step 2 1 rfl rfl ?_
  refine call_pure (d := 16) (.bool (mayQ ⟨a, b, c, d⟩)) (by kernel_rfl) (fun w hT => refMayQ a b c d w) ?_
  refine bS [0] 3 0 [(1, .int .i64 s), (2, .pointer (some ⟨b1, 0, none⟩)), (4, .pointer (some ⟨b2, 0, none⟩)), (6, .bool (mayQ ⟨a, b, c, d⟩))] ?_
  refine cont_done ?_
  refine then_normal ?_
  refine cont_seq ?_
  refine cont_seq ?_
  refine cont_region 2 rfl ?_
  refine bS [0, 0] 2 0 [(1, .int .i64 s), (2, .pointer (some ⟨b1, 0, none⟩)), (4, .pointer (some ⟨b2, 0, none⟩)), (18, .bool (!(mayQ ⟨a, b, c, d⟩)))] ?_
  refine cont_done ?_
  refine then_normal ?_
  refine cont_split 18 (!(mayQ ⟨a, b, c, d⟩)) rfl (fun c5_ => ?_) (fun c5_ => ?_)
  ·
    replace c5_ : (mayQ ⟨a, b, c, d⟩) = false := by simpa using c5_
    refine cont_true rfl ?_
    refine cont_seq ?_
    refine cont_region 3 rfl ?_
    refine bS [0, 0, 0] 3 0 [(4, .pointer (some ⟨b2, 0, none⟩)), (5, .int .i64 4)] ?_
    refine cont_forget 1 rfl ?_
    refine cont_done ?_
    refine then_normal ?_
    refine cont_ret ?_
    refine then_ret ?_
    refine ret_two (.inl rfl) rfl 0 0 (.agg #[.int .i64 0, .int .i64 0, .int .i64 0, .int .i64 0]) (.int .i64 4) (by kernel_rfl) (by kernel_rfl) (by kernel_rfl) (by kernel_rfl) (fun w hT => ?_)
    exact ⟨by first | (rw [scaleR_bad (by omega)]; rfl) | (rw [scaleR_out (by omega) ‹_›]; rfl) | (rw [scaleR_in (by omega) ‹_›]; first | done | rfl | (rw [chkQ_yes ‹_›]) | (rw [chkQ_no ‹_›]; rfl)), hT.post rfl⟩
  replace c5_ : (mayQ ⟨a, b, c, d⟩) = true := by simpa using c5_
  refine cont_false rfl ?_
  refine cont_skip ?_
  refine then_normal ?_
  refine cont_seq ?_
  refine cont_region 19 rfl ?_
  have hm_ := mayQ_true.1 ‹_›
  simp only at hm_
  have hsc : ∀ x : Int, -1048576 ≤ x → x ≤ 1048576 → -8388608 ≤ x * s ∧ x * s ≤ 8388608 := fun x h1 h2 => by
    have := Int.mul_le_mul_of_nonneg_right h1 (show 0 ≤ s by omega)
    have := Int.mul_le_mul_of_nonneg_right h2 (show 0 ≤ s by omega)
    omega
  have hs1 := hsc a (by omega) (by omega)
  have hs2 := hsc b (by omega) (by omega)
  have hs3 := hsc c (by omega) (by omega)
  have hs4 := hsc d (by omega) (by omega)
  refine bS [0, 1, 0, 0] 4 15 [(1, .int .i64 s), (2, .pointer (some ⟨b1, 0, none⟩)), (4, .pointer (some ⟨b2, 0, none⟩)), (23, .int .i64 (IntKind.i64.wrap (a * s)))] ?_
  refine cont_recast 23 (.int .i64 (IntKind.i64.wrap (a * s))) (.int .i64 (a * s)) rfl (wrapI (by omega) (by omega)) ?_
  refine bS [0, 1, 0, 0] 8 11 [(1, .int .i64 s), (2, .pointer (some ⟨b1, 0, none⟩)), (4, .pointer (some ⟨b2, 0, none⟩)), (23, .int .i64 (a * s)), (27, .int .i64 (IntKind.i64.wrap (b * s)))] ?_
  refine cont_recast 27 (.int .i64 (IntKind.i64.wrap (b * s))) (.int .i64 (b * s)) rfl (wrapI (by omega) (by omega)) ?_
  refine bS [0, 1, 0, 0] 12 7 [(1, .int .i64 s), (2, .pointer (some ⟨b1, 0, none⟩)), (4, .pointer (some ⟨b2, 0, none⟩)), (23, .int .i64 (a * s)), (27, .int .i64 (b * s)), (31, .int .i64 (IntKind.i64.wrap (c * s)))] ?_
  refine cont_recast 31 (.int .i64 (IntKind.i64.wrap (c * s))) (.int .i64 (c * s)) rfl (wrapI (by omega) (by omega)) ?_
  refine bS [0, 1, 0, 0] 16 3 [(4, .pointer (some ⟨b2, 0, none⟩)), (23, .int .i64 (a * s)), (27, .int .i64 (b * s)), (31, .int .i64 (c * s)), (35, .int .i64 (IntKind.i64.wrap (d * s)))] ?_
  refine cont_recast 35 (.int .i64 (IntKind.i64.wrap (d * s))) (.int .i64 (d * s)) rfl (wrapI (by omega) (by omega)) ?_
  refine cont_forget 1 rfl ?_
  refine batch1 [0, 0, 0] 19 0 (fun b6 => [(4, .pointer (some ⟨b2, 0, none⟩)), (7, .pointer (some ⟨b6, 0, none⟩))]) (fun b6 => [.cells b6 [.int .i64 (a * s), .int .i64 (b * s), .int .i64 (c * s), .int .i64 (d * s)] 25 true, .cells b2 [.int .i64 0, .int .i64 0, .int .i64 0, .int .i64 0] 25 true]) rfl rfl [4, 7] (fun _ => rfl) (fun b6 => by kernel_rfl) (fun b6 => by kernel_rfl) (fun b6 => ?_)
  refine cont_done ?_
  refine then_normal ?_
  refine cont_seq ?_
  refine cont_seq ?_
  refine cont_region 2 rfl ?_
  refine bS [0] 1 1 [(4, .pointer (some ⟨b2, 0, none⟩)), (7, .pointer (some ⟨b6, 0, none⟩)), (37, .agg #[.int .i64 (a * s), .int .i64 (b * s), .int .i64 (c * s), .int .i64 (d * s)])] ?_
  refine pl_step 2 0 rfl rfl ?_
  refine call_pure (d := 38) (.bool (mayQ ⟨(a * s), (b * s), (c * s), (d * s)⟩)) (by kernel_rfl) (fun w hT => refMayQ (a * s) (b * s) (c * s) (d * s) w) ?_
  refine cont_done ?_
  refine then_normal ?_
  refine cont_split 38 (mayQ ⟨(a * s), (b * s), (c * s), (d * s)⟩) rfl (fun c7_ => ?_) (fun c7_ => ?_)
  ·
    refine cont_true rfl ?_
    refine cont_seq ?_
    refine cont_region 3 rfl ?_
    refine batch0 [0, 1, 0] 3 0 [(4, .pointer (some ⟨b2, 0, none⟩)), (5, .int .i64 0)] [.cells b6 [.int .i64 (a * s), .int .i64 (b * s), .int .i64 (c * s), .int .i64 (d * s)] 25 true, .cells b2 [.int .i64 (a * s), .int .i64 (b * s), .int .i64 (c * s), .int .i64 (d * s)] 25 true] rfl rfl (by kernel_rfl) (by kernel_rfl) ?_
    refine cont_forget 0 rfl ?_
    refine cont_done ?_
    refine then_normal ?_
    refine cont_ret ?_
    refine then_ret ?_
    refine ret_two (.inl rfl) rfl 0 0 (.agg #[.int .i64 (a * s), .int .i64 (b * s), .int .i64 (c * s), .int .i64 (d * s)]) (.int .i64 0) (by kernel_rfl) (by kernel_rfl) (by kernel_rfl) (by kernel_rfl) (fun w hT => ?_)
    exact ⟨by first | (rw [scaleR_bad (by omega)]; rfl) | (rw [scaleR_out (by omega) ‹_›]; rfl) | (rw [scaleR_in (by omega) ‹_›]; first | done | rfl | (rw [chkQ_yes ‹_›]) | (rw [chkQ_no ‹_›]; rfl)), hT.post rfl⟩
  refine cont_false rfl ?_
  refine cont_skip ?_
  refine then_normal ?_
  refine cont_seq ?_
  refine cont_region 3 rfl ?_
  refine bS [0, 1, 0] 3 0 [(4, .pointer (some ⟨b2, 0, none⟩)), (5, .int .i64 4)] ?_
  refine cont_forget 0 rfl ?_
  refine cont_done ?_
  refine then_normal ?_
  refine cont_ret ?_
  refine ret_two (.inl rfl) rfl 0 0 (.agg #[.int .i64 0, .int .i64 0, .int .i64 0, .int .i64 0]) (.int .i64 4) (by kernel_rfl) (by kernel_rfl) (by kernel_rfl) (by kernel_rfl) (fun w hT => ?_)
  exact ⟨by first | (rw [scaleR_bad (by omega)]; rfl) | (rw [scaleR_out (by omega) ‹_›]; rfl) | (rw [scaleR_in (by omega) ‹_›]; first | done | rfl | (rw [chkQ_yes ‹_›]) | (rw [chkQ_no ‹_›]; rfl)), hT.post rfl⟩

theorem refMovQ (a b c d x y : Int) (w : World) (ha : -2000000 ≤ a ∧ a ≤ 2000000) (hb : -2000000 ≤ b ∧ b ≤ 2000000) (hc : -2000000 ≤ c ∧ c ≤ 2000000) (hd : -2000000 ≤ d ∧ d ≤ 2000000) :
    Calls Try.prog 65 #[.agg #[.int .i64 a, .int .i64 b, .int .i64 c, .int .i64 d], .int .i64 x, .int .i64 y] w fun e w' => e = .returned (.tuple #[.agg #[.int .i64 (((moveD x y ⟨a, b, c, d⟩).1).x0), .int .i64 (((moveD x y ⟨a, b, c, d⟩).1).y0), .int .i64 (((moveD x y ⟨a, b, c, d⟩).1).x1), .int .i64 (((moveD x y ⟨a, b, c, d⟩).1).y1)], .int .i64 ((moveD x y ⟨a, b, c, d⟩).2)]) ∧ Below w.heap.size w w' := by
  refine enter 45 [(0, .agg #[.int .i64 a, .int .i64 b, .int .i64 c, .int .i64 d]), (1, .int .i64 x), (2, .int .i64 y)] [] Try.func65 rfl Try.ntmps65 rfl (by kernel_rfl) (Tab.start w) ?_
  refine cont_seq ?_
  refine cont_region 3 rfl ?_
  refine batch2 [0, 0, 0] 3 0 (fun b1 b2 => [(1, .int .i64 x), (2, .int .i64 y), (3, .pointer (some ⟨b1, 0, none⟩)), (6, .pointer (some ⟨b2, 0, none⟩))]) (fun b1 b2 => [.cells b2 [.int .i64 0, .int .i64 0, .int .i64 0, .int .i64 0] 25 true, .cells b1 [.int .i64 a, .int .i64 b, .int .i64 c, .int .i64 d] 25 true]) rfl rfl [1, 2, 3, 6] (fun _ _ => rfl) (fun b1 b2 => by kernel_rfl) (fun b1 b2 => by kernel_rfl) (fun b1 b2 => ?_)
  refine cont_done ?_
  refine then_normal ?_
  refine cont_seq ?_
  refine cont_seq ?_
  refine cont_region 14 rfl ?_
  refine bS [0, 0, 0] 3 11 [(1, .int .i64 x), (2, .int .i64 y), (3, .pointer (some ⟨b1, 0, none⟩)), (6, .pointer (some ⟨b2, 0, none⟩)), (11, .bool (decide (x < (-2097152))))] ?_
  refine cont_split 11 (decide (x < (-2097152))) rfl (fun c3_ => ?_) (fun c3_ => ?_)
  ·
    replace c3_ := of_decide_eq_true c3_
    refine bS [0, 0, 0, 0, 0, 0, 0, 0, 0, 0, 0] 14 0 [(1, .int .i64 x), (2, .int .i64 y), (3, .pointer (some ⟨b1, 0, none⟩)), (6, .pointer (some ⟨b2, 0, none⟩)), (22, .bool true)] ?_
    refine cont_done ?_
    refine then_normal ?_
    refine cont_true rfl ?_
    refine cont_seq ?_
    refine cont_region 3 rfl ?_
    refine bS [0, 0, 0] 3 0 [(6, .pointer (some ⟨b2, 0, none⟩)), (7, .int .i64 4)] ?_
    refine cont_forget 1 rfl ?_
    refine cont_done ?_
    refine then_normal ?_
    refine cont_ret ?_
    refine then_ret ?_
    refine ret_two (.inl rfl) rfl 0 0 (.agg #[.int .i64 0, .int .i64 0, .int .i64 0, .int .i64 0]) (.int .i64 4) (by kernel_rfl) (by kernel_rfl) (by kernel_rfl) (by kernel_rfl) (fun w hT => ?_)
    exact ⟨by first | (rw [moveD_far (by omega)]; rfl) | (rw [moveD_near (by omega)]; first | (rw [chkQ_yes ‹_›]) | (rw [chkQ_no ‹_›]; rfl)), hT.post rfl⟩
  replace c3_ := of_decide_eq_false c3_
  refine bS [0, 0, 0, 0] 7 7 [(1, .int .i64 x), (2, .int .i64 y), (3, .pointer (some ⟨b1, 0, none⟩)), (6, .pointer (some ⟨b2, 0, none⟩)), (15, .bool (decide (x > 2097152)))] ?_
  refine cont_split 15 (decide (x > 2097152)) rfl (fun c4_ => ?_) (fun c4_ => ?_)
  ·
    replace c4_ := of_decide_eq_true c4_
    refine bS [0, 0, 0, 0, 0, 0, 0] 14 0 [(1, .int .i64 x), (2, .int .i64 y), (3, .pointer (some ⟨b1, 0, none⟩)), (6, .pointer (some ⟨b2, 0, none⟩)), (22, .bool true)] ?_
    refine cont_done ?_
    refine then_normal ?_
    refine cont_true rfl ?_
    refine cont_seq ?_
    refine cont_region 3 rfl ?_
    refine bS [0, 0, 0] 3 0 [(6, .pointer (some ⟨b2, 0, none⟩)), (7, .int .i64 4)] ?_
    refine cont_forget 1 rfl ?_
    refine cont_done ?_
    refine then_normal ?_
    refine cont_ret ?_
    refine then_ret ?_
    refine ret_two (.inl rfl) rfl 0 0 (.agg #[.int .i64 0, .int .i64 0, .int .i64 0, .int .i64 0]) (.int .i64 4) (by kernel_rfl) (by kernel_rfl) (by kernel_rfl) (by kernel_rfl) (fun w hT => ?_)
    exact ⟨by first | (rw [moveD_far (by omega)]; rfl) | (rw [moveD_near (by omega)]; first | (rw [chkQ_yes ‹_›]) | (rw [chkQ_no ‹_›]; rfl)), hT.post rfl⟩
  replace c4_ := of_decide_eq_false c4_
  refine bS [0, 0, 0, 0] 11 3 [(1, .int .i64 x), (2, .int .i64 y), (3, .pointer (some ⟨b1, 0, none⟩)), (6, .pointer (some ⟨b2, 0, none⟩)), (19, .bool (decide (y < (-2097152))))] ?_
  refine cont_split 19 (decide (y < (-2097152))) rfl (fun c5_ => ?_) (fun c5_ => ?_)
  ·
    replace c5_ := of_decide_eq_true c5_
    refine bS [0, 0, 0] 14 0 [(1, .int .i64 x), (2, .int .i64 y), (3, .pointer (some ⟨b1, 0, none⟩)), (6, .pointer (some ⟨b2, 0, none⟩)), (22, .bool true)] ?_
    refine cont_done ?_
    refine then_normal ?_
    refine cont_true rfl ?_
    refine cont_seq ?_
    refine cont_region 3 rfl ?_
    refine bS [0, 0, 0] 3 0 [(6, .pointer (some ⟨b2, 0, none⟩)), (7, .int .i64 4)] ?_
    refine cont_forget 1 rfl ?_
    refine cont_done ?_
    refine then_normal ?_
    refine cont_ret ?_
    refine then_ret ?_
    refine ret_two (.inl rfl) rfl 0 0 (.agg #[.int .i64 0, .int .i64 0, .int .i64 0, .int .i64 0]) (.int .i64 4) (by kernel_rfl) (by kernel_rfl) (by kernel_rfl) (by kernel_rfl) (fun w hT => ?_)
    exact ⟨by first | (rw [moveD_far (by omega)]; rfl) | (rw [moveD_near (by omega)]; first | (rw [chkQ_yes ‹_›]) | (rw [chkQ_no ‹_›]; rfl)), hT.post rfl⟩
  replace c5_ := of_decide_eq_false c5_
  refine bS [0, 0, 0] 14 0 [(1, .int .i64 x), (2, .int .i64 y), (3, .pointer (some ⟨b1, 0, none⟩)), (6, .pointer (some ⟨b2, 0, none⟩)), (22, .bool (decide (y > 2097152)))] ?_
  refine cont_done ?_
  refine then_normal ?_
  refine cont_split 22 (decide (y > 2097152)) rfl (fun c6_ => ?_) (fun c6_ => ?_)
  ·
    replace c6_ := of_decide_eq_true c6_
    refine cont_true rfl ?_
    refine cont_seq ?_
    refine cont_region 3 rfl ?_
    refine bS [0, 0, 0] 3 0 [(6, .pointer (some ⟨b2, 0, none⟩)), (7, .int .i64 4)] ?_
    refine cont_forget 1 rfl ?_
    refine cont_done ?_
    refine then_normal ?_
    refine cont_ret ?_
    refine then_ret ?_
    refine ret_two (.inl rfl) rfl 0 0 (.agg #[.int .i64 0, .int .i64 0, .int .i64 0, .int .i64 0]) (.int .i64 4) (by kernel_rfl) (by kernel_rfl) (by kernel_rfl) (by kernel_rfl) (fun w hT => ?_)
    exact ⟨by first | (rw [moveD_far (by omega)]; rfl) | (rw [moveD_near (by omega)]; first | (rw [chkQ_yes ‹_›]) | (rw [chkQ_no ‹_›]; rfl)), hT.post rfl⟩
  replace c6_ := of_decide_eq_false c6_
  refine cont_false rfl ?_
  refine cont_skip ?_
  refine then_normal ?_
  refine cont_seq ?_
  refine cont_region 19 rfl ?_
  refine bS [0, 1, 0, 0] 4 15 [(1, .int .i64 x), (2, .int .i64 y), (3, .pointer (some ⟨b1, 0, none⟩)), (6, .pointer (some ⟨b2, 0, none⟩)), (27, .int .i64 (IntKind.i64.wrap (a + x)))] ?_
  refine cont_recast 27 (.int .i64 (IntKind.i64.wrap (a + x))) (.int .i64 (a + x)) rfl (wrapI (by omega) (by omega)) ?_
  refine bS [0, 1, 0, 0] 8 11 [(1, .int .i64 x), (2, .int .i64 y), (3, .pointer (some ⟨b1, 0, none⟩)), (6, .pointer (some ⟨b2, 0, none⟩)), (27, .int .i64 (a + x)), (31, .int .i64 (IntKind.i64.wrap (b + y)))] ?_
  refine cont_recast 31 (.int .i64 (IntKind.i64.wrap (b + y))) (.int .i64 (b + y)) rfl (wrapI (by omega) (by omega)) ?_
  refine bS [0, 1, 0, 0] 12 7 [(2, .int .i64 y), (3, .pointer (some ⟨b1, 0, none⟩)), (6, .pointer (some ⟨b2, 0, none⟩)), (27, .int .i64 (a + x)), (31, .int .i64 (b + y)), (35, .int .i64 (IntKind.i64.wrap (c + x)))] ?_
  refine cont_recast 35 (.int .i64 (IntKind.i64.wrap (c + x))) (.int .i64 (c + x)) rfl (wrapI (by omega) (by omega)) ?_
  refine bS [0, 1, 0, 0] 16 3 [(6, .pointer (some ⟨b2, 0, none⟩)), (27, .int .i64 (a + x)), (31, .int .i64 (b + y)), (35, .int .i64 (c + x)), (39, .int .i64 (IntKind.i64.wrap (d + y)))] ?_
  refine cont_recast 39 (.int .i64 (IntKind.i64.wrap (d + y))) (.int .i64 (d + y)) rfl (wrapI (by omega) (by omega)) ?_
  refine cont_forget 1 rfl ?_
  refine batch1 [0, 0, 0] 19 0 (fun b7 => [(6, .pointer (some ⟨b2, 0, none⟩)), (8, .pointer (some ⟨b7, 0, none⟩))]) (fun b7 => [.cells b7 [.int .i64 (a + x), .int .i64 (b + y), .int .i64 (c + x), .int .i64 (d + y)] 25 true, .cells b2 [.int .i64 0, .int .i64 0, .int .i64 0, .int .i64 0] 25 true]) rfl rfl [6, 8] (fun _ => rfl) (fun b7 => by kernel_rfl) (fun b7 => by kernel_rfl) (fun b7 => ?_)
  refine cont_done ?_
  refine then_normal ?_
  refine cont_seq ?_
  refine cont_seq ?_
  refine cont_region 2 rfl ?_
  refine bS [0] 1 1 [(6, .pointer (some ⟨b2, 0, none⟩)), (8, .pointer (some ⟨b7, 0, none⟩)), (41, .agg #[.int .i64 (a + x), .int .i64 (b + y), .int .i64 (c + x), .int .i64 (d + y)])] ?_
  refine pl_step 2 0 rfl rfl ?_
  refine call_pure (d := 42) (.bool (mayQ ⟨(a + x), (b + y), (c + x), (d + y)⟩)) (by kernel_rfl) (fun w hT => refMayQ (a + x) (b + y) (c + x) (d + y) w) ?_
  refine cont_done ?_
  refine then_normal ?_
  refine cont_split 42 (mayQ ⟨(a + x), (b + y), (c + x), (d + y)⟩) rfl (fun c8_ => ?_) (fun c8_ => ?_)
  ·
    refine cont_true rfl ?_
    refine cont_seq ?_
    refine cont_region 3 rfl ?_
    refine batch0 [0, 1, 0] 3 0 [(6, .pointer (some ⟨b2, 0, none⟩)), (7, .int .i64 0)] [.cells b7 [.int .i64 (a + x), .int .i64 (b + y), .int .i64 (c + x), .int .i64 (d + y)] 25 true, .cells b2 [.int .i64 (a + x), .int .i64 (b + y), .int .i64 (c + x), .int .i64 (d + y)] 25 true] rfl rfl (by kernel_rfl) (by kernel_rfl) ?_
    refine cont_forget 0 rfl ?_
    refine cont_done ?_
    refine then_normal ?_
    refine cont_ret ?_
    refine then_ret ?_
    refine ret_two (.inl rfl) rfl 0 0 (.agg #[.int .i64 (a + x), .int .i64 (b + y), .int .i64 (c + x), .int .i64 (d + y)]) (.int .i64 0) (by kernel_rfl) (by kernel_rfl) (by kernel_rfl) (by kernel_rfl) (fun w hT => ?_)
    exact ⟨by first | (rw [moveD_far (by omega)]; rfl) | (rw [moveD_near (by omega)]; first | (rw [chkQ_yes ‹_›]) | (rw [chkQ_no ‹_›]; rfl)), hT.post rfl⟩
  refine cont_false rfl ?_
  refine cont_skip ?_
  refine then_normal ?_
  refine cont_seq ?_
  refine cont_region 3 rfl ?_
  refine bS [0, 1, 0] 3 0 [(6, .pointer (some ⟨b2, 0, none⟩)), (7, .int .i64 4)] ?_
  refine cont_forget 0 rfl ?_
  refine cont_done ?_
  refine then_normal ?_
  refine cont_ret ?_
  refine ret_two (.inl rfl) rfl 0 0 (.agg #[.int .i64 0, .int .i64 0, .int .i64 0, .int .i64 0]) (.int .i64 4) (by kernel_rfl) (by kernel_rfl) (by kernel_rfl) (by kernel_rfl) (fun w hT => ?_)
  exact ⟨by first | (rw [moveD_far (by omega)]; rfl) | (rw [moveD_near (by omega)]; first | (rw [chkQ_yes ‹_›]) | (rw [chkQ_no ‹_›]; rfl)), hT.post rfl⟩

theorem movEach (a b c d : Int) (bc1 : Nat) (cc1 : Int) (bc2 : Nat) (cc2 : Int) (w : World) (hT0 : Tab w w [.ro bc1 [.int .i64 cc1] 3, .ro bc2 [.int .i64 cc2] 3]) (ha : -2000000 ≤ a ∧ a ≤ 2000000) (hb : -2000000 ≤ b ∧ b ≤ 2000000) (hc : -2000000 ≤ c ∧ c ≤ 2000000) (hd : -2000000 ≤ d ∧ d ≤ 2000000) :
    Calls Try.prog 63 #[.agg #[.int .i64 a, .int .i64 b, .int .i64 c, .int .i64 d], .pointer (some ⟨bc1, 0, none⟩), .pointer (some ⟨bc2, 0, none⟩)] w fun e w' => e = .returned (.tuple #[.agg #[.int .i64 (((moveP cc1 cc2 ⟨a, b, c, d⟩).1).x0), .int .i64 (((moveP cc1 cc2 ⟨a, b, c, d⟩).1).y0), .int .i64 (((moveP cc1 cc2 ⟨a, b, c, d⟩).1).x1), .int .i64 (((moveP cc1 cc2 ⟨a, b, c, d⟩).1).y1)], .int .i64 ((moveP cc1 cc2 ⟨a, b, c, d⟩).2)]) ∧ Below w.heap.size w w' := by
  refine enter 12 [(0, .agg #[.int .i64 a, .int .i64 b, .int .i64 c, .int .i64 d]), (1, .pointer (some ⟨bc1, 0, none⟩)), (2, .pointer (some ⟨bc2, 0, none⟩))] [.ro bc1 [.int .i64 cc1] 3, .ro bc2 [.int .i64 cc2] 3] Try.func63 rfl Try.ntmps63 rfl (by kernel_rfl) hT0 ?_
  refine cont_seq ?_
  refine cont_region 3 rfl ?_
  refine batch2 [0, 0, 0] 3 0 (fun b1 b2 => [(1, .pointer (some ⟨bc1, 0, none⟩)), (2, .pointer (some ⟨bc2, 0, none⟩)), (3, .pointer (some ⟨b1, 0, none⟩)), (4, .pointer (some ⟨b2, 0, none⟩))]) (fun b1 b2 => [.cells b2 [.int .i64 0, .int .i64 0, .int .i64 0, .int .i64 0] 25 true, .cells b1 [.int .i64 a, .int .i64 b, .int .i64 c, .int .i64 d] 25 true, .ro bc1 [.int .i64 cc1] 3, .ro bc2 [.int .i64 cc2] 3]) rfl rfl [1, 2, 3, 4] (fun _ _ => rfl) (fun b1 b2 => by kernel_rfl) (fun b1 b2 => by kernel_rfl) (fun b1 b2 => ?_)
  refine cont_done ?_
  refine then_normal ?_
  refine cont_seq ?_
  refine cont_region 8 rfl ?_
  refine bS [1, 2, 3] 3 5 [(4, .pointer (some ⟨b2, 0, none⟩)), (6, .agg #[.int .i64 a, .int .i64 b, .int .i64 c, .int .i64 d]), (7, .int .i64 cc1), (8, .int .i64 cc2)] ?_
  refine cont_forget 1 rfl ?_
  refine pl_step 4 4 rfl rfl ?_
  refine call_pure (d := 9) (.tuple #[.agg #[.int .i64 (((moveP cc1 cc2 ⟨a, b, c, d⟩).1).x0), .int .i64 (((moveP cc1 cc2 ⟨a, b, c, d⟩).1).y0), .int .i64 (((moveP cc1 cc2 ⟨a, b, c, d⟩).1).x1), .int .i64 (((moveP cc1 cc2 ⟨a, b, c, d⟩).1).y1)], .int .i64 ((moveP cc1 cc2 ⟨a, b, c, d⟩).2)]) (by kernel_rfl) (fun w hT => rectMovQ a b c d cc1 cc2 w (by omega) (by omega) (by omega) (by omega)) ?_
  refine batch0 [0, 0, 0, 0] 8 0 [(4, .pointer (some ⟨b2, 0, none⟩)), (5, .int .i64 ((moveP cc1 cc2 ⟨a, b, c, d⟩).2))] [.cells b2 [.int .i64 (((moveP cc1 cc2 ⟨a, b, c, d⟩).1).x0), .int .i64 (((moveP cc1 cc2 ⟨a, b, c, d⟩).1).y0), .int .i64 (((moveP cc1 cc2 ⟨a, b, c, d⟩).1).x1), .int .i64 (((moveP cc1 cc2 ⟨a, b, c, d⟩).1).y1)] 25 true, .ro bc1 [.int .i64 cc1] 3, .ro bc2 [.int .i64 cc2] 3] rfl rfl (by kernel_rfl) (by kernel_rfl) ?_
  refine cont_done ?_
  refine then_normal ?_
  refine cont_ret ?_
  refine ret_two (.inl rfl) rfl 0 0 (.agg #[.int .i64 (((moveP cc1 cc2 ⟨a, b, c, d⟩).1).x0), .int .i64 (((moveP cc1 cc2 ⟨a, b, c, d⟩).1).y0), .int .i64 (((moveP cc1 cc2 ⟨a, b, c, d⟩).1).x1), .int .i64 (((moveP cc1 cc2 ⟨a, b, c, d⟩).1).y1)]) (.int .i64 ((moveP cc1 cc2 ⟨a, b, c, d⟩).2)) (by kernel_rfl) (by kernel_rfl) (by kernel_rfl) (by kernel_rfl) (fun w hT => ?_)
  exact ⟨rfl, hT.post rfl⟩

theorem sclEach (a b c d : Int) (bc1 : Nat) (cc1 : Int) (w : World) (hT0 : Tab w w [.ro bc1 [.int .i64 cc1] 3]) (ha : -2000000 ≤ a ∧ a ≤ 2000000) (hb : -2000000 ≤ b ∧ b ≤ 2000000) (hc : -2000000 ≤ c ∧ c ≤ 2000000) (hd : -2000000 ≤ d ∧ d ≤ 2000000) :
    Calls Try.prog 66 #[.agg #[.int .i64 a, .int .i64 b, .int .i64 c, .int .i64 d], .pointer (some ⟨bc1, 0, none⟩)] w fun e w' => e = .returned (.tuple #[.agg #[.int .i64 (((scaleR cc1 ⟨a, b, c, d⟩).1).x0), .int .i64 (((scaleR cc1 ⟨a, b, c, d⟩).1).y0), .int .i64 (((scaleR cc1 ⟨a, b, c, d⟩).1).x1), .int .i64 (((scaleR cc1 ⟨a, b, c, d⟩).1).y1)], .int .i64 ((scaleR cc1 ⟨a, b, c, d⟩).2)]) ∧ Below w.heap.size w w' := by
  refine enter 10 [(0, .agg #[.int .i64 a, .int .i64 b, .int .i64 c, .int .i64 d]), (1, .pointer (some ⟨bc1, 0, none⟩))] [.ro bc1 [.int .i64 cc1] 3] Try.func66 rfl Try.ntmps66 rfl (by kernel_rfl) hT0 ?_
  refine cont_seq ?_
  refine cont_region 3 rfl ?_
  refine batch2 [0, 0, 0] 3 0 (fun b1 b2 => [(1, .pointer (some ⟨bc1, 0, none⟩)), (2, .pointer (some ⟨b1, 0, none⟩)), (3, .pointer (some ⟨b2, 0, none⟩))]) (fun b1 b2 => [.cells b2 [.int .i64 0, .int .i64 0, .int .i64 0, .int .i64 0] 25 true, .cells b1 [.int .i64 a, .int .i64 b, .int .i64 c, .int .i64 d] 25 true, .ro bc1 [.int .i64 cc1] 3]) rfl rfl [1, 2, 3] (fun _ _ => rfl) (fun b1 b2 => by kernel_rfl) (fun b1 b2 => by kernel_rfl) (fun b1 b2 => ?_)
  refine cont_done ?_
  refine then_normal ?_
  refine cont_seq ?_
  refine cont_region 7 rfl ?_
  refine bS [1, 2] 2 5 [(3, .pointer (some ⟨b2, 0, none⟩)), (5, .agg #[.int .i64 a, .int .i64 b, .int .i64 c, .int .i64 d]), (6, .int .i64 cc1)] ?_
  refine cont_forget 1 rfl ?_
  refine pl_step 3 4 rfl rfl ?_
  refine call_pure (d := 7) (.tuple #[.agg #[.int .i64 (((scaleR cc1 ⟨a, b, c, d⟩).1).x0), .int .i64 (((scaleR cc1 ⟨a, b, c, d⟩).1).y0), .int .i64 (((scaleR cc1 ⟨a, b, c, d⟩).1).x1), .int .i64 (((scaleR cc1 ⟨a, b, c, d⟩).1).y1)], .int .i64 ((scaleR cc1 ⟨a, b, c, d⟩).2)]) (by kernel_rfl) (fun w hT => rectSclQ a b c d cc1 w) ?_
  refine batch0 [0, 0, 0, 0] 7 0 [(3, .pointer (some ⟨b2, 0, none⟩)), (4, .int .i64 ((scaleR cc1 ⟨a, b, c, d⟩).2))] [.cells b2 [.int .i64 (((scaleR cc1 ⟨a, b, c, d⟩).1).x0), .int .i64 (((scaleR cc1 ⟨a, b, c, d⟩).1).y0), .int .i64 (((scaleR cc1 ⟨a, b, c, d⟩).1).x1), .int .i64 (((scaleR cc1 ⟨a, b, c, d⟩).1).y1)] 25 true, .ro bc1 [.int .i64 cc1] 3] rfl rfl (by kernel_rfl) (by kernel_rfl) ?_
  refine cont_done ?_
  refine then_normal ?_
  refine cont_ret ?_
  refine ret_two (.inl rfl) rfl 0 0 (.agg #[.int .i64 (((scaleR cc1 ⟨a, b, c, d⟩).1).x0), .int .i64 (((scaleR cc1 ⟨a, b, c, d⟩).1).y0), .int .i64 (((scaleR cc1 ⟨a, b, c, d⟩).1).x1), .int .i64 (((scaleR cc1 ⟨a, b, c, d⟩).1).y1)]) (.int .i64 ((scaleR cc1 ⟨a, b, c, d⟩).2)) (by kernel_rfl) (by kernel_rfl) (by kernel_rfl) (by kernel_rfl) (fun w hT => ?_)
  exact ⟨rfl, hT.post rfl⟩

theorem regEach1 (A : Option Addr) (g o n cap : Nat) (xs : List Rect) (fk : FuncId) (f : Rect → Rect × Int) (bc1 : Nat) (cc1 : Int) (w : World) (hT0 : Tab w w [.gen (rdE (A) g o n 4 (rvals xs)), .ro bc1 [.int .i64 cc1] 3]) (hE : Enters Try.prog fk) (hf : ∀ (r : Rect) (w : World), FarR r → Tab w w [.ro bc1 [.int .i64 cc1] 3] → Calls Try.prog fk #[.agg #[.int .i64 r.x0, .int .i64 r.y0, .int .i64 r.x1, .int .i64 r.y1], .pointer (some ⟨bc1, 0, none⟩)] w fun e w' => e = .returned (.tuple #[.agg #[.int .i64 (((f r).1).x0), .int .i64 (((f r).1).y0), .int .i64 (((f r).1).x1), .int .i64 (((f r).1).y1)], .int .i64 ((f r).2)]) ∧ Below w.heap.size w w') (hfar : ∀ r ∈ xs, FarR r) (hn : n ≤ 1000000000000) :
    Calls Try.prog 62 #[.slice A n cap, .func (.func fk) #[] #[.pointer (some ⟨bc1, 0, none⟩)]] w fun e w' => ∃ (A_ : Option Addr) (g_ k_ cp_ : Nat), e = .returned (.tuple #[.slice A_ k_ cp_, .int .i64 (eachE f xs)]) ∧ Tab w w' [.gen (rowE (A_) g_ k_ cp_ 25 4 (rvals (eachR f xs)) true)] := by
  obtain ⟨hra, hrl⟩ := Rd.factsR (hT0.ok 0 _ rfl)
  refine enter 32 [(0, .slice A n cap), (1, .func (.func fk) #[] #[.pointer (some ⟨bc1, 0, none⟩)])] [.gen (rdE (A) g o n 4 (rvals xs)), .ro bc1 [.int .i64 cc1] 3] Try.func62 rfl Try.ntmps62 rfl (by kernel_rfl) hT0 ?_
  refine cont_seq ?_
  refine cont_region 2 rfl ?_
  refine bS [0, 0] 2 0 [(0, .slice A n cap), (1, .func (.func fk) #[] #[.pointer (some ⟨bc1, 0, none⟩)])] ?_
  refine cont_done ?_
  refine then_normal ?_
  refine cont_seq ?_
  refine cont_region 1 rfl ?_
  refine bS [0] 1 0 [(0, .slice A n cap), (1, .func (.func fk) #[] #[.pointer (some ⟨bc1, 0, none⟩)]), (6, .slice none 0 0)] ?_
  refine cont_done ?_
  refine then_normal ?_
  refine cont_seq ?_
  refine cont_seq ?_
  refine cont_region 3 rfl ?_
  refine bS [0, 0, 0] 3 0 [(1, .func (.func fk) #[] #[.pointer (some ⟨bc1, 0, none⟩)]), (6, .slice none 0 0), (11, .slice A n cap), (12, .int .i64 (n : Int)), (13, .int .i64 0)] ?_
  refine cont_done ?_
  refine then_normal ?_
  refine cont_block ?_
  refine cont_nilrow 25 4 ?_
  refine cont_norm [(1, .func (.func fk) #[] #[.pointer (some ⟨bc1, 0, none⟩)]), (6, .slice none 0 0), (11, .slice A n cap), (12, .int .i64 (n : Int)), (13, .int .i64 0)] [.gen (rowE (none) 0 0 0 25 4 (rvals []) true), .gen (rdE (A) g o n 4 (rvals xs)), .ro bc1 [.int .i64 cc1] 3] (by kernel_rfl) rfl ?_
  refine cont_rowEqR 0 ([]) ((xs.take 0).map fun r => (f r).1) rfl (by simp) ?_
  refine cont_loop (α := Nat × Nat × Option Addr × Nat × Nat) (fun x_ : Nat × Nat × Option Addr × Nat × Nat => x_.1 ≤ n ∧ x_.2.1 ≤ x_.1 ∧ ∀ j, j < x_.1 → (f (rget xs j)).2 = 0) (fun x_ : Nat × Nat × Option Addr × Nat × Nat => [(1, .func (.func fk) #[] #[.pointer (some ⟨bc1, 0, none⟩)]), (6, .slice x_.2.2.1 x_.2.1 x_.2.2.2.2), (11, .slice A n cap), (12, .int .i64 (n : Int)), (13, .int .i64 (x_.1 : Int))]) (fun x_ : Nat × Nat × Option Addr × Nat × Nat => [.gen (rowE (x_.2.2.1) x_.2.2.2.1 x_.2.1 x_.2.2.2.2 25 4 (rvals ((xs.take x_.1).map fun r => (f r).1)) true), .gen (rdE (A) g o n 4 (rvals xs)), .ro bc1 [.int .i64 cc1] 3]) (fun x_ : Nat × Nat × Option Addr × Nat × Nat => n - x_.1) (0, 0, none, 0, 0) (show (0) ≤ n ∧ (0) ≤ (0) ∧ ∀ j, j < (0) → (f (rget xs j)).2 = 0 from ⟨by omega, by omega, fun j hj => by omega⟩) (by kernel_rfl) (by kernel_rfl) ?_
  rintro ⟨i, k, Aq, gq, cq⟩ hinv2_
  replace hinv2_ : i ≤ n ∧ k ≤ i ∧ ∀ j, j < i → (f (rget xs j)).2 = 0 := hinv2_
  refine cont_norm [(1, .func (.func fk) #[] #[.pointer (some ⟨bc1, 0, none⟩)]), (6, .slice Aq k cq), (11, .slice A n cap), (12, .int .i64 (n : Int)), (13, .int .i64 (i : Int))] [.gen (rowE (Aq) gq k cq 25 4 (rvals ((xs.take i).map fun r => (f r).1)) true), .gen (rdE (A) g o n 4 (rvals xs)), .ro bc1 [.int .i64 cc1] 3] (by kernel_rfl) rfl ?_
  obtain ⟨hi, hk, hns⟩ := hinv2_
  have hFi : i < n → FarR (rget xs i) := fun h_ => hfar _ (rget_mem (by omega))
  refine cont_seq ?_
  refine cont_region 1 rfl ?_
  refine bS [0] 1 0 [(1, .func (.func fk) #[] #[.pointer (some ⟨bc1, 0, none⟩)]), (6, .slice Aq k cq), (11, .slice A n cap), (12, .int .i64 (n : Int)), (13, .int .i64 (i : Int)), (14, .bool (decide ((i : Int) < (n : Int))))] ?_
  refine cont_done ?_
  refine then_normal ?_
  refine cont_seq ?_
  refine cont_split 14 (decide ((i : Int) < (n : Int))) rfl (fun c3_ => ?_) (fun c3_ => ?_)
  ·
    replace c3_ := of_decide_eq_true c3_
    refine cont_true rfl ?_
    refine cont_skip ?_
    refine then_normal ?_
    refine cont_seq ?_
    refine cont_block ?_
    refine cont_seq ?_
    refine cont_region 4 rfl ?_
    refine pl_step 1 3 rfl rfl ?_
    refine cont_recast 11 (.slice A n cap) (.slice (some ⟨g, o, none⟩) n cap) rfl (by rw [hra (by omega)]) ?_
    refine sem_step 15 (Instr.indexAt 22 (.slice (some ⟨g, o, none⟩) n cap) (.int .i64 (i : Int))) (.pointer (some ⟨g, o + i * 4, none⟩)) (by kernel_rfl) (fun w hT => run_indexAt (e := 25) (sz := 4) _ (by kernel_rfl) (by kernel_rfl) (by omega) (by omega) (by omega) w) ?_
    refine pl_step 2 2 rfl rfl ?_
    refine sem_step 16 (Instr.loadAt 25 (.pointer (some ⟨g, o + i * 4, none⟩))) (.agg #[.int .i64 ((rget xs i).x0), .int .i64 ((rget xs i).y0), .int .i64 ((rget xs i).x1), .int .i64 ((rget xs i).y1)]) (by kernel_rfl) (fun w hT => run_loadN (m := 4) (cs := rcells (rget xs i)) (by kernel_rfl) (by kernel_rfl) rfl (Rd.rect (hT.ok 1 _ rfl) (by omega))) ?_
    refine batch1 [0, 0] 4 0 (fun b4 => [(1, .func (.func fk) #[] #[.pointer (some ⟨bc1, 0, none⟩)]), (6, .slice Aq k cq), (8, .pointer (some ⟨b4, 0, none⟩)), (11, .slice (some ⟨g, o, none⟩) n cap), (12, .int .i64 (n : Int)), (13, .int .i64 (i : Int))]) (fun b4 => [.cells b4 [.int .i64 ((rget xs i).x0), .int .i64 ((rget xs i).y0), .int .i64 ((rget xs i).x1), .int .i64 ((rget xs i).y1)] 25 true, .gen (rowE (Aq) gq k cq 25 4 (rvals ((xs.take i).map fun r => (f r).1)) true), .gen (rdE (A) g o n 4 (rvals xs)), .ro bc1 [.int .i64 cc1] 3]) rfl rfl [1, 6, 8, 11, 12, 13] (fun _ => rfl) (fun b4 => by kernel_rfl) (fun b4 => by kernel_rfl) (fun b4 => ?_)
    refine cont_done ?_
    refine then_normal ?_
    refine cont_seq ?_
    refine cont_region 9 rfl ?_
    refine bS [0, 0] 2 7 [(1, .func (.func fk) #[] #[.pointer (some ⟨bc1, 0, none⟩)]), (6, .slice Aq k cq), (11, .slice (some ⟨g, o, none⟩) n cap), (12, .int .i64 (n : Int)), (13, .int .i64 (i : Int)), (18, .func (.func fk) #[] #[.pointer (some ⟨bc1, 0, none⟩)]), (19, .agg #[.int .i64 ((rget xs i).x0), .int .i64 ((rget xs i).y0), .int .i64 ((rget xs i).x1), .int .i64 ((rget xs i).y1)])] ?_
    refine cont_forget 0 rfl ?_
    refine pl_step 3 6 rfl rfl ?_
    refine call_pureF (d := 20) (.tuple #[.agg #[.int .i64 (((f (rget xs i)).1).x0), .int .i64 (((f (rget xs i)).1).y0), .int .i64 (((f (rget xs i)).1).x1), .int .i64 (((f (rget xs i)).1).y1)], .int .i64 ((f (rget xs i)).2)]) (by kernel_rfl) hE (fun w hT => hf (rget xs i) w (hfar _ (rget_mem (by omega))) (hT.viewRo (.cons (i := 2) rfl Vw.ro .nil) rfl)) ?_
    refine batch1 [0, 0, 0, 0, 0, 0] 9 0 (fun b5 => [(1, .func (.func fk) #[] #[.pointer (some ⟨bc1, 0, none⟩)]), (6, .slice Aq k cq), (9, .pointer (some ⟨b5, 0, none⟩)), (10, .int .i64 ((f (rget xs i)).2)), (11, .slice (some ⟨g, o, none⟩) n cap), (12, .int .i64 (n : Int)), (13, .int .i64 (i : Int))]) (fun b5 => [.cells b5 [.int .i64 (((f (rget xs i)).1).x0), .int .i64 (((f (rget xs i)).1).y0), .int .i64 (((f (rget xs i)).1).x1), .int .i64 (((f (rget xs i)).1).y1)] 25 true, .gen (rowE (Aq) gq k cq 25 4 (rvals ((xs.take i).map fun r => (f r).1)) true), .gen (rdE (A) g o n 4 (rvals xs)), .ro bc1 [.int .i64 cc1] 3]) rfl rfl [1, 6, 9, 10, 11, 12, 13] (fun _ => rfl) (fun b5 => by kernel_rfl) (fun b5 => by kernel_rfl) (fun b5 => ?_)
    refine cont_done ?_
    refine then_normal ?_
    refine cont_seq ?_
    refine cont_seq ?_
    refine cont_region 2 rfl ?_
    refine bS [0, 0] 2 0 [(1, .func (.func fk) #[] #[.pointer (some ⟨bc1, 0, none⟩)]), (6, .slice Aq k cq), (9, .pointer (some ⟨b5, 0, none⟩)), (10, .int .i64 ((f (rget xs i)).2)), (11, .slice (some ⟨g, o, none⟩) n cap), (12, .int .i64 (n : Int)), (13, .int .i64 (i : Int)), (24, .bool (((f (rget xs i)).2) != 0))] ?_
    refine cont_done ?_
    refine then_normal ?_
    refine cont_split 24 (((f (rget xs i)).2) != 0) rfl (fun c6_ => ?_) (fun c6_ => ?_)
    ·
      replace c6_ := ne_of_bne c6_
      refine cont_true rfl ?_
      refine cont_seq ?_
      refine cont_region 3 rfl ?_
      refine bS [0, 0, 0] 3 0 [(4, .slice none 0 0), (5, .int .i64 ((f (rget xs i)).2))] ?_
      refine cont_forget 0 rfl ?_
      refine cont_done ?_
      refine then_normal ?_
      refine cont_ret ?_
      refine then_ret ?_
      refine blk_ret ?_
      refine then_ret ?_
      refine then_ret ?_
      refine blk_ret ?_
      refine then_ret ?_
      refine ret_two (.inl rfl) rfl 0 0 (.slice none 0 0) (.int .i64 ((f (rget xs i)).2)) (by kernel_rfl) (by kernel_rfl) (by kernel_rfl) (by kernel_rfl) (fun w hT => ?_)
      replace hT := hT.erase 2 (fun e h hw => by cases h; first | rfl | cases hw)
      replace hT := hT.erase 1 (fun e h hw => by cases h; first | rfl | cases hw)
      replace hT := hT.erase 0 (fun e h hw => by cases h; first | rfl | cases hw)
      have he_ : eachE f xs = (f (rget xs i)).2 := eachE_at (by omega) hns (by assumption)
      rw [eachR_none (by rw [he_]; assumption), he_]
      exact ⟨none, 0, 0, 0, rfl, hT.nilR _ _⟩
    replace c6_ := eq_of_bne_false c6_
    refine cont_false rfl ?_
    refine cont_skip ?_
    refine then_normal ?_
    refine cont_region 5 rfl ?_
    refine batch1 [0, 0, 0] 3 2 (fun b7 => [(1, .func (.func fk) #[] #[.pointer (some ⟨bc1, 0, none⟩)]), (11, .slice (some ⟨g, o, none⟩) n cap), (12, .int .i64 (n : Int)), (13, .int .i64 (i : Int)), (26, .slice Aq k cq), (28, .slice (some ⟨b7, 0, none⟩) 1 1)]) (fun b7 => [.cells b7 [.int .i64 (((f (rget xs i)).1).x0), .int .i64 (((f (rget xs i)).1).y0), .int .i64 (((f (rget xs i)).1).x1), .int .i64 (((f (rget xs i)).1).y1)] 25 true, .cells b5 [.int .i64 (((f (rget xs i)).1).x0), .int .i64 (((f (rget xs i)).1).y0), .int .i64 (((f (rget xs i)).1).x1), .int .i64 (((f (rget xs i)).1).y1)] 25 true, .gen (rowE (Aq) gq k cq 25 4 (rvals ((xs.take i).map fun r => (f r).1)) true), .gen (rdE (A) g o n 4 (rvals xs)), .ro bc1 [.int .i64 cc1] 3]) rfl rfl [1, 11, 12, 13, 26, 28] (fun _ => rfl) (fun b7 => by kernel_rfl) (fun b7 => by kernel_rfl) (fun b7 => ?_)
    refine cont_forget 1 rfl ?_
    refine pl_step 4 1 rfl rfl ?_
    refine sem_stepW (α := Option Addr × Nat × Nat) 29 (Builtin.append_ #[22, 22] 22 #[.slice Aq k cq, .slice (some ⟨b7, 0, none⟩) 1 1]) (fun x_ => .slice x_.1 (k + 1) x_.2.2) (fun x_ => [.cells b7 [.int .i64 (((f (rget xs i)).1).x0), .int .i64 (((f (rget xs i)).1).y0), .int .i64 (((f (rget xs i)).1).x1), .int .i64 (((f (rget xs i)).1).y1)] 25 true, .gen (rowE (x_.1) x_.2.1 (k + 1) x_.2.2 25 4 (rvals (((xs.take i).map fun r => (f r).1) ++ [(⟨((f (rget xs i)).1).x0, ((f (rget xs i)).1).y0, ((f (rget xs i)).1).x1, ((f (rget xs i)).1).y1⟩ : Rect)])) true), .gen (rdE (A) g o n 4 (rvals xs)), .ro bc1 [.int .i64 cc1] 3]) (fun _ => True) (by kernel_rfl) (fun w hT => append_own (n' := (k + 1)) (z := .agg #[.int .i64 0, .int .i64 0, .int .i64 0, .int .i64 0]) hT (i := 1) (bytes := 32) rfl (by kernel_rfl) (by kernel_rfl) rfl (by decide) (by decide) (Rd.ofCells (vals := rvals [(⟨((f (rget xs i)).1).x0, ((f (rget xs i)).1).y0, ((f (rget xs i)).1).x1, ((f (rget xs i)).1).y1⟩ : Rect)]) (hT.ok 0 _ rfl) rfl rfl) (rvals_one [(⟨((f (rget xs i)).1).x0, ((f (rget xs i)).1).y0, ((f (rget xs i)).1).x1, ((f (rget xs i)).1).y1⟩ : Rect)]) (by omega) (rvals_append ((xs.take i).map fun r => (f r).1) [(⟨((f (rget xs i)).1).x0, ((f (rget xs i)).1).y0, ((f (rget xs i)).1).x1, ((f (rget xs i)).1).y1⟩ : Rect)]) rfl) ?_
    rintro ⟨A8, g8, cp8⟩ -
    refine cont_norm [(1, .func (.func fk) #[] #[.pointer (some ⟨bc1, 0, none⟩)]), (11, .slice (some ⟨g, o, none⟩) n cap), (12, .int .i64 (n : Int)), (13, .int .i64 (i : Int)), (26, .slice Aq k cq), (28, .slice (some ⟨b7, 0, none⟩) 1 1), (29, .slice A8 (k + 1) cp8)] [.cells b7 [.int .i64 (((f (rget xs i)).1).x0), .int .i64 (((f (rget xs i)).1).y0), .int .i64 (((f (rget xs i)).1).x1), .int .i64 (((f (rget xs i)).1).y1)] 25 true, .gen (rowE (A8) g8 (k + 1) cp8 25 4 (rvals (((xs.take i).map fun r => (f r).1) ++ [(⟨((f (rget xs i)).1).x0, ((f (rget xs i)).1).y0, ((f (rget xs i)).1).x1, ((f (rget xs i)).1).y1⟩ : Rect)])) true), .gen (rdE (A) g o n 4 (rvals xs)), .ro bc1 [.int .i64 cc1] 3] (by kernel_rfl) rfl ?_
    refine cont_fact (F := (0 < (k + 1) → (A8 : Option Addr) = some ⟨g8, 0, none⟩) ∧ (((xs.take i).map fun r => (f r).1) ++ [(⟨((f (rget xs i)).1).x0, ((f (rget xs i)).1).y0, ((f (rget xs i)).1).x1, ((f (rget xs i)).1).y1⟩ : Rect)]).length = (k + 1) ∧ (k + 1) ≤ cp8 ∧ cp8 ≤ maxLen) (fun w hT => Row.factsR (hT.ok 1 _ rfl)) (fun hr9_ => ?_)
    obtain ⟨hr9_a, hr9_l, hr9_c, hr9_m⟩ := hr9_
    unfold maxLen at hr9_m
    refine bS [0] 5 0 [(1, .func (.func fk) #[] #[.pointer (some ⟨bc1, 0, none⟩)]), (6, .slice A8 (k + 1) cp8), (11, .slice (some ⟨g, o, none⟩) n cap), (12, .int .i64 (n : Int)), (13, .int .i64 (i : Int))] ?_
    refine cont_forget 0 rfl ?_
    refine cont_done ?_
    refine blk_normal ?_
    refine then_normal ?_
    refine cont_region 2 rfl ?_
    refine bS [0] 1 1 [(1, .func (.func fk) #[] #[.pointer (some ⟨bc1, 0, none⟩)]), (6, .slice A8 (k + 1) cp8), (11, .slice (some ⟨g, o, none⟩) n cap), (12, .int .i64 (n : Int)), (30, .int .i64 (IntKind.i64.wrap ((i : Int) + 1)))] ?_
    refine cont_recast 30 (.int .i64 (IntKind.i64.wrap ((i : Int) + 1))) (.int .i64 ((i : Int) + 1)) rfl (wrapI (by omega) (by omega)) ?_
    refine bS [0] 2 0 [(1, .func (.func fk) #[] #[.pointer (some ⟨bc1, 0, none⟩)]), (6, .slice A8 (k + 1) cp8), (11, .slice (some ⟨g, o, none⟩) n cap), (12, .int .i64 (n : Int)), (13, .int .i64 ((i : Int) + 1))] ?_
    refine cont_done ?_
    refine then_normal ?_
    refine cont_recast 11 (.slice (some ⟨g, o, none⟩) n cap) (.slice A n cap) rfl (by rw [hra (by omega)]) ?_
    refine cont_rowEqR 0 (((xs.take i).map fun r => (f r).1) ++ [(⟨((f (rget xs i)).1).x0, ((f (rget xs i)).1).y0, ((f (rget xs i)).1).x1, ((f (rget xs i)).1).y1⟩ : Rect)]) ((xs.take (i + 1)).map fun r => (f r).1) rfl (mapR_put (f := f) (by omega)) ?_
    refine cont_again (i + 1, (k + 1), A8, g8, cp8) (show (i + 1) ≤ n ∧ ((k + 1)) ≤ (i + 1) ∧ ∀ j, j < (i + 1) → (f (rget xs j)).2 = 0 from ⟨by omega, by omega, fun j hj => by rcases Nat.lt_succ_iff_lt_or_eq.1 hj with h_ | h_; exact hns j h_; subst h_; assumption⟩) (show n - (i + 1) < n - i from by omega) (by kernel_rfl) (by kernel_rfl)
  replace c3_ := of_decide_eq_false c3_
  refine cont_false rfl ?_
  refine cont_exit ?_
  refine then_exit ?_
  refine then_exit ?_
  refine blk_exit ?_
  refine then_normal ?_
  refine cont_seq ?_
  refine cont_region 3 rfl ?_
  refine bS [0, 0, 0] 3 0 [(4, .slice Aq k cq), (5, .int .i64 0)] ?_
  refine cont_done ?_
  refine then_normal ?_
  refine cont_ret ?_
  refine ret_two (.inl rfl) rfl 0 0 (.slice Aq k cq) (.int .i64 0) (by kernel_rfl) (by kernel_rfl) (by kernel_rfl) (by kernel_rfl) (fun w hT => ?_)
  replace hT := hT.erase 2 (fun e h hw => by cases h; first | rfl | cases hw)
  replace hT := hT.erase 1 (fun e h hw => by cases h; first | rfl | cases hw)
  have he_ : eachE f xs = 0 := eachE_ok (fun j hj => hns j (by omega))
  rw [show i = n by omega, List.take_of_length_le (show xs.length ≤ n by omega), eachR_all he_] at hT
  rw [he_]
  exact ⟨_, _, _, _, rfl, hT⟩

theorem regEach2 (A : Option Addr) (g o n cap : Nat) (xs : List Rect) (fk : FuncId) (f : Rect → Rect × Int) (bc1 : Nat) (cc1 : Int) (bc2 : Nat) (cc2 : Int) (w : World) (hT0 : Tab w w [.gen (rdE (A) g o n 4 (rvals xs)), .ro bc1 [.int .i64 cc1] 3, .ro bc2 [.int .i64 cc2] 3]) (hE : Enters Try.prog fk) (hf : ∀ (r : Rect) (w : World), FarR r → Tab w w [.ro bc1 [.int .i64 cc1] 3, .ro bc2 [.int .i64 cc2] 3] → Calls Try.prog fk #[.agg #[.int .i64 r.x0, .int .i64 r.y0, .int .i64 r.x1, .int .i64 r.y1], .pointer (some ⟨bc1, 0, none⟩), .pointer (some ⟨bc2, 0, none⟩)] w fun e w' => e = .returned (.tuple #[.agg #[.int .i64 (((f r).1).x0), .int .i64 (((f r).1).y0), .int .i64 (((f r).1).x1), .int .i64 (((f r).1).y1)], .int .i64 ((f r).2)]) ∧ Below w.heap.size w w') (hfar : ∀ r ∈ xs, FarR r) (hn : n ≤ 1000000000000) :
    Calls Try.prog 62 #[.slice A n cap, .func (.func fk) #[] #[.pointer (some ⟨bc1, 0, none⟩), .pointer (some ⟨bc2, 0, none⟩)]] w fun e w' => ∃ (A_ : Option Addr) (g_ k_ cp_ : Nat), e = .returned (.tuple #[.slice A_ k_ cp_, .int .i64 (eachE f xs)]) ∧ Tab w w' [.gen (rowE (A_) g_ k_ cp_ 25 4 (rvals (eachR f xs)) true)] := by
  obtain ⟨hra, hrl⟩ := Rd.factsR (hT0.ok 0 _ rfl)
  refine enter 32 [(0, .slice A n cap), (1, .func (.func fk) #[] #[.pointer (some ⟨bc1, 0, none⟩), .pointer (some ⟨bc2, 0, none⟩)])] [.gen (rdE (A) g o n 4 (rvals xs)), .ro bc1 [.int .i64 cc1] 3, .ro bc2 [.int .i64 cc2] 3] Try.func62 rfl Try.ntmps62 rfl (by kernel_rfl) hT0 ?_
  refine cont_seq ?_
  refine cont_region 2 rfl ?_
  refine bS [0, 0] 2 0 [(0, .slice A n cap), (1, .func (.func fk) #[] #[.pointer (some ⟨bc1, 0, none⟩), .pointer (some ⟨bc2, 0, none⟩)])] ?_
  refine cont_done ?_
  refine then_normal ?_
  refine cont_seq ?_
  refine cont_region 1 rfl ?_
  refine bS [0] 1 0 [(0, .slice A n cap), (1, .func (.func fk) #[] #[.pointer (some ⟨bc1, 0, none⟩), .pointer (some ⟨bc2, 0, none⟩)]), (6, .slice none 0 0)] ?_
  refine cont_done ?_
  refine then_normal ?_
  refine cont_seq ?_
  refine cont_seq ?_
  refine cont_region 3 rfl ?_
  refine bS [0, 0, 0] 3 0 [(1, .func (.func fk) #[] #[.pointer (some ⟨bc1, 0, none⟩), .pointer (some ⟨bc2, 0, none⟩)]), (6, .slice none 0 0), (11, .slice A n cap), (12, .int .i64 (n : Int)), (13, .int .i64 0)] ?_
  refine cont_done ?_
  refine then_normal ?_
  refine cont_block ?_
  refine cont_nilrow 25 4 ?_
  refine cont_norm [(1, .func (.func fk) #[] #[.pointer (some ⟨bc1, 0, none⟩), .pointer (some ⟨bc2, 0, none⟩)]), (6, .slice none 0 0), (11, .slice A n cap), (12, .int .i64 (n : Int)), (13, .int .i64 0)] [.gen (rowE (none) 0 0 0 25 4 (rvals []) true), .gen (rdE (A) g o n 4 (rvals xs)), .ro bc1 [.int .i64 cc1] 3, .ro bc2 [.int .i64 cc2] 3] (by kernel_rfl) rfl ?_
  refine cont_rowEqR 0 ([]) ((xs.take 0).map fun r => (f r).1) rfl (by simp) ?_
  refine cont_loop (α := Nat × Nat × Option Addr × Nat × Nat) (fun x_ : Nat × Nat × Option Addr × Nat × Nat => x_.1 ≤ n ∧ x_.2.1 ≤ x_.1 ∧ ∀ j, j < x_.1 → (f (rget xs j)).2 = 0) (fun x_ : Nat × Nat × Option Addr × Nat × Nat => [(1, .func (.func fk) #[] #[.pointer (some ⟨bc1, 0, none⟩), .pointer (some ⟨bc2, 0, none⟩)]), (6, .slice x_.2.2.1 x_.2.1 x_.2.2.2.2), (11, .slice A n cap), (12, .int .i64 (n : Int)), (13, .int .i64 (x_.1 : Int))]) (fun x_ : Nat × Nat × Option Addr × Nat × Nat => [.gen (rowE (x_.2.2.1) x_.2.2.2.1 x_.2.1 x_.2.2.2.2 25 4 (rvals ((xs.take x_.1).map fun r => (f r).1)) true), .gen (rdE (A) g o n 4 (rvals xs)), .ro bc1 [.int .i64 cc1] 3, .ro bc2 [.int .i64 cc2] 3]) (fun x_ : Nat × Nat × Option Addr × Nat × Nat => n - x_.1) (0, 0, none, 0, 0) (show (0) ≤ n ∧ (0) ≤ (0) ∧ ∀ j, j < (0) → (f (rget xs j)).2 = 0 from ⟨by omega, by omega, fun j hj => by omega⟩) (by kernel_rfl) (by kernel_rfl) ?_
  rintro ⟨i, k, Aq, gq, cq⟩ hinv2_
  replace hinv2_ : i ≤ n ∧ k ≤ i ∧ ∀ j, j < i → (f (rget xs j)).2 = 0 := hinv2_
  refine cont_norm [(1, .func (.func fk) #[] #[.pointer (some ⟨bc1, 0, none⟩), .pointer (some ⟨bc2, 0, none⟩)]), (6, .slice Aq k cq), (11, .slice A n cap), (12, .int .i64 (n : Int)), (13, .int .i64 (i : Int))] [.gen (rowE (Aq) gq k cq 25 4 (rvals ((xs.take i).map fun r => (f r).1)) true), .gen (rdE (A) g o n 4 (rvals xs)), .ro bc1 [.int .i64 cc1] 3, .ro bc2 [.int .i64 cc2] 3] (by kernel_rfl) rfl ?_
  obtain ⟨hi, hk, hns⟩ := hinv2_
  have hFi : i < n → FarR (rget xs i) := fun h_ => hfar _ (rget_mem (by omega))
  refine cont_seq ?_
  refine cont_region 1 rfl ?_
  refine bS [0] 1 0 [(1, .func (.func fk) #[] #[.pointer (some ⟨bc1, 0, none⟩), .pointer (some ⟨bc2, 0, none⟩)]), (6, .slice Aq k cq), (11, .slice A n cap), (12, .int .i64 (n : Int)), (13, .int .i64 (i : Int)), (14, .bool (decide ((i : Int) < (n : Int))))] ?_
  refine cont_done ?_
  refine then_normal ?_
  refine cont_seq ?_
  refine cont_split 14 (decide ((i : Int) < (n : Int))) rfl (fun c3_ => ?_) (fun c3_ => ?_)
  ·
    replace c3_ := of_decide_eq_true c3_
    refine cont_true rfl ?_
    refine cont_skip ?_
    refine then_normal ?_
    refine cont_seq ?_
    refine cont_block ?_
    refine cont_seq ?_
    refine cont_region 4 rfl ?_
    refine pl_step 1 3 rfl rfl ?_
    refine cont_recast 11 (.slice A n cap) (.slice (some ⟨g, o, none⟩) n cap) rfl (by rw [hra (by omega)]) ?_
    refine sem_step 15 (Instr.indexAt 22 (.slice (some ⟨g, o, none⟩) n cap) (.int .i64 (i : Int))) (.pointer (some ⟨g, o + i * 4, none⟩)) (by kernel_rfl) (fun w hT => run_indexAt (e := 25) (sz := 4) _ (by kernel_rfl) (by kernel_rfl) (by omega) (by omega) (by omega) w) ?_
    refine pl_step 2 2 rfl rfl ?_
    refine sem_step 16 (Instr.loadAt 25 (.pointer (some ⟨g, o + i * 4, none⟩))) (.agg #[.int .i64 ((rget xs i).x0), .int .i64 ((rget xs i).y0), .int .i64 ((rget xs i).x1), .int .i64 ((rget xs i).y1)]) (by kernel_rfl) (fun w hT => run_loadN (m := 4) (cs := rcells (rget xs i)) (by kernel_rfl) (by kernel_rfl) rfl (Rd.rect (hT.ok 1 _ rfl) (by omega))) ?_
    refine batch1 [0, 0] 4 0 (fun b4 => [(1, .func (.func fk) #[] #[.pointer (some ⟨bc1, 0, none⟩), .pointer (some ⟨bc2, 0, none⟩)]), (6, .slice Aq k cq), (8, .pointer (some ⟨b4, 0, none⟩)), (11, .slice (some ⟨g, o, none⟩) n cap), (12, .int .i64 (n : Int)), (13, .int .i64 (i : Int))]) (fun b4 => [.cells b4 [.int .i64 ((rget xs i).x0), .int .i64 ((rget xs i).y0), .int .i64 ((rget xs i).x1), .int .i64 ((rget xs i).y1)] 25 true, .gen (rowE (Aq) gq k cq 25 4 (rvals ((xs.take i).map fun r => (f r).1)) true), .gen (rdE (A) g o n 4 (rvals xs)), .ro bc1 [.int .i64 cc1] 3, .ro bc2 [.int .i64 cc2] 3]) rfl rfl [1, 6, 8, 11, 12, 13] (fun _ => rfl) (fun b4 => by kernel_rfl) (fun b4 => by kernel_rfl) (fun b4 => ?_)
    refine cont_done ?_
    refine then_normal ?_
    refine cont_seq ?_
    refine cont_region 9 rfl ?_
    refine bS [0, 0] 2 7 [(1, .func (.func fk) #[] #[.pointer (some ⟨bc1, 0, none⟩), .pointer (some ⟨bc2, 0, none⟩)]), (6, .slice Aq k cq), (11, .slice (some ⟨g, o, none⟩) n cap), (12, .int .i64 (n : Int)), (13, .int .i64 (i : Int)), (18, .func (.func fk) #[] #[.pointer (some ⟨bc1, 0, none⟩), .pointer (some ⟨bc2, 0, none⟩)]), (19, .agg #[.int .i64 ((rget xs i).x0), .int .i64 ((rget xs i).y0), .int .i64 ((rget xs i).x1), .int .i64 ((rget xs i).y1)])] ?_
    refine cont_forget 0 rfl ?_
    refine pl_step 3 6 rfl rfl ?_
    refine call_pureF (d := 20) (.tuple #[.agg #[.int .i64 (((f (rget xs i)).1).x0), .int .i64 (((f (rget xs i)).1).y0), .int .i64 (((f (rget xs i)).1).x1), .int .i64 (((f (rget xs i)).1).y1)], .int .i64 ((f (rget xs i)).2)]) (by kernel_rfl) hE (fun w hT => hf (rget xs i) w (hfar _ (rget_mem (by omega))) (hT.viewRo (.cons (i := 2) rfl Vw.ro (.cons (i := 3) rfl Vw.ro .nil)) rfl)) ?_
    refine batch1 [0, 0, 0, 0, 0, 0] 9 0 (fun b5 => [(1, .func (.func fk) #[] #[.pointer (some ⟨bc1, 0, none⟩), .pointer (some ⟨bc2, 0, none⟩)]), (6, .slice Aq k cq), (9, .pointer (some ⟨b5, 0, none⟩)), (10, .int .i64 ((f (rget xs i)).2)), (11, .slice (some ⟨g, o, none⟩) n cap), (12, .int .i64 (n : Int)), (13, .int .i64 (i : Int))]) (fun b5 => [.cells b5 [.int .i64 (((f (rget xs i)).1).x0), .int .i64 (((f (rget xs i)).1).y0), .int .i64 (((f (rget xs i)).1).x1), .int .i64 (((f (rget xs i)).1).y1)] 25 true, .gen (rowE (Aq) gq k cq 25 4 (rvals ((xs.take i).map fun r => (f r).1)) true), .gen (rdE (A) g o n 4 (rvals xs)), .ro bc1 [.int .i64 cc1] 3, .ro bc2 [.int .i64 cc2] 3]) rfl rfl [1, 6, 9, 10, 11, 12, 13] (fun _ => rfl) (fun b5 => by kernel_rfl) (fun b5 => by kernel_rfl) (fun b5 => ?_)
    refine cont_done ?_
    refine then_normal ?_
    refine cont_seq ?_
    refine cont_seq ?_
    refine cont_region 2 rfl ?_
    refine bS [0, 0] 2 0 [(1, .func (.func fk) #[] #[.pointer (some ⟨bc1, 0, none⟩), .pointer (some ⟨bc2, 0, none⟩)]), (6, .slice Aq k cq), (9, .pointer (some ⟨b5, 0, none⟩)), (10, .int .i64 ((f (rget xs i)).2)), (11, .slice (some ⟨g, o, none⟩) n cap), (12, .int .i64 (n : Int)), (13, .int .i64 (i : Int)), (24, .bool (((f (rget xs i)).2) != 0))] ?_
    refine cont_done ?_
    refine then_normal ?_
    refine cont_split 24 (((f (rget xs i)).2) != 0) rfl (fun c6_ => ?_) (fun c6_ => ?_)
    ·
      replace c6_ := ne_of_bne c6_
      refine cont_true rfl ?_
      refine cont_seq ?_
      refine cont_region 3 rfl ?_
      refine bS [0, 0, 0] 3 0 [(4, .slice none 0 0), (5, .int .i64 ((f (rget xs i)).2))] ?_
      refine cont_forget 0 rfl ?_
      refine cont_done ?_
      refine then_normal ?_
      refine cont_ret ?_
      refine then_ret ?_
      refine blk_ret ?_
      refine then_ret ?_
      refine then_ret ?_
      refine blk_ret ?_
      refine then_ret ?_
      refine ret_two (.inl rfl) rfl 0 0 (.slice none 0 0) (.int .i64 ((f (rget xs i)).2)) (by kernel_rfl) (by kernel_rfl) (by kernel_rfl) (by kernel_rfl) (fun w hT => ?_)
      replace hT := hT.erase 3 (fun e h hw => by cases h; first | rfl | cases hw)
      replace hT := hT.erase 2 (fun e h hw => by cases h; first | rfl | cases hw)
      replace hT := hT.erase 1 (fun e h hw => by cases h; first | rfl | cases hw)
      replace hT := hT.erase 0 (fun e h hw => by cases h; first | rfl | cases hw)
      have he_ : eachE f xs = (f (rget xs i)).2 := eachE_at (by omega) hns (by assumption)
      rw [eachR_none (by rw [he_]; assumption), he_]
      exact ⟨none, 0, 0, 0, rfl, hT.nilR _ _⟩
    replace c6_ := eq_of_bne_false c6_
    refine cont_false rfl ?_
    refine cont_skip ?_
    refine then_normal ?_
    refine cont_region 5 rfl ?_
    refine batch1 [0, 0, 0] 3 2 (fun b7 => [(1, .func (.func fk) #[] #[.pointer (some ⟨bc1, 0, none⟩), .pointer (some ⟨bc2, 0, none⟩)]), (11, .slice (some ⟨g, o, none⟩) n cap), (12, .int .i64 (n : Int)), (13, .int .i64 (i : Int)), (26, .slice Aq k cq), (28, .slice (some ⟨b7, 0, none⟩) 1 1)]) (fun b7 => [.cells b7 [.int .i64 (((f (rget xs i)).1).x0), .int .i64 (((f (rget xs i)).1).y0), .int .i64 (((f (rget xs i)).1).x1), .int .i64 (((f (rget xs i)).1).y1)] 25 true, .cells b5 [.int .i64 (((f (rget xs i)).1).x0), .int .i64 (((f (rget xs i)).1).y0), .int .i64 (((f (rget xs i)).1).x1), .int .i64 (((f (rget xs i)).1).y1)] 25 true, .gen (rowE (Aq) gq k cq 25 4 (rvals ((xs.take i).map fun r => (f r).1)) true), .gen (rdE (A) g o n 4 (rvals xs)), .ro bc1 [.int .i64 cc1] 3, .ro bc2 [.int .i64 cc2] 3]) rfl rfl [1, 11, 12, 13, 26, 28] (fun _ => rfl) (fun b7 => by kernel_rfl) (fun b7 => by kernel_rfl) (fun b7 => ?_)
    refine cont_forget 1 rfl ?_
    refine pl_step 4 1 rfl rfl ?_
    refine sem_stepW (α := Option Addr × Nat × Nat) 29 (Builtin.append_ #[22, 22] 22 #[.slice Aq k cq, .slice (some ⟨b7, 0, none⟩) 1 1]) (fun x_ => .slice x_.1 (k + 1) x_.2.2) (fun x_ => [.cells b7 [.int .i64 (((f (rget xs i)).1).x0), .int .i64 (((f (rget xs i)).1).y0), .int .i64 (((f (rget xs i)).1).x1), .int .i64 (((f (rget xs i)).1).y1)] 25 true, .gen (rowE (x_.1) x_.2.1 (k + 1) x_.2.2 25 4 (rvals (((xs.take i).map fun r => (f r).1) ++ [(⟨((f (rget xs i)).1).x0, ((f (rget xs i)).1).y0, ((f (rget xs i)).1).x1, ((f (rget xs i)).1).y1⟩ : Rect)])) true), .gen (rdE (A) g o n 4 (rvals xs)), .ro bc1 [.int .i64 cc1] 3, .ro bc2 [.int .i64 cc2] 3]) (fun _ => True) (by kernel_rfl) (fun w hT => append_own (n' := (k + 1)) (z := .agg #[.int .i64 0, .int .i64 0, .int .i64 0, .int .i64 0]) hT (i := 1) (bytes := 32) rfl (by kernel_rfl) (by kernel_rfl) rfl (by decide) (by decide) (Rd.ofCells (vals := rvals [(⟨((f (rget xs i)).1).x0, ((f (rget xs i)).1).y0, ((f (rget xs i)).1).x1, ((f (rget xs i)).1).y1⟩ : Rect)]) (hT.ok 0 _ rfl) rfl rfl) (rvals_one [(⟨((f (rget xs i)).1).x0, ((f (rget xs i)).1).y0, ((f (rget xs i)).1).x1, ((f (rget xs i)).1).y1⟩ : Rect)]) (by omega) (rvals_append ((xs.take i).map fun r => (f r).1) [(⟨((f (rget xs i)).1).x0, ((f (rget xs i)).1).y0, ((f (rget xs i)).1).x1, ((f (rget xs i)).1).y1⟩ : Rect)]) rfl) ?_
    rintro ⟨A8, g8, cp8⟩ -
    refine cont_norm [(1, .func (.func fk) #[] #[.pointer (some ⟨bc1, 0, none⟩), .pointer (some ⟨bc2, 0, none⟩)]), (11, .slice (some ⟨g, o, none⟩) n cap), (12, .int .i64 (n : Int)), (13, .int .i64 (i : Int)), (26, .slice Aq k cq), (28, .slice (some ⟨b7, 0, none⟩) 1 1), (29, .slice A8 (k + 1) cp8)] [.cells b7 [.int .i64 (((f (rget xs i)).1).x0), .int .i64 (((f (rget xs i)).1).y0), .int .i64 (((f (rget xs i)).1).x1), .int .i64 (((f (rget xs i)).1).y1)] 25 true, .gen (rowE (A8) g8 (k + 1) cp8 25 4 (rvals (((xs.take i).map fun r => (f r).1) ++ [(⟨((f (rget xs i)).1).x0, ((f (rget xs i)).1).y0, ((f (rget xs i)).1).x1, ((f (rget xs i)).1).y1⟩ : Rect)])) true), .gen (rdE (A) g o n 4 (rvals xs)), .ro bc1 [.int .i64 cc1] 3, .ro bc2 [.int .i64 cc2] 3] (by kernel_rfl) rfl ?_
    refine cont_fact (F := (0 < (k + 1) → (A8 : Option Addr) = some ⟨g8, 0, none⟩) ∧ (((xs.take i).map fun r => (f r).1) ++ [(⟨((f (rget xs i)).1).x0, ((f (rget xs i)).1).y0, ((f (rget xs i)).1).x1, ((f (rget xs i)).1).y1⟩ : Rect)]).length = (k + 1) ∧ (k + 1) ≤ cp8 ∧ cp8 ≤ maxLen) (fun w hT => Row.factsR (hT.ok 1 _ rfl)) (fun hr9_ => ?_)
    obtain ⟨hr9_a, hr9_l, hr9_c, hr9_m⟩ := hr9_
    unfold maxLen at hr9_m
    refine bS [0] 5 0 [(1, .func (.func fk) #[] #[.pointer (some ⟨bc1, 0, none⟩), .pointer (some ⟨bc2, 0, none⟩)]), (6, .slice A8 (k + 1) cp8), (11, .slice (some ⟨g, o, none⟩) n cap), (12, .int .i64 (n : Int)), (13, .int .i64 (i : Int))] ?_
    refine cont_forget 0 rfl ?_
    refine cont_done ?_
    refine blk_normal ?_
    refine then_normal ?_
    refine cont_region 2 rfl ?_
    refine bS [0] 1 1 [(1, .func (.func fk) #[] #[.pointer (some ⟨bc1, 0, none⟩), .pointer (some ⟨bc2, 0, none⟩)]), (6, .slice A8 (k + 1) cp8), (11, .slice (some ⟨g, o, none⟩) n cap), (12, .int .i64 (n : Int)), (30, .int .i64 (IntKind.i64.wrap ((i : Int) + 1)))] ?_
    refine cont_recast 30 (.int .i64 (IntKind.i64.wrap ((i : Int) + 1))) (.int .i64 ((i : Int) + 1)) rfl (wrapI (by omega) (by omega)) ?_
    refine bS [0] 2 0 [(1, .func (.func fk) #[] #[.pointer (some ⟨bc1, 0, none⟩), .pointer (some ⟨bc2, 0, none⟩)]), (6, .slice A8 (k + 1) cp8), (11, .slice (some ⟨g, o, none⟩) n cap), (12, .int .i64 (n : Int)), (13, .int .i64 ((i : Int) + 1))] ?_
    refine cont_done ?_
    refine then_normal ?_
    refine cont_recast 11 (.slice (some ⟨g, o, none⟩) n cap) (.slice A n cap) rfl (by rw [hra (by omega)]) ?_
    refine cont_rowEqR 0 (((xs.take i).map fun r => (f r).1) ++ [(⟨((f (rget xs i)).1).x0, ((f (rget xs i)).1).y0, ((f (rget xs i)).1).x1, ((f (rget xs i)).1).y1⟩ : Rect)]) ((xs.take (i + 1)).map fun r => (f r).1) rfl (mapR_put (f := f) (by omega)) ?_
    refine cont_again (i + 1, (k + 1), A8, g8, cp8) (show (i + 1) ≤ n ∧ ((k + 1)) ≤ (i + 1) ∧ ∀ j, j < (i + 1) → (f (rget xs j)).2 = 0 from ⟨by omega, by omega, fun j hj => by rcases Nat.lt_succ_iff_lt_or_eq.1 hj with h_ | h_; exact hns j h_; subst h_; assumption⟩) (show n - (i + 1) < n - i from by omega) (by kernel_rfl) (by kernel_rfl)
  replace c3_ := of_decide_eq_false c3_
  refine cont_false rfl ?_
  refine cont_exit ?_
  refine then_exit ?_
  refine then_exit ?_
  refine blk_exit ?_
  refine then_normal ?_
  refine cont_seq ?_
  refine cont_region 3 rfl ?_
  refine bS [0, 0, 0] 3 0 [(4, .slice Aq k cq), (5, .int .i64 0)] ?_
  refine cont_done ?_
  refine then_normal ?_
  refine cont_ret ?_
  refine ret_two (.inl rfl) rfl 0 0 (.slice Aq k cq) (.int .i64 0) (by kernel_rfl) (by kernel_rfl) (by kernel_rfl) (by kernel_rfl) (fun w hT => ?_)
  replace hT := hT.erase 3 (fun e h hw => by cases h; first | rfl | cases hw)
  replace hT := hT.erase 2 (fun e h hw => by cases h; first | rfl | cases hw)
  replace hT := hT.erase 1 (fun e h hw => by cases h; first | rfl | cases hw)
  have he_ : eachE f xs = 0 := eachE_ok (fun j hj => hns j (by omega))
  rw [show i = n by omega, List.take_of_length_le (show xs.length ≤ n by omega), eachR_all he_] at hT
  rw [he_]
  exact ⟨_, _, _, _, rfl, hT⟩

theorem regMove (A : Option Addr) (g o n cap : Nat) (xs : List Rect) (x y : Int) (w : World) (hT0 : Tab w w [.gen (rdE (A) g o n 4 (rvals xs))]) (hfar : ∀ r ∈ xs, FarR r) (hn : n ≤ 1000000000000) :
    Calls Try.prog 37 #[.slice A n cap, .int .i64 x, .int .i64 y] w fun e w' => ∃ (A_ : Option Addr) (g_ k_ cp_ : Nat), e = .returned (.tuple #[.slice A_ k_ cp_, .int .i64 (eachE (moveP x y) xs)]) ∧ Tab w w' [.gen (rowE (A_) g_ k_ cp_ 25 4 (rvals (eachR (moveP x y) xs)) true)] := by
  obtain ⟨hra, hrl⟩ := Rd.factsR (hT0.ok 0 _ rfl)
  refine enter 13 [(0, .slice A n cap), (1, .int .i64 x), (2, .int .i64 y)] [.gen (rdE (A) g o n 4 (rvals xs))] Try.func37 rfl Try.ntmps37 rfl (by kernel_rfl) hT0 ?_
  refine cont_seq ?_
  refine cont_region 4 rfl ?_
  refine batch2 [0, 0, 0, 0] 4 0 (fun b1 b2 => [(0, .slice A n cap), (4, .pointer (some ⟨b1, 0, none⟩)), (5, .pointer (some ⟨b2, 0, none⟩))]) (fun b1 b2 => [.cells b2 [.int .i64 y] 3 true, .cells b1 [.int .i64 x] 3 true, .gen (rdE (A) g o n 4 (rvals xs))]) rfl rfl [0, 4, 5] (fun _ _ => rfl) (fun b1 b2 => by kernel_rfl) (fun b1 b2 => by kernel_rfl) (fun b1 b2 => ?_)
  refine cont_done ?_
  refine then_normal ?_
  refine cont_seq ?_
  refine cont_region 7 rfl ?_
  refine bS [0, 0] 2 5 [(8, .slice A n cap), (9, .func (.func 63) #[] #[.pointer (some ⟨b1, 0, none⟩), .pointer (some ⟨b2, 0, none⟩)])] ?_
  refine pl_step 3 4 rfl rfl ?_
  refine call_gen (d := 10) (α := Option Addr × Nat × Nat × Nat) (fun x_ => .tuple #[.slice x_.1 x_.2.2.1 x_.2.2.2, .int .i64 (eachE (moveP x y) xs)]) (fun x_ => [.gen (rowE (x_.1) x_.2.1 x_.2.2.1 x_.2.2.2 25 4 (rvals (eachR (moveP x y) xs)) true), .cells b2 [.int .i64 y] 3 true, .cells b1 [.int .i64 x] 3 true, .gen (rdE (A) g o n 4 (rvals xs))]) (fun x_ => True) (by kernel_rfl) (fun w hT => (regEach2 A g o n cap xs 63 (moveP x y) b1 x b2 y w (hT.viewRo (.cons (i := 2) rfl Vw.rd (.cons (i := 1) rfl Vw.roc (.cons (i := 0) rfl Vw.roc .nil))) rfl) (fun _ => by kernel_rfl) (fun r w hF hT => movEach r.x0 r.y0 r.x1 r.y1 b1 x b2 y w hT hF.a hF.b hF.c hF.d) hfar (by omega)).mono fun e w' ⟨A3, g4, k5, cp6, he_, ht_⟩ => ⟨(A3, g4, k5, cp6), he_, trivial, hT.news ht_ rfl⟩) ?_
  rintro ⟨A3, g4, k5, cp6⟩ hf7_
  refine cont_norm [(8, .slice A n cap), (9, .func (.func 63) #[] #[.pointer (some ⟨b1, 0, none⟩), .pointer (some ⟨b2, 0, none⟩)]), (10, .tuple #[.slice A3 k5 cp6, .int .i64 (eachE (moveP x y) xs)])] [.gen (rowE (A3) g4 k5 cp6 25 4 (rvals (eachR (moveP x y) xs)) true), .cells b2 [.int .i64 y] 3 true, .cells b1 [.int .i64 x] 3 true, .gen (rdE (A) g o n 4 (rvals xs))] (by kernel_rfl) rfl ?_
  refine cont_fact (F := (0 < k5 → (A3 : Option Addr) = some ⟨g4, 0, none⟩) ∧ (eachR (moveP x y) xs).length = k5 ∧ k5 ≤ cp6 ∧ cp6 ≤ maxLen) (fun w hT => Row.factsR (hT.ok 0 _ rfl)) (fun hr8_ => ?_)
  obtain ⟨hr8_a, hr8_l, hr8_c, hr8_m⟩ := hr8_
  unfold maxLen at hr8_m
  refine bS [0, 0, 0, 0] 7 0 [(6, .slice A3 k5 cp6), (7, .int .i64 (eachE (moveP x y) xs))] ?_
  refine cont_forget 1 rfl ?_
  refine cont_forget 1 rfl ?_
  refine cont_done ?_
  refine then_normal ?_
  refine cont_ret ?_
  refine ret_two (.inl rfl) rfl 0 0 (.slice A3 k5 cp6) (.int .i64 (eachE (moveP x y) xs)) (by kernel_rfl) (by kernel_rfl) (by kernel_rfl) (by kernel_rfl) (fun w hT => ?_)
  replace hT := hT.erase 1 (fun e h hw => by cases h; first | rfl | cases hw)
  exact ⟨_, _, _, _, rfl, hT⟩

theorem refMoveL (A : Option Addr) (g o n cap : Nat) (xs : List Rect) (x y : Int) (w : World) (hT0 : Tab w w [.gen (rdE (A) g o n 4 (rvals xs))]) (hfar : ∀ r ∈ xs, FarR r) (hn : n ≤ 1000000000000) :
    Calls Try.prog 38 #[.slice A n cap, .int .i64 x, .int .i64 y] w fun e w' => ∃ (A_ : Option Addr) (g_ k_ cp_ : Nat), e = .returned (.tuple #[.slice A_ k_ cp_, .int .i64 (eachE (moveD x y) xs)]) ∧ Tab w w' [.gen (rowE (A_) g_ k_ cp_ 25 4 (rvals (eachR (moveD x y) xs)) true)] := by
  obtain ⟨hra, hrl⟩ := Rd.factsR (hT0.ok 0 _ rfl)
  refine enter 36 [(0, .slice A n cap), (1, .int .i64 x), (2, .int .i64 y)] [.gen (rdE (A) g o n 4 (rvals xs))] Try.func38 rfl Try.ntmps38 rfl (by kernel_rfl) hT0 ?_
  refine cont_seq ?_
  refine cont_region 2 rfl ?_
  refine bS [0, 0] 2 0 [(0, .slice A n cap), (1, .int .i64 x), (2, .int .i64 y)] ?_
  refine cont_done ?_
  refine then_normal ?_
  refine cont_seq ?_
  refine cont_region 1 rfl ?_
  refine bS [0] 1 0 [(0, .slice A n cap), (1, .int .i64 x), (2, .int .i64 y), (8, .slice none 0 0)] ?_
  refine cont_done ?_
  refine then_normal ?_
  refine cont_seq ?_
  refine cont_seq ?_
  refine cont_region 1 rfl ?_
  refine bS [0] 1 0 [(0, .slice A n cap), (1, .int .i64 x), (2, .int .i64 y), (8, .slice none 0 0), (9, .int .i64 0)] ?_
  refine cont_done ?_
  refine then_normal ?_
  refine cont_block ?_
  refine cont_nilrow 25 4 ?_
  refine cont_norm [(0, .slice A n cap), (1, .int .i64 x), (2, .int .i64 y), (8, .slice none 0 0), (9, .int .i64 0)] [.gen (rowE (none) 0 0 0 25 4 (rvals []) true), .gen (rdE (A) g o n 4 (rvals xs))] (by kernel_rfl) rfl ?_
  refine cont_rowEqR 0 ([]) ((xs.take 0).map fun r => (moveD x y r).1) rfl (by simp) ?_
  refine cont_loop (α := Nat × Nat × Option Addr × Nat × Nat) (fun x_ : Nat × Nat × Option Addr × Nat × Nat => x_.1 ≤ n ∧ x_.2.1 ≤ x_.1 ∧ ∀ j, j < x_.1 → (moveD x y (rget xs j)).2 = 0) (fun x_ : Nat × Nat × Option Addr × Nat × Nat => [(0, .slice A n cap), (1, .int .i64 x), (2, .int .i64 y), (8, .slice x_.2.2.1 x_.2.1 x_.2.2.2.2), (9, .int .i64 (x_.1 : Int))]) (fun x_ : Nat × Nat × Option Addr × Nat × Nat => [.gen (rowE (x_.2.2.1) x_.2.2.2.1 x_.2.1 x_.2.2.2.2 25 4 (rvals ((xs.take x_.1).map fun r => (moveD x y r).1)) true), .gen (rdE (A) g o n 4 (rvals xs))]) (fun x_ : Nat × Nat × Option Addr × Nat × Nat => n - x_.1) (0, 0, none, 0, 0) (show (0) ≤ n ∧ (0) ≤ (0) ∧ ∀ j, j < (0) → (moveD x y (rget xs j)).2 = 0 from ⟨by omega, by omega, fun j hj => by omega⟩) (by kernel_rfl) (by kernel_rfl) ?_
  rintro ⟨i, k, Aq, gq, cq⟩ hinv2_
  replace hinv2_ : i ≤ n ∧ k ≤ i ∧ ∀ j, j < i → (moveD x y (rget xs j)).2 = 0 := hinv2_
  refine cont_norm [(0, .slice A n cap), (1, .int .i64 x), (2, .int .i64 y), (8, .slice Aq k cq), (9, .int .i64 (i : Int))] [.gen (rowE (Aq) gq k cq 25 4 (rvals ((xs.take i).map fun r => (moveD x y r).1)) true), .gen (rdE (A) g o n 4 (rvals xs))] (by kernel_rfl) rfl ?_
  obtain ⟨hi, hk, hns⟩ := hinv2_
  have hFi : i < n → FarR (rget xs i) := fun h_ => hfar _ (rget_mem (by omega))
  refine cont_seq ?_
  refine cont_seq ?_
  refine cont_region 4 rfl ?_
  refine bS [0, 0, 0, 0] 4 0 [(0, .slice A n cap), (1, .int .i64 x), (2, .int .i64 y), (8, .slice Aq k cq), (9, .int .i64 (i : Int)), (15, .bool (decide ((i : Int) < (n : Int))))] ?_
  refine cont_done ?_
  refine then_normal ?_
  refine cont_split 15 (decide ((i : Int) < (n : Int))) rfl (fun c3_ => ?_) (fun c3_ => ?_)
  ·
    replace c3_ := of_decide_eq_true c3_
    refine cont_true rfl ?_
    refine cont_skip ?_
    refine then_normal ?_
    refine cont_seq ?_
    refine cont_block ?_
    refine cont_seq ?_
    refine cont_region 13 rfl ?_
    obtain ⟨⟨_, _⟩, ⟨_, _⟩, ⟨_, _⟩, ⟨_, _⟩⟩ := hFi (by omega)
    refine bS [0, 0] 2 11 [(0, .slice A n cap), (1, .int .i64 x), (2, .int .i64 y), (8, .slice Aq k cq), (9, .int .i64 (i : Int)), (19, .slice A n cap), (20, .int .i64 (i : Int))] ?_
    refine pl_step 3 10 rfl rfl ?_
    refine cont_recast 19 (.slice A n cap) (.slice (some ⟨g, o, none⟩) n cap) rfl (by rw [hra (by omega)]) ?_
    refine sem_step 21 (Instr.indexAt 22 (.slice (some ⟨g, o, none⟩) n cap) (.int .i64 (i : Int))) (.pointer (some ⟨g, o + i * 4, none⟩)) (by kernel_rfl) (fun w hT => run_indexAt (e := 25) (sz := 4) _ (by kernel_rfl) (by kernel_rfl) (by omega) (by omega) (by omega) w) ?_
    refine pl_step 4 9 rfl rfl ?_
    refine sem_step 22 (Instr.loadAt 25 (.pointer (some ⟨g, o + i * 4, none⟩))) (.agg #[.int .i64 ((rget xs i).x0), .int .i64 ((rget xs i).y0), .int .i64 ((rget xs i).x1), .int .i64 ((rget xs i).y1)]) (by kernel_rfl) (fun w hT => run_loadN (m := 4) (cs := rcells (rget xs i)) (by kernel_rfl) (by kernel_rfl) rfl (Rd.rect (hT.ok 1 _ rfl) (by omega))) ?_
    refine bS [0, 0] 6 7 [(0, .slice A n cap), (1, .int .i64 x), (2, .int .i64 y), (8, .slice Aq k cq), (9, .int .i64 (i : Int)), (22, .agg #[.int .i64 ((rget xs i).x0), .int .i64 ((rget xs i).y0), .int .i64 ((rget xs i).x1), .int .i64 ((rget xs i).y1)]), (23, .int .i64 x), (24, .int .i64 y)] ?_
    refine pl_step 7 6 rfl rfl ?_
    refine call_pure (d := 25) (.tuple #[.agg #[.int .i64 (((moveD x y ⟨((rget xs i).x0), ((rget xs i).y0), ((rget xs i).x1), ((rget xs i).y1)⟩).1).x0), .int .i64 (((moveD x y ⟨((rget xs i).x0), ((rget xs i).y0), ((rget xs i).x1), ((rget xs i).y1)⟩).1).y0), .int .i64 (((moveD x y ⟨((rget xs i).x0), ((rget xs i).y0), ((rget xs i).x1), ((rget xs i).y1)⟩).1).x1), .int .i64 (((moveD x y ⟨((rget xs i).x0), ((rget xs i).y0), ((rget xs i).x1), ((rget xs i).y1)⟩).1).y1)], .int .i64 ((moveD x y ⟨((rget xs i).x0), ((rget xs i).y0), ((rget xs i).x1), ((rget xs i).y1)⟩).2)]) (by kernel_rfl) (fun w hT => refMovQ ((rget xs i).x0) ((rget xs i).y0) ((rget xs i).x1) ((rget xs i).y1) x y w (by omega) (by omega) (by omega) (by omega)) ?_
    refine batch1 [0, 0, 0, 0, 0, 0] 13 0 (fun b4 => [(0, .slice A n cap), (1, .int .i64 x), (2, .int .i64 y), (8, .slice Aq k cq), (9, .int .i64 (i : Int)), (10, .pointer (some ⟨b4, 0, none⟩)), (11, .int .i64 ((moveD x y ⟨((rget xs i).x0), ((rget xs i).y0), ((rget xs i).x1), ((rget xs i).y1)⟩).2))]) (fun b4 => [.cells b4 [.int .i64 (((moveD x y ⟨((rget xs i).x0), ((rget xs i).y0), ((rget xs i).x1), ((rget xs i).y1)⟩).1).x0), .int .i64 (((moveD x y ⟨((rget xs i).x0), ((rget xs i).y0), ((rget xs i).x1), ((rget xs i).y1)⟩).1).y0), .int .i64 (((moveD x y ⟨((rget xs i).x0), ((rget xs i).y0), ((rget xs i).x1), ((rget xs i).y1)⟩).1).x1), .int .i64 (((moveD x y ⟨((rget xs i).x0), ((rget xs i).y0), ((rget xs i).x1), ((rget xs i).y1)⟩).1).y1)] 25 true, .gen (rowE (Aq) gq k cq 25 4 (rvals ((xs.take i).map fun r => (moveD x y r).1)) true), .gen (rdE (A) g o n 4 (rvals xs))]) rfl rfl [0, 1, 2, 8, 9, 10, 11] (fun _ => rfl) (fun b4 => by kernel_rfl) (fun b4 => by kernel_rfl) (fun b4 => ?_)
    refine cont_done ?_
    refine then_normal ?_
    refine cont_seq ?_
    refine cont_seq ?_
    refine cont_region 2 rfl ?_
    refine bS [0, 0] 2 0 [(0, .slice A n cap), (1, .int .i64 x), (2, .int .i64 y), (8, .slice Aq k cq), (9, .int .i64 (i : Int)), (10, .pointer (some ⟨b4, 0, none⟩)), (11, .int .i64 ((moveD x y ⟨((rget xs i).x0), ((rget xs i).y0), ((rget xs i).x1), ((rget xs i).y1)⟩).2)), (29, .bool (((moveD x y ⟨((rget xs i).x0), ((rget xs i).y0), ((rget xs i).x1), ((rget xs i).y1)⟩).2) != 0))] ?_
    refine cont_done ?_
    refine then_normal ?_
    refine cont_split 29 (((moveD x y ⟨((rget xs i).x0), ((rget xs i).y0), ((rget xs i).x1), ((rget xs i).y1)⟩).2) != 0) rfl (fun c5_ => ?_) (fun c5_ => ?_)
    ·
      replace c5_ := ne_of_bne c5_
      refine cont_true rfl ?_
      refine cont_seq ?_
      refine cont_region 3 rfl ?_
      refine bS [0, 0, 0] 3 0 [(6, .slice none 0 0), (7, .int .i64 ((moveD x y ⟨((rget xs i).x0), ((rget xs i).y0), ((rget xs i).x1), ((rget xs i).y1)⟩).2))] ?_
      refine cont_forget 0 rfl ?_
      refine cont_done ?_
      refine then_normal ?_
      refine cont_ret ?_
      refine then_ret ?_
      refine blk_ret ?_
      refine then_ret ?_
      refine then_ret ?_
      refine blk_ret ?_
      refine then_ret ?_
      refine ret_two (.inl rfl) rfl 0 0 (.slice none 0 0) (.int .i64 ((moveD x y ⟨((rget xs i).x0), ((rget xs i).y0), ((rget xs i).x1), ((rget xs i).y1)⟩).2)) (by kernel_rfl) (by kernel_rfl) (by kernel_rfl) (by kernel_rfl) (fun w hT => ?_)
      replace hT := hT.erase 1 (fun e h hw => by cases h; first | rfl | cases hw)
      replace hT := hT.erase 0 (fun e h hw => by cases h; first | rfl | cases hw)
      have he_ : eachE (moveD x y) xs = (moveD x y (rget xs i)).2 := eachE_at (by omega) hns (by assumption)
      rw [eachR_none (by rw [he_]; assumption), he_]
      exact ⟨none, 0, 0, 0, rfl, hT.nilR _ _⟩
    replace c5_ := eq_of_bne_false c5_
    refine cont_false rfl ?_
    refine cont_skip ?_
    refine then_normal ?_
    refine cont_region 5 rfl ?_
    refine batch1 [0, 0, 0] 3 2 (fun b6 => [(0, .slice A n cap), (1, .int .i64 x), (2, .int .i64 y), (9, .int .i64 (i : Int)), (31, .slice Aq k cq), (33, .slice (some ⟨b6, 0, none⟩) 1 1)]) (fun b6 => [.cells b6 [.int .i64 (((moveD x y ⟨((rget xs i).x0), ((rget xs i).y0), ((rget xs i).x1), ((rget xs i).y1)⟩).1).x0), .int .i64 (((moveD x y ⟨((rget xs i).x0), ((rget xs i).y0), ((rget xs i).x1), ((rget xs i).y1)⟩).1).y0), .int .i64 (((moveD x y ⟨((rget xs i).x0), ((rget xs i).y0), ((rget xs i).x1), ((rget xs i).y1)⟩).1).x1), .int .i64 (((moveD x y ⟨((rget xs i).x0), ((rget xs i).y0), ((rget xs i).x1), ((rget xs i).y1)⟩).1).y1)] 25 true, .cells b4 [.int .i64 (((moveD x y ⟨((rget xs i).x0), ((rget xs i).y0), ((rget xs i).x1), ((rget xs i).y1)⟩).1).x0), .int .i64 (((moveD x y ⟨((rget xs i).x0), ((rget xs i).y0), ((rget xs i).x1), ((rget xs i).y1)⟩).1).y0), .int .i64 (((moveD x y ⟨((rget xs i).x0), ((rget xs i).y0), ((rget xs i).x1), ((rget xs i).y1)⟩).1).x1), .int .i64 (((moveD x y ⟨((rget xs i).x0), ((rget xs i).y0), ((rget xs i).x1), ((rget xs i).y1)⟩).1).y1)] 25 true, .gen (rowE (Aq) gq k cq 25 4 (rvals ((xs.take i).map fun r => (moveD x y r).1)) true), .gen (rdE (A) g o n 4 (rvals xs))]) rfl rfl [0, 1, 2, 9, 31, 33] (fun _ => rfl) (fun b6 => by kernel_rfl) (fun b6 => by kernel_rfl) (fun b6 => ?_)
    refine cont_forget 1 rfl ?_
    refine pl_step 4 1 rfl rfl ?_
    refine sem_stepW (α := Option Addr × Nat × Nat) 34 (Builtin.append_ #[22, 22] 22 #[.slice Aq k cq, .slice (some ⟨b6, 0, none⟩) 1 1]) (fun x_ => .slice x_.1 (k + 1) x_.2.2) (fun x_ => [.cells b6 [.int .i64 (((moveD x y ⟨((rget xs i).x0), ((rget xs i).y0), ((rget xs i).x1), ((rget xs i).y1)⟩).1).x0), .int .i64 (((moveD x y ⟨((rget xs i).x0), ((rget xs i).y0), ((rget xs i).x1), ((rget xs i).y1)⟩).1).y0), .int .i64 (((moveD x y ⟨((rget xs i).x0), ((rget xs i).y0), ((rget xs i).x1), ((rget xs i).y1)⟩).1).x1), .int .i64 (((moveD x y ⟨((rget xs i).x0), ((rget xs i).y0), ((rget xs i).x1), ((rget xs i).y1)⟩).1).y1)] 25 true, .gen (rowE (x_.1) x_.2.1 (k + 1) x_.2.2 25 4 (rvals (((xs.take i).map fun r => (moveD x y r).1) ++ [(⟨((moveD x y ⟨((rget xs i).x0), ((rget xs i).y0), ((rget xs i).x1), ((rget xs i).y1)⟩).1).x0, ((moveD x y ⟨((rget xs i).x0), ((rget xs i).y0), ((rget xs i).x1), ((rget xs i).y1)⟩).1).y0, ((moveD x y ⟨((rget xs i).x0), ((rget xs i).y0), ((rget xs i).x1), ((rget xs i).y1)⟩).1).x1, ((moveD x y ⟨((rget xs i).x0), ((rget xs i).y0), ((rget xs i).x1), ((rget xs i).y1)⟩).1).y1⟩ : Rect)])) true), .gen (rdE (A) g o n 4 (rvals xs))]) (fun _ => True) (by kernel_rfl) (fun w hT => append_own (n' := (k + 1)) (z := .agg #[.int .i64 0, .int .i64 0, .int .i64 0, .int .i64 0]) hT (i := 1) (bytes := 32) rfl (by kernel_rfl) (by kernel_rfl) rfl (by decide) (by decide) (Rd.ofCells (vals := rvals [(⟨((moveD x y ⟨((rget xs i).x0), ((rget xs i).y0), ((rget xs i).x1), ((rget xs i).y1)⟩).1).x0, ((moveD x y ⟨((rget xs i).x0), ((rget xs i).y0), ((rget xs i).x1), ((rget xs i).y1)⟩).1).y0, ((moveD x y ⟨((rget xs i).x0), ((rget xs i).y0), ((rget xs i).x1), ((rget xs i).y1)⟩).1).x1, ((moveD x y ⟨((rget xs i).x0), ((rget xs i).y0), ((rget xs i).x1), ((rget xs i).y1)⟩).1).y1⟩ : Rect)]) (hT.ok 0 _ rfl) rfl rfl) (rvals_one [(⟨((moveD x y ⟨((rget xs i).x0), ((rget xs i).y0), ((rget xs i).x1), ((rget xs i).y1)⟩).1).x0, ((moveD x y ⟨((rget xs i).x0), ((rget xs i).y0), ((rget xs i).x1), ((rget xs i).y1)⟩).1).y0, ((moveD x y ⟨((rget xs i).x0), ((rget xs i).y0), ((rget xs i).x1), ((rget xs i).y1)⟩).1).x1, ((moveD x y ⟨((rget xs i).x0), ((rget xs i).y0), ((rget xs i).x1), ((rget xs i).y1)⟩).1).y1⟩ : Rect)]) (by omega) (rvals_append ((xs.take i).map fun r => (moveD x y r).1) [(⟨((moveD x y ⟨((rget xs i).x0), ((rget xs i).y0), ((rget xs i).x1), ((rget xs i).y1)⟩).1).x0, ((moveD x y ⟨((rget xs i).x0), ((rget xs i).y0), ((rget xs i).x1), ((rget xs i).y1)⟩).1).y0, ((moveD x y ⟨((rget xs i).x0), ((rget xs i).y0), ((rget xs i).x1), ((rget xs i).y1)⟩).1).x1, ((moveD x y ⟨((rget xs i).x0), ((rget xs i).y0), ((rget xs i).x1), ((rget xs i).y1)⟩).1).y1⟩ : Rect)]) rfl) ?_
    rintro ⟨A7, g7, cp7⟩ -
    refine cont_norm [(0, .slice A n cap), (1, .int .i64 x), (2, .int .i64 y), (9, .int .i64 (i : Int)), (31, .slice Aq k cq), (33, .slice (some ⟨b6, 0, none⟩) 1 1), (34, .slice A7 (k + 1) cp7)] [.cells b6 [.int .i64 (((moveD x y ⟨((rget xs i).x0), ((rget xs i).y0), ((rget xs i).x1), ((rget xs i).y1)⟩).1).x0), .int .i64 (((moveD x y ⟨((rget xs i).x0), ((rget xs i).y0), ((rget xs i).x1), ((rget xs i).y1)⟩).1).y0), .int .i64 (((moveD x y ⟨((rget xs i).x0), ((rget xs i).y0), ((rget xs i).x1), ((rget xs i).y1)⟩).1).x1), .int .i64 (((moveD x y ⟨((rget xs i).x0), ((rget xs i).y0), ((rget xs i).x1), ((rget xs i).y1)⟩).1).y1)] 25 true, .gen (rowE (A7) g7 (k + 1) cp7 25 4 (rvals (((xs.take i).map fun r => (moveD x y r).1) ++ [(⟨((moveD x y ⟨((rget xs i).x0), ((rget xs i).y0), ((rget xs i).x1), ((rget xs i).y1)⟩).1).x0, ((moveD x y ⟨((rget xs i).x0), ((rget xs i).y0), ((rget xs i).x1), ((rget xs i).y1)⟩).1).y0, ((moveD x y ⟨((rget xs i).x0), ((rget xs i).y0), ((rget xs i).x1), ((rget xs i).y1)⟩).1).x1, ((moveD x y ⟨((rget xs i).x0), ((rget xs i).y0), ((rget xs i).x1), ((rget xs i).y1)⟩).1).y1⟩ : Rect)])) true), .gen (rdE (A) g o n 4 (rvals xs))] (by kernel_rfl) rfl ?_
    refine cont_fact (F := (0 < (k + 1) → (A7 : Option Addr) = some ⟨g7, 0, none⟩) ∧ (((xs.take i).map fun r => (moveD x y r).1) ++ [(⟨((moveD x y ⟨((rget xs i).x0), ((rget xs i).y0), ((rget xs i).x1), ((rget xs i).y1)⟩).1).x0, ((moveD x y ⟨((rget xs i).x0), ((rget xs i).y0), ((rget xs i).x1), ((rget xs i).y1)⟩).1).y0, ((moveD x y ⟨((rget xs i).x0), ((rget xs i).y0), ((rget xs i).x1), ((rget xs i).y1)⟩).1).x1, ((moveD x y ⟨((rget xs i).x0), ((rget xs i).y0), ((rget xs i).x1), ((rget xs i).y1)⟩).1).y1⟩ : Rect)]).length = (k + 1) ∧ (k + 1) ≤ cp7 ∧ cp7 ≤ maxLen) (fun w hT => Row.factsR (hT.ok 1 _ rfl)) (fun hr8_ => ?_)
    obtain ⟨hr8_a, hr8_l, hr8_c, hr8_m⟩ := hr8_
    unfold maxLen at hr8_m
    refine bS [0] 5 0 [(0, .slice A n cap), (1, .int .i64 x), (2, .int .i64 y), (8, .slice A7 (k + 1) cp7), (9, .int .i64 (i : Int))] ?_
    refine cont_forget 0 rfl ?_
    refine cont_done ?_
    refine blk_normal ?_
    refine then_normal ?_
    refine cont_region 3 rfl ?_
    refine bS [0, 0] 2 1 [(0, .slice A n cap), (1, .int .i64 x), (2, .int .i64 y), (8, .slice A7 (k + 1) cp7), (17, .int .i64 (IntKind.i64.wrap ((i : Int) + 1)))] ?_
    refine cont_recast 17 (.int .i64 (IntKind.i64.wrap ((i : Int) + 1))) (.int .i64 ((i : Int) + 1)) rfl (wrapI (by omega) (by omega)) ?_
    refine bS [0] 3 0 [(0, .slice A n cap), (1, .int .i64 x), (2, .int .i64 y), (8, .slice A7 (k + 1) cp7), (9, .int .i64 ((i : Int) + 1))] ?_
    refine cont_done ?_
    refine then_normal ?_
    refine cont_rowEqR 0 (((xs.take i).map fun r => (moveD x y r).1) ++ [(⟨((moveD x y ⟨((rget xs i).x0), ((rget xs i).y0), ((rget xs i).x1), ((rget xs i).y1)⟩).1).x0, ((moveD x y ⟨((rget xs i).x0), ((rget xs i).y0), ((rget xs i).x1), ((rget xs i).y1)⟩).1).y0, ((moveD x y ⟨((rget xs i).x0), ((rget xs i).y0), ((rget xs i).x1), ((rget xs i).y1)⟩).1).x1, ((moveD x y ⟨((rget xs i).x0), ((rget xs i).y0), ((rget xs i).x1), ((rget xs i).y1)⟩).1).y1⟩ : Rect)]) ((xs.take (i + 1)).map fun r => (moveD x y r).1) rfl (mapR_put (f := moveD x y) (by omega)) ?_
    refine cont_again (i + 1, (k + 1), A7, g7, cp7) (show (i + 1) ≤ n ∧ ((k + 1)) ≤ (i + 1) ∧ ∀ j, j < (i + 1) → (moveD x y (rget xs j)).2 = 0 from ⟨by omega, by omega, fun j hj => by rcases Nat.lt_succ_iff_lt_or_eq.1 hj with h_ | h_; exact hns j h_; subst h_; assumption⟩) (show n - (i + 1) < n - i from by omega) (by kernel_rfl) (by kernel_rfl)
  replace c3_ := of_decide_eq_false c3_
  refine cont_false rfl ?_
  refine cont_exit ?_
  refine then_exit ?_
  refine then_exit ?_
  refine blk_exit ?_
  refine then_normal ?_
  refine cont_seq ?_
  refine cont_region 3 rfl ?_
  refine bS [0, 0, 0] 3 0 [(6, .slice Aq k cq), (7, .int .i64 0)] ?_
  refine cont_done ?_
  refine then_normal ?_
  refine cont_ret ?_
  refine ret_two (.inl rfl) rfl 0 0 (.slice Aq k cq) (.int .i64 0) (by kernel_rfl) (by kernel_rfl) (by kernel_rfl) (by kernel_rfl) (fun w hT => ?_)
  replace hT := hT.erase 1 (fun e h hw => by cases h; first | rfl | cases hw)
  have he_ : eachE (moveD x y) xs = 0 := eachE_ok (fun j hj => hns j (by omega))
  rw [show i = n by omega, List.take_of_length_le (show xs.length ≤ n by omega), eachR_all he_] at hT
  rw [he_]
  exact ⟨_, _, _, _, rfl, hT⟩

theorem regScale (A : Option Addr) (g o n cap : Nat) (xs : List Rect) (m : Int) (w : World) (hT0 : Tab w w [.gen (rdE (A) g o n 4 (rvals xs))]) (hfar : ∀ r ∈ xs, FarR r) (hn : n ≤ 1000000000000) :
    Calls Try.prog 39 #[.slice A n cap, .int .i64 m] w fun e w' => ∃ (A_ : Option Addr) (g_ k_ cp_ : Nat), e = .returned (.tuple #[.slice A_ k_ cp_, .int .i64 (scaleE m xs)]) ∧ Tab w w' [.gen (rowE (A_) g_ k_ cp_ 25 4 (rvals (eachR (scaleR m) xs)) true)] := by
  obtain ⟨hra, hrl⟩ := Rd.factsR (hT0.ok 0 _ rfl)
  refine enter 17 [(0, .slice A n cap), (1, .int .i64 m)] [.gen (rdE (A) g o n 4 (rvals xs))] Try.func39 rfl Try.ntmps39 rfl (by kernel_rfl) hT0 ?_
  refine cont_seq ?_
  refine cont_region 3 rfl ?_
  refine batch1 [0, 0, 0] 3 0 (fun b1 => [(0, .slice A n cap), (3, .pointer (some ⟨b1, 0, none⟩))]) (fun b1 => [.cells b1 [.int .i64 m] 3 true, .gen (rdE (A) g o n 4 (rvals xs))]) rfl rfl [0, 3] (fun _ => rfl) (fun b1 => by kernel_rfl) (fun b1 => by kernel_rfl) (fun b1 => ?_)
  refine cont_done ?_
  refine then_normal ?_
  refine cont_seq ?_
  refine cont_seq ?_
  refine cont_region 6 rfl ?_
  refine bS [0, 0, 0] 3 3 [(0, .slice A n cap), (3, .pointer (some ⟨b1, 0, none⟩)), (8, .bool (decide (m < 1)))] ?_
  refine cont_split 8 (decide (m < 1)) rfl (fun c2_ => ?_) (fun c2_ => ?_)
  ·
    replace c2_ := of_decide_eq_true c2_
    refine bS [0, 0, 0] 6 0 [(0, .slice A n cap), (3, .pointer (some ⟨b1, 0, none⟩)), (11, .bool true)] ?_
    refine cont_done ?_
    refine then_normal ?_
    refine cont_true rfl ?_
    refine cont_seq ?_
    refine cont_region 2 rfl ?_
    refine bS [0, 0] 2 0 [(4, .slice none 0 0), (5, .int .i64 1)] ?_
    refine cont_forget 0 rfl ?_
    refine cont_done ?_
    refine then_normal ?_
    refine cont_ret ?_
    refine then_ret ?_
    refine ret_two (.inl rfl) rfl 0 0 (.slice none 0 0) (.int .i64 1) (by kernel_rfl) (by kernel_rfl) (by kernel_rfl) (by kernel_rfl) (fun w hT => ?_)
    replace hT := hT.erase 0 (fun e h hw => by cases h; first | rfl | cases hw)
    have he_ := scaleE_bad xs (n := m) (by omega)
    rw [he_.1, he_.2]
    exact ⟨none, 0, 0, 0, rfl, hT.nilR _ _⟩
  replace c2_ := of_decide_eq_false c2_
  refine bS [0, 0, 0] 6 0 [(0, .slice A n cap), (3, .pointer (some ⟨b1, 0, none⟩)), (11, .bool (decide (m > 8)))] ?_
  refine cont_done ?_
  refine then_normal ?_
  refine cont_split 11 (decide (m > 8)) rfl (fun c3_ => ?_) (fun c3_ => ?_)
  ·
    replace c3_ := of_decide_eq_true c3_
    refine cont_true rfl ?_
    refine cont_seq ?_
    refine cont_region 2 rfl ?_
    refine bS [0, 0] 2 0 [(4, .slice none 0 0), (5, .int .i64 1)] ?_
    refine cont_forget 0 rfl ?_
    refine cont_done ?_
    refine then_normal ?_
    refine cont_ret ?_
    refine then_ret ?_
    refine ret_two (.inl rfl) rfl 0 0 (.slice none 0 0) (.int .i64 1) (by kernel_rfl) (by kernel_rfl) (by kernel_rfl) (by kernel_rfl) (fun w hT => ?_)
    replace hT := hT.erase 0 (fun e h hw => by cases h; first | rfl | cases hw)
    have he_ := scaleE_bad xs (n := m) (by omega)
    rw [he_.1, he_.2]
    exact ⟨none, 0, 0, 0, rfl, hT.nilR _ _⟩
  replace c3_ := of_decide_eq_false c3_
  refine cont_false rfl ?_
  refine cont_skip ?_
  refine then_normal ?_
  refine cont_seq ?_
  refine cont_region 7 rfl ?_
  refine bS [0, 0] 2 5 [(12, .slice A n cap), (13, .func (.func 66) #[] #[.pointer (some ⟨b1, 0, none⟩)])] ?_
  refine pl_step 3 4 rfl rfl ?_
  refine call_gen (d := 14) (α := Option Addr × Nat × Nat × Nat) (fun x_ => .tuple #[.slice x_.1 x_.2.2.1 x_.2.2.2, .int .i64 (eachE (scaleR m) xs)]) (fun x_ => [.gen (rowE (x_.1) x_.2.1 x_.2.2.1 x_.2.2.2 25 4 (rvals (eachR (scaleR m) xs)) true), .cells b1 [.int .i64 m] 3 true, .gen (rdE (A) g o n 4 (rvals xs))]) (fun x_ => True) (by kernel_rfl) (fun w hT => (regEach1 A g o n cap xs 66 (scaleR m) b1 m w (hT.viewRo (.cons (i := 1) rfl Vw.rd (.cons (i := 0) rfl Vw.roc .nil)) rfl) (fun _ => by kernel_rfl) (fun r w hF hT => sclEach r.x0 r.y0 r.x1 r.y1 b1 m w hT hF.a hF.b hF.c hF.d) hfar (by omega)).mono fun e w' ⟨A4, g5, k6, cp7, he_, ht_⟩ => ⟨(A4, g5, k6, cp7), he_, trivial, hT.news ht_ rfl⟩) ?_
  rintro ⟨A4, g5, k6, cp7⟩ hf8_
  refine cont_norm [(12, .slice A n cap), (13, .func (.func 66) #[] #[.pointer (some ⟨b1, 0, none⟩)]), (14, .tuple #[.slice A4 k6 cp7, .int .i64 (eachE (scaleR m) xs)])] [.gen (rowE (A4) g5 k6 cp7 25 4 (rvals (eachR (scaleR m) xs)) true), .cells b1 [.int .i64 m] 3 true, .gen (rdE (A) g o n 4 (rvals xs))] (by kernel_rfl) rfl ?_
  refine cont_fact (F := (0 < k6 → (A4 : Option Addr) = some ⟨g5, 0, none⟩) ∧ (eachR (scaleR m) xs).length = k6 ∧ k6 ≤ cp7 ∧ cp7 ≤ maxLen) (fun w hT => Row.factsR (hT.ok 0 _ rfl)) (fun hr9_ => ?_)
  obtain ⟨hr9_a, hr9_l, hr9_c, hr9_m⟩ := hr9_
  unfold maxLen at hr9_m
  refine bS [0, 0, 0, 0] 7 0 [(4, .slice A4 k6 cp7), (5, .int .i64 (eachE (scaleR m) xs))] ?_
  refine cont_forget 1 rfl ?_
  refine cont_done ?_
  refine then_normal ?_
  refine cont_ret ?_
  refine ret_two (.inl rfl) rfl 0 0 (.slice A4 k6 cp7) (.int .i64 (eachE (scaleR m) xs)) (by kernel_rfl) (by kernel_rfl) (by kernel_rfl) (by kernel_rfl) (fun w hT => ?_)
  replace hT := hT.erase 1 (fun e h hw => by cases h; first | rfl | cases hw)
  rw [scaleE_good xs (by omega)]
  exact ⟨_, _, _, _, rfl, hT⟩

theorem refScaleL (A : Option Addr) (g o n cap : Nat) (xs : List Rect) (m : Int) (w : World) (hT0 : Tab w w [.gen (rdE (A) g o n 4 (rvals xs))]) (hfar : ∀ r ∈ xs, FarR r) (hn : n ≤ 1000000000000) :
    Calls Try.prog 40 #[.slice A n cap, .int .i64 m] w fun e w' => ∃ (A_ : Option Addr) (g_ k_ cp_ : Nat), e = .returned (.tuple #[.slice A_ k_ cp_, .int .i64 (scaleE m xs)]) ∧ Tab w w' [.gen (rowE (A_) g_ k_ cp_ 25 4 (rvals (eachR (scaleR m) xs)) true)] := by
  obtain ⟨hra, hrl⟩ := Rd.factsR (hT0.ok 0 _ rfl)
  refine enter 39 [(0, .slice A n cap), (1, .int .i64 m)] [.gen (rdE (A) g o n 4 (rvals xs))] Try.func40 rfl Try.ntmps40 rfl (by kernel_rfl) hT0 ?_
  refine cont_seq ?_
  refine cont_region 2 rfl ?_
  refine bS [0, 0] 2 0 [(0, .slice A n cap), (1, .int .i64 m)] ?_
  refine cont_done ?_
  refine then_normal ?_
  refine cont_seq ?_
  refine cont_seq ?_
  refine cont_region 6 rfl ?_
  refine bS [0, 0, 0] 3 3 [(0, .slice A n cap), (1, .int .i64 m), (12, .bool (decide (m < 1)))] ?_
  refine cont_split 12 (decide (m < 1)) rfl (fun c1_ => ?_) (fun c1_ => ?_)
  ·
    replace c1_ := of_decide_eq_true c1_
    refine bS [0, 0, 0] 6 0 [(0, .slice A n cap), (1, .int .i64 m), (15, .bool true)] ?_
    refine cont_done ?_
    refine then_normal ?_
    refine cont_true rfl ?_
    refine cont_seq ?_
    refine cont_region 2 rfl ?_
    refine bS [0, 0] 2 0 [(4, .slice none 0 0), (5, .int .i64 1)] ?_
    refine cont_done ?_
    refine then_normal ?_
    refine cont_ret ?_
    refine then_ret ?_
    refine ret_two (.inl rfl) rfl 0 0 (.slice none 0 0) (.int .i64 1) (by kernel_rfl) (by kernel_rfl) (by kernel_rfl) (by kernel_rfl) (fun w hT => ?_)
    replace hT := hT.erase 0 (fun e h hw => by cases h; first | rfl | cases hw)
    have he_ := scaleE_bad xs (n := m) (by omega)
    rw [he_.1, he_.2]
    exact ⟨none, 0, 0, 0, rfl, hT.nilR _ _⟩
  replace c1_ := of_decide_eq_false c1_
  refine bS [0, 0, 0] 6 0 [(0, .slice A n cap), (1, .int .i64 m), (15, .bool (decide (m > 8)))] ?_
  refine cont_done ?_
  refine then_normal ?_
  refine cont_split 15 (decide (m > 8)) rfl (fun c2_ => ?_) (fun c2_ => ?_)
  ·
    replace c2_ := of_decide_eq_true c2_
    refine cont_true rfl ?_
    refine cont_seq ?_
    refine cont_region 2 rfl ?_
    refine bS [0, 0] 2 0 [(4, .slice none 0 0), (5, .int .i64 1)] ?_
    refine cont_done ?_
    refine then_normal ?_
    refine cont_ret ?_
    refine then_ret ?_
    refine ret_two (.inl rfl) rfl 0 0 (.slice none 0 0) (.int .i64 1) (by kernel_rfl) (by kernel_rfl) (by kernel_rfl) (by kernel_rfl) (fun w hT => ?_)
    replace hT := hT.erase 0 (fun e h hw => by cases h; first | rfl | cases hw)
    have he_ := scaleE_bad xs (n := m) (by omega)
    rw [he_.1, he_.2]
    exact ⟨none, 0, 0, 0, rfl, hT.nilR _ _⟩
  replace c2_ := of_decide_eq_false c2_
  refine cont_false rfl ?_
  refine cont_skip ?_
  refine then_normal ?_
  refine cont_seq ?_
  refine cont_region 1 rfl ?_
  refine bS [0] 1 0 [(0, .slice A n cap), (1, .int .i64 m), (6, .slice none 0 0)] ?_
  refine cont_done ?_
  refine then_normal ?_
  refine cont_seq ?_
  refine cont_seq ?_
  refine cont_region 1 rfl ?_
  refine bS [0] 1 0 [(0, .slice A n cap), (1, .int .i64 m), (6, .slice none 0 0), (7, .int .i64 0)] ?_
  refine cont_done ?_
  refine then_normal ?_
  refine cont_block ?_
  refine cont_nilrow 25 4 ?_
  refine cont_norm [(0, .slice A n cap), (1, .int .i64 m), (6, .slice none 0 0), (7, .int .i64 0)] [.gen (rowE (none) 0 0 0 25 4 (rvals []) true), .gen (rdE (A) g o n 4 (rvals xs))] (by kernel_rfl) rfl ?_
  refine cont_rowEqR 0 ([]) ((xs.take 0).map fun r => (scaleR m r).1) rfl (by simp) ?_
  refine cont_loop (α := Nat × Nat × Option Addr × Nat × Nat) (fun x_ : Nat × Nat × Option Addr × Nat × Nat => x_.1 ≤ n ∧ x_.2.1 ≤ x_.1 ∧ ∀ j, j < x_.1 → (scaleR m (rget xs j)).2 = 0) (fun x_ : Nat × Nat × Option Addr × Nat × Nat => [(0, .slice A n cap), (1, .int .i64 m), (6, .slice x_.2.2.1 x_.2.1 x_.2.2.2.2), (7, .int .i64 (x_.1 : Int))]) (fun x_ : Nat × Nat × Option Addr × Nat × Nat => [.gen (rowE (x_.2.2.1) x_.2.2.2.1 x_.2.1 x_.2.2.2.2 25 4 (rvals ((xs.take x_.1).map fun r => (scaleR m r).1)) true), .gen (rdE (A) g o n 4 (rvals xs))]) (fun x_ : Nat × Nat × Option Addr × Nat × Nat => n - x_.1) (0, 0, none, 0, 0) (show (0) ≤ n ∧ (0) ≤ (0) ∧ ∀ j, j < (0) → (scaleR m (rget xs j)).2 = 0 from ⟨by omega, by omega, fun j hj => by omega⟩) (by kernel_rfl) (by kernel_rfl) ?_
  rintro ⟨i, k, Aq, gq, cq⟩ hinv4_
  replace hinv4_ : i ≤ n ∧ k ≤ i ∧ ∀ j, j < i → (scaleR m (rget xs j)).2 = 0 := hinv4_
  refine cont_norm [(0, .slice A n cap), (1, .int .i64 m), (6, .slice Aq k cq), (7, .int .i64 (i : Int))] [.gen (rowE (Aq) gq k cq 25 4 (rvals ((xs.take i).map fun r => (scaleR m r).1)) true), .gen (rdE (A) g o n 4 (rvals xs))] (by kernel_rfl) rfl ?_
  obtain ⟨hi, hk, hns⟩ := hinv4_
  have hFi : i < n → FarR (rget xs i) := fun h_ => hfar _ (rget_mem (by omega))
  refine cont_seq ?_
  refine cont_seq ?_
  refine cont_region 4 rfl ?_
  refine bS [0, 0, 0, 0] 4 0 [(0, .slice A n cap), (1, .int .i64 m), (6, .slice Aq k cq), (7, .int .i64 (i : Int)), (19, .bool (decide ((i : Int) < (n : Int))))] ?_
  refine cont_done ?_
  refine then_normal ?_
  refine cont_split 19 (decide ((i : Int) < (n : Int))) rfl (fun c5_ => ?_) (fun c5_ => ?_)
  ·
    replace c5_ := of_decide_eq_true c5_
    refine cont_true rfl ?_
    refine cont_skip ?_
    refine then_normal ?_
    refine cont_seq ?_
    refine cont_block ?_
    refine cont_seq ?_
    refine cont_region 12 rfl ?_
    refine bS [0, 0] 2 10 [(0, .slice A n cap), (1, .int .i64 m), (6, .slice Aq k cq), (7, .int .i64 (i : Int)), (23, .slice A n cap), (24, .int .i64 (i : Int))] ?_
    refine pl_step 3 9 rfl rfl ?_
    refine cont_recast 23 (.slice A n cap) (.slice (some ⟨g, o, none⟩) n cap) rfl (by rw [hra (by omega)]) ?_
    refine sem_step 25 (Instr.indexAt 22 (.slice (some ⟨g, o, none⟩) n cap) (.int .i64 (i : Int))) (.pointer (some ⟨g, o + i * 4, none⟩)) (by kernel_rfl) (fun w hT => run_indexAt (e := 25) (sz := 4) _ (by kernel_rfl) (by kernel_rfl) (by omega) (by omega) (by omega) w) ?_
    refine pl_step 4 8 rfl rfl ?_
    refine sem_step 26 (Instr.loadAt 25 (.pointer (some ⟨g, o + i * 4, none⟩))) (.agg #[.int .i64 ((rget xs i).x0), .int .i64 ((rget xs i).y0), .int .i64 ((rget xs i).x1), .int .i64 ((rget xs i).y1)]) (by kernel_rfl) (fun w hT => run_loadN (m := 4) (cs := rcells (rget xs i)) (by kernel_rfl) (by kernel_rfl) rfl (Rd.rect (hT.ok 1 _ rfl) (by omega))) ?_
    refine bS [0] 5 7 [(0, .slice A n cap), (1, .int .i64 m), (6, .slice Aq k cq), (7, .int .i64 (i : Int)), (26, .agg #[.int .i64 ((rget xs i).x0), .int .i64 ((rget xs i).y0), .int .i64 ((rget xs i).x1), .int .i64 ((rget xs i).y1)]), (27, .int .i64 m)] ?_
    refine pl_step 6 6 rfl rfl ?_
    refine call_pure (d := 28) (.tuple #[.agg #[.int .i64 (((scaleR m ⟨((rget xs i).x0), ((rget xs i).y0), ((rget xs i).x1), ((rget xs i).y1)⟩).1).x0), .int .i64 (((scaleR m ⟨((rget xs i).x0), ((rget xs i).y0), ((rget xs i).x1), ((rget xs i).y1)⟩).1).y0), .int .i64 (((scaleR m ⟨((rget xs i).x0), ((rget xs i).y0), ((rget xs i).x1), ((rget xs i).y1)⟩).1).x1), .int .i64 (((scaleR m ⟨((rget xs i).x0), ((rget xs i).y0), ((rget xs i).x1), ((rget xs i).y1)⟩).1).y1)], .int .i64 ((scaleR m ⟨((rget xs i).x0), ((rget xs i).y0), ((rget xs i).x1), ((rget xs i).y1)⟩).2)]) (by kernel_rfl) (fun w hT => refSclQ ((rget xs i).x0) ((rget xs i).y0) ((rget xs i).x1) ((rget xs i).y1) m w) ?_
    refine batch1 [0, 0, 0, 0, 0, 0] 12 0 (fun b6 => [(0, .slice A n cap), (1, .int .i64 m), (6, .slice Aq k cq), (7, .int .i64 (i : Int)), (8, .pointer (some ⟨b6, 0, none⟩)), (9, .int .i64 ((scaleR m ⟨((rget xs i).x0), ((rget xs i).y0), ((rget xs i).x1), ((rget xs i).y1)⟩).2))]) (fun b6 => [.cells b6 [.int .i64 (((scaleR m ⟨((rget xs i).x0), ((rget xs i).y0), ((rget xs i).x1), ((rget xs i).y1)⟩).1).x0), .int .i64 (((scaleR m ⟨((rget xs i).x0), ((rget xs i).y0), ((rget xs i).x1), ((rget xs i).y1)⟩).1).y0), .int .i64 (((scaleR m ⟨((rget xs i).x0), ((rget xs i).y0), ((rget xs i).x1), ((rget xs i).y1)⟩).1).x1), .int .i64 (((scaleR m ⟨((rget xs i).x0), ((rget xs i).y0), ((rget xs i).x1), ((rget xs i).y1)⟩).1).y1)] 25 true, .gen (rowE (Aq) gq k cq 25 4 (rvals ((xs.take i).map fun r => (scaleR m r).1)) true), .gen (rdE (A) g o n 4 (rvals xs))]) rfl rfl [0, 1, 6, 7, 8, 9] (fun _ => rfl) (fun b6 => by kernel_rfl) (fun b6 => by kernel_rfl) (fun b6 => ?_)
    refine cont_done ?_
    refine then_normal ?_
    refine cont_seq ?_
    refine cont_seq ?_
    refine cont_region 2 rfl ?_
    refine bS [0, 0] 2 0 [(0, .slice A n cap), (1, .int .i64 m), (6, .slice Aq k cq), (7, .int .i64 (i : Int)), (8, .pointer (some ⟨b6, 0, none⟩)), (9, .int .i64 ((scaleR m ⟨((rget xs i).x0), ((rget xs i).y0), ((rget xs i).x1), ((rget xs i).y1)⟩).2)), (32, .bool (((scaleR m ⟨((rget xs i).x0), ((rget xs i).y0), ((rget xs i).x1), ((rget xs i).y1)⟩).2) != 0))] ?_
    refine cont_done ?_
    refine then_normal ?_
    refine cont_split 32 (((scaleR m ⟨((rget xs i).x0), ((rget xs i).y0), ((rget xs i).x1), ((rget xs i).y1)⟩).2) != 0) rfl (fun c7_ => ?_) (fun c7_ => ?_)
    ·
      replace c7_ := ne_of_bne c7_
      refine cont_true rfl ?_
      refine cont_seq ?_
      refine cont_region 3 rfl ?_
      refine bS [0, 0, 0] 3 0 [(4, .slice none 0 0), (5, .int .i64 ((scaleR m ⟨((rget xs i).x0), ((rget xs i).y0), ((rget xs i).x1), ((rget xs i).y1)⟩).2))] ?_
      refine cont_forget 0 rfl ?_
      refine cont_done ?_
      refine then_normal ?_
      refine cont_ret ?_
      refine then_ret ?_
      refine blk_ret ?_
      refine then_ret ?_
      refine then_ret ?_
      refine blk_ret ?_
      refine then_ret ?_
      refine ret_two (.inl rfl) rfl 0 0 (.slice none 0 0) (.int .i64 ((scaleR m ⟨((rget xs i).x0), ((rget xs i).y0), ((rget xs i).x1), ((rget xs i).y1)⟩).2)) (by kernel_rfl) (by kernel_rfl) (by kernel_rfl) (by kernel_rfl) (fun w hT => ?_)
      replace hT := hT.erase 1 (fun e h hw => by cases h; first | rfl | cases hw)
      replace hT := hT.erase 0 (fun e h hw => by cases h; first | rfl | cases hw)
      have he_ : eachE (scaleR m) xs = (scaleR m (rget xs i)).2 := eachE_at (by omega) hns (by assumption)
      rw [scaleE_good xs (by omega)]
      rw [eachR_none (by rw [he_]; assumption), he_]
      exact ⟨none, 0, 0, 0, rfl, hT.nilR _ _⟩
    replace c7_ := eq_of_bne_false c7_
    refine cont_false rfl ?_
    refine cont_skip ?_
    refine then_normal ?_
    refine cont_region 5 rfl ?_
    refine batch1 [0, 0, 0] 3 2 (fun b8 => [(0, .slice A n cap), (1, .int .i64 m), (7, .int .i64 (i : Int)), (34, .slice Aq k cq), (36, .slice (some ⟨b8, 0, none⟩) 1 1)]) (fun b8 => [.cells b8 [.int .i64 (((scaleR m ⟨((rget xs i).x0), ((rget xs i).y0), ((rget xs i).x1), ((rget xs i).y1)⟩).1).x0), .int .i64 (((scaleR m ⟨((rget xs i).x0), ((rget xs i).y0), ((rget xs i).x1), ((rget xs i).y1)⟩).1).y0), .int .i64 (((scaleR m ⟨((rget xs i).x0), ((rget xs i).y0), ((rget xs i).x1), ((rget xs i).y1)⟩).1).x1), .int .i64 (((scaleR m ⟨((rget xs i).x0), ((rget xs i).y0), ((rget xs i).x1), ((rget xs i).y1)⟩).1).y1)] 25 true, .cells b6 [.int .i64 (((scaleR m ⟨((rget xs i).x0), ((rget xs i).y0), ((rget xs i).x1), ((rget xs i).y1)⟩).1).x0), .int .i64 (((scaleR m ⟨((rget xs i).x0), ((rget xs i).y0), ((rget xs i).x1), ((rget xs i).y1)⟩).1).y0), .int .i64 (((scaleR m ⟨((rget xs i).x0), ((rget xs i).y0), ((rget xs i).x1), ((rget xs i).y1)⟩).1).x1), .int .i64 (((scaleR m ⟨((rget xs i).x0), ((rget xs i).y0), ((rget xs i).x1), ((rget xs i).y1)⟩).1).y1)] 25 true, .gen (rowE (Aq) gq k cq 25 4 (rvals ((xs.take i).map fun r => (scaleR m r).1)) true), .gen (rdE (A) g o n 4 (rvals xs))]) rfl rfl [0, 1, 7, 34, 36] (fun _ => rfl) (fun b8 => by kernel_rfl) (fun b8 => by kernel_rfl) (fun b8 => ?_)
    refine cont_forget 1 rfl ?_
    refine pl_step 4 1 rfl rfl ?_
    refine sem_stepW (α := Option Addr × Nat × Nat) 37 (Builtin.append_ #[22, 22] 22 #[.slice Aq k cq, .slice (some ⟨b8, 0, none⟩) 1 1]) (fun x_ => .slice x_.1 (k + 1) x_.2.2) (fun x_ => [.cells b8 [.int .i64 (((scaleR m ⟨((rget xs i).x0), ((rget xs i).y0), ((rget xs i).x1), ((rget xs i).y1)⟩).1).x0), .int .i64 (((scaleR m ⟨((rget xs i).x0), ((rget xs i).y0), ((rget xs i).x1), ((rget xs i).y1)⟩).1).y0), .int .i64 (((scaleR m ⟨((rget xs i).x0), ((rget xs i).y0), ((rget xs i).x1), ((rget xs i).y1)⟩).1).x1), .int .i64 (((scaleR m ⟨((rget xs i).x0), ((rget xs i).y0), ((rget xs i).x1), ((rget xs i).y1)⟩).1).y1)] 25 true, .gen (rowE (x_.1) x_.2.1 (k + 1) x_.2.2 25 4 (rvals (((xs.take i).map fun r => (scaleR m r).1) ++ [(⟨((scaleR m ⟨((rget xs i).x0), ((rget xs i).y0), ((rget xs i).x1), ((rget xs i).y1)⟩).1).x0, ((scaleR m ⟨((rget xs i).x0), ((rget xs i).y0), ((rget xs i).x1), ((rget xs i).y1)⟩).1).y0, ((scaleR m ⟨((rget xs i).x0), ((rget xs i).y0), ((rget xs i).x1), ((rget xs i).y1)⟩).1).x1, ((scaleR m ⟨((rget xs i).x0), ((rget xs i).y0), ((rget xs i).x1), ((rget xs i).y1)⟩).1).y1⟩ : Rect)])) true), .gen (rdE (A) g o n 4 (rvals xs))]) (fun _ => True) (by kernel_rfl) (fun w hT => append_own (n' := (k + 1)) (z := .agg #[.int .i64 0, .int .i64 0, .int .i64 0, .int .i64 0]) hT (i := 1) (bytes := 32) rfl (by kernel_rfl) (by kernel_rfl) rfl (by decide) (by decide) (Rd.ofCells (vals := rvals [(⟨((scaleR m ⟨((rget xs i).x0), ((rget xs i).y0), ((rget xs i).x1), ((rget xs i).y1)⟩).1).x0, ((scaleR m ⟨((rget xs i).x0), ((rget xs i).y0), ((rget xs i).x1), ((rget xs i).y1)⟩).1).y0, ((scaleR m ⟨((rget xs i).x0), ((rget xs i).y0), ((rget xs i).x1), ((rget xs i).y1)⟩).1).x1, ((scaleR m ⟨((rget xs i).x0), ((rget xs i).y0), ((rget xs i).x1), ((rget xs i).y1)⟩).1).y1⟩ : Rect)]) (hT.ok 0 _ rfl) rfl rfl) (rvals_one [(⟨((scaleR m ⟨((rget xs i).x0), ((rget xs i).y0), ((rget xs i).x1), ((rget xs i).y1)⟩).1).x0, ((scaleR m ⟨((rget xs i).x0), ((rget xs i).y0), ((rget xs i).x1), ((rget xs i).y1)⟩).1).y0, ((scaleR m ⟨((rget xs i).x0), ((rget xs i).y0), ((rget xs i).x1), ((rget xs i).y1)⟩).1).x1, ((scaleR m ⟨((rget xs i).x0), ((rget xs i).y0), ((rget xs i).x1), ((rget xs i).y1)⟩).1).y1⟩ : Rect)]) (by omega) (rvals_append ((xs.take i).map fun r => (scaleR m r).1) [(⟨((scaleR m ⟨((rget xs i).x0), ((rget xs i).y0), ((rget xs i).x1), ((rget xs i).y1)⟩).1).x0, ((scaleR m ⟨((rget xs i).x0), ((rget xs i).y0), ((rget xs i).x1), ((rget xs i).y1)⟩).1).y0, ((scaleR m ⟨((rget xs i).x0), ((rget xs i).y0), ((rget xs i).x1), ((rget xs i).y1)⟩).1).x1, ((scaleR m ⟨((rget xs i).x0), ((rget xs i).y0), ((rget xs i).x1), ((rget xs i).y1)⟩).1).y1⟩ : Rect)]) rfl) ?_
    rintro ⟨A9, g9, cp9⟩ -
    refine cont_norm [(0, .slice A n cap), (1, .int .i64 m), (7, .int .i64 (i : Int)), (34, .slice Aq k cq), (36, .slice (some ⟨b8, 0, none⟩) 1 1), (37, .slice A9 (k + 1) cp9)] [.cells b8 [.int .i64 (((scaleR m ⟨((rget xs i).x0), ((rget xs i).y0), ((rget xs i).x1), ((rget xs i).y1)⟩).1).x0), .int .i64 (((scaleR m ⟨((rget xs i).x0), ((rget xs i).y0), ((rget xs i).x1), ((rget xs i).y1)⟩).1).y0), .int .i64 (((scaleR m ⟨((rget xs i).x0), ((rget xs i).y0), ((rget xs i).x1), ((rget xs i).y1)⟩).1).x1), .int .i64 (((scaleR m ⟨((rget xs i).x0), ((rget xs i).y0), ((rget xs i).x1), ((rget xs i).y1)⟩).1).y1)] 25 true, .gen (rowE (A9) g9 (k + 1) cp9 25 4 (rvals (((xs.take i).map fun r => (scaleR m r).1) ++ [(⟨((scaleR m ⟨((rget xs i).x0), ((rget xs i).y0), ((rget xs i).x1), ((rget xs i).y1)⟩).1).x0, ((scaleR m ⟨((rget xs i).x0), ((rget xs i).y0), ((rget xs i).x1), ((rget xs i).y1)⟩).1).y0, ((scaleR m ⟨((rget xs i).x0), ((rget xs i).y0), ((rget xs i).x1), ((rget xs i).y1)⟩).1).x1, ((scaleR m ⟨((rget xs i).x0), ((rget xs i).y0), ((rget xs i).x1), ((rget xs i).y1)⟩).1).y1⟩ : Rect)])) true), .gen (rdE (A) g o n 4 (rvals xs))] (by kernel_rfl) rfl ?_
    refine cont_fact (F := (0 < (k + 1) → (A9 : Option Addr) = some ⟨g9, 0, none⟩) ∧ (((xs.take i).map fun r => (scaleR m r).1) ++ [(⟨((scaleR m ⟨((rget xs i).x0), ((rget xs i).y0), ((rget xs i).x1), ((rget xs i).y1)⟩).1).x0, ((scaleR m ⟨((rget xs i).x0), ((rget xs i).y0), ((rget xs i).x1), ((rget xs i).y1)⟩).1).y0, ((scaleR m ⟨((rget xs i).x0), ((rget xs i).y0), ((rget xs i).x1), ((rget xs i).y1)⟩).1).x1, ((scaleR m ⟨((rget xs i).x0), ((rget xs i).y0), ((rget xs i).x1), ((rget xs i).y1)⟩).1).y1⟩ : Rect)]).length = (k + 1) ∧ (k + 1) ≤ cp9 ∧ cp9 ≤ maxLen) (fun w hT => Row.factsR (hT.ok 1 _ rfl)) (fun hr10_ => ?_)
    obtain ⟨hr10_a, hr10_l, hr10_c, hr10_m⟩ := hr10_
    unfold maxLen at hr10_m
    refine bS [0] 5 0 [(0, .slice A n cap), (1, .int .i64 m), (6, .slice A9 (k + 1) cp9), (7, .int .i64 (i : Int))] ?_
    refine cont_forget 0 rfl ?_
    refine cont_done ?_
    refine blk_normal ?_
    refine then_normal ?_
    refine cont_region 3 rfl ?_
    refine bS [0, 0] 2 1 [(0, .slice A n cap), (1, .int .i64 m), (6, .slice A9 (k + 1) cp9), (21, .int .i64 (IntKind.i64.wrap ((i : Int) + 1)))] ?_
    refine cont_recast 21 (.int .i64 (IntKind.i64.wrap ((i : Int) + 1))) (.int .i64 ((i : Int) + 1)) rfl (wrapI (by omega) (by omega)) ?_
    refine bS [0] 3 0 [(0, .slice A n cap), (1, .int .i64 m), (6, .slice A9 (k + 1) cp9), (7, .int .i64 ((i : Int) + 1))] ?_
    refine cont_done ?_
    refine then_normal ?_
    refine cont_rowEqR 0 (((xs.take i).map fun r => (scaleR m r).1) ++ [(⟨((scaleR m ⟨((rget xs i).x0), ((rget xs i).y0), ((rget xs i).x1), ((rget xs i).y1)⟩).1).x0, ((scaleR m ⟨((rget xs i).x0), ((rget xs i).y0), ((rget xs i).x1), ((rget xs i).y1)⟩).1).y0, ((scaleR m ⟨((rget xs i).x0), ((rget xs i).y0), ((rget xs i).x1), ((rget xs i).y1)⟩).1).x1, ((scaleR m ⟨((rget xs i).x0), ((rget xs i).y0), ((rget xs i).x1), ((rget xs i).y1)⟩).1).y1⟩ : Rect)]) ((xs.take (i + 1)).map fun r => (scaleR m r).1) rfl (mapR_put (f := scaleR m) (by omega)) ?_
    refine cont_again (i + 1, (k + 1), A9, g9, cp9) (show (i + 1) ≤ n ∧ ((k + 1)) ≤ (i + 1) ∧ ∀ j, j < (i + 1) → (scaleR m (rget xs j)).2 = 0 from ⟨by omega, by omega, fun j hj => by rcases Nat.lt_succ_iff_lt_or_eq.1 hj with h_ | h_; exact hns j h_; subst h_; assumption⟩) (show n - (i + 1) < n - i from by omega) (by kernel_rfl) (by kernel_rfl)
  replace c5_ := of_decide_eq_false c5_
  refine cont_false rfl ?_
  refine cont_exit ?_
  refine then_exit ?_
  refine then_exit ?_
  refine blk_exit ?_
  refine then_normal ?_
  refine cont_seq ?_
  refine cont_region 3 rfl ?_
  refine bS [0, 0, 0] 3 0 [(4, .slice Aq k cq), (5, .int .i64 0)] ?_
  refine cont_done ?_
  refine then_normal ?_
  refine cont_ret ?_
  refine ret_two (.inl rfl) rfl 0 0 (.slice Aq k cq) (.int .i64 0) (by kernel_rfl) (by kernel_rfl) (by kernel_rfl) (by kernel_rfl) (fun w hT => ?_)
  replace hT := hT.erase 1 (fun e h hw => by cases h; first | rfl | cases hw)
  have he_ : eachE (scaleR m) xs = 0 := eachE_ok (fun j hj => hns j (by omega))
  rw [scaleE_good xs (by omega)]
  rw [show i = n by omega, List.take_of_length_le (show xs.length ≤ n by omega), eachR_all he_] at hT
  rw [he_]
  exact ⟨_, _, _, _, rfl, hT⟩

theorem rectHullQ (A : Option Addr) (g o n cap : Nat) (xs : List Rect) (w : World) (hT0 : Tab w w [.gen (rdE (A) g o n 4 (rvals xs))]) (hn : n ≤ 1000000000000) :
    Calls Try.prog 61 #[.slice A n cap] w fun e w' => e = .returned (.agg #[.int .i64 ((hullP xs).x0), .int .i64 ((hullP xs).y0), .int .i64 ((hullP xs).x1), .int .i64 ((hullP xs).y1)]) ∧ Below w.heap.size w w' := by
  obtain ⟨hra, hrl⟩ := Rd.factsR (hT0.ok 0 _ rfl)
  refine enter 43 [(0, .slice A n cap)] [.gen (rdE (A) g o n 4 (rvals xs))] Try.func61 rfl Try.ntmps61 rfl (by kernel_rfl) hT0 ?_
  refine cont_seq ?_
  refine cont_region 1 rfl ?_
  refine batch1 [0] 1 0 (fun b1 => [(0, .slice A n cap), (2, .pointer (some ⟨b1, 0, none⟩))]) (fun b1 => [.cells b1 [.int .i64 0, .int .i64 0, .int .i64 0, .int .i64 0] 25 true, .gen (rdE (A) g o n 4 (rvals xs))]) rfl rfl [0, 2] (fun _ => rfl) (fun b1 => by kernel_rfl) (fun b1 => by kernel_rfl) (fun b1 => ?_)
  refine cont_done ?_
  refine then_normal ?_
  refine cont_seq ?_
  refine cont_region 1 rfl ?_
  refine batch1 [0] 1 0 (fun b2 => [(0, .slice A n cap), (2, .pointer (some ⟨b1, 0, none⟩)), (3, .pointer (some ⟨b2, 0, none⟩))]) (fun b2 => [.cells b2 [.int .i64 0, .int .i64 0, .int .i64 0, .int .i64 0] 25 true, .cells b1 [.int .i64 0, .int .i64 0, .int .i64 0, .int .i64 0] 25 true, .gen (rdE (A) g o n 4 (rvals xs))]) rfl rfl [0, 2, 3] (fun _ => rfl) (fun b2 => by kernel_rfl) (fun b2 => by kernel_rfl) (fun b2 => ?_)
  refine cont_done ?_
  refine then_normal ?_
  refine cont_seq ?_
  refine cont_seq ?_
  refine cont_region 3 rfl ?_
  refine bS [0, 0, 0] 3 0 [(2, .pointer (some ⟨b1, 0, none⟩)), (3, .pointer (some ⟨b2, 0, none⟩)), (6, .slice A n cap), (7, .int .i64 (n : Int)), (8, .int .i64 0)] ?_
  refine cont_done ?_
  refine then_normal ?_
  refine cont_block ?_
  refine cont_norm [(2, .pointer (some ⟨b1, 0, none⟩)), (3, .pointer (some ⟨b2, 0, none⟩)), (6, .slice A n cap), (7, .int .i64 (n : Int)), (8, .int .i64 0)] [.cells b2 [.int .i64 ((hullP (xs.take 0)).x0), .int .i64 ((hullP (xs.take 0)).y0), .int .i64 ((hullP (xs.take 0)).x1), .int .i64 ((hullP (xs.take 0)).y1)] 25 true, .cells b1 [.int .i64 0, .int .i64 0, .int .i64 0, .int .i64 0] 25 true, .gen (rdE (A) g o n 4 (rvals xs))] (by kernel_rfl) (congrArg (fun c_ : List Value => ([.cells b2 c_ 25 true, .cells b1 [.int .i64 0, .int .i64 0, .int .i64 0, .int .i64 0] 25 true, .gen (rdE (A) g o n 4 (rvals xs))] : List Ent)) (rfl : cellsR zeroR = cellsR (hullP (xs.take 0)))) ?_
  refine cont_loop (α := Nat) (fun x_ : Nat => x_ ≤ n) (fun x_ : Nat => [(2, .pointer (some ⟨b1, 0, none⟩)), (3, .pointer (some ⟨b2, 0, none⟩)), (6, .slice A n cap), (7, .int .i64 (n : Int)), (8, .int .i64 (x_ : Int))]) (fun x_ : Nat => [.cells b2 [.int .i64 ((hullP (xs.take x_)).x0), .int .i64 ((hullP (xs.take x_)).y0), .int .i64 ((hullP (xs.take x_)).x1), .int .i64 ((hullP (xs.take x_)).y1)] 25 true, .cells b1 [.int .i64 0, .int .i64 0, .int .i64 0, .int .i64 0] 25 true, .gen (rdE (A) g o n 4 (rvals xs))]) (fun x_ : Nat => n - x_) 0 (by omega) (by kernel_rfl) (by kernel_rfl) ?_
  rintro i hinv3_
  replace hinv3_ : i ≤ n := hinv3_
  refine cont_norm [(2, .pointer (some ⟨b1, 0, none⟩)), (3, .pointer (some ⟨b2, 0, none⟩)), (6, .slice A n cap), (7, .int .i64 (n : Int)), (8, .int .i64 (i : Int))] [.cells b2 [.int .i64 ((hullP (xs.take i)).x0), .int .i64 ((hullP (xs.take i)).y0), .int .i64 ((hullP (xs.take i)).x1), .int .i64 ((hullP (xs.take i)).y1)] 25 true, .cells b1 [.int .i64 0, .int .i64 0, .int .i64 0, .int .i64 0] 25 true, .gen (rdE (A) g o n 4 (rvals xs))] (by kernel_rfl) rfl ?_
  have hi := hinv3_
  refine cont_seq ?_
  refine cont_region 1 rfl ?_
  refine bS [0] 1 0 [(2, .pointer (some ⟨b1, 0, none⟩)), (3, .pointer (some ⟨b2, 0, none⟩)), (6, .slice A n cap), (7, .int .i64 (n : Int)), (8, .int .i64 (i : Int)), (9, .bool (decide ((i : Int) < (n : Int))))] ?_
  refine cont_done ?_
  refine then_normal ?_
  refine cont_seq ?_
  refine cont_split 9 (decide ((i : Int) < (n : Int))) rfl (fun c4_ => ?_) (fun c4_ => ?_)
  ·
    replace c4_ := of_decide_eq_true c4_
    refine cont_true rfl ?_
    refine cont_skip ?_
    refine then_normal ?_
    refine cont_seq ?_
    refine cont_block ?_
    refine cont_seq ?_
    refine cont_region 4 rfl ?_
    refine pl_step 1 3 rfl rfl ?_
    refine cont_recast 6 (.slice A n cap) (.slice (some ⟨g, o, none⟩) n cap) rfl (by rw [hra (by omega)]) ?_
    refine sem_step 10 (Instr.indexAt 22 (.slice (some ⟨g, o, none⟩) n cap) (.int .i64 (i : Int))) (.pointer (some ⟨g, o + i * 4, none⟩)) (by kernel_rfl) (fun w hT => run_indexAt (e := 25) (sz := 4) _ (by kernel_rfl) (by kernel_rfl) (by omega) (by omega) (by omega) w) ?_
    refine pl_step 2 2 rfl rfl ?_
    refine sem_step 11 (Instr.loadAt 25 (.pointer (some ⟨g, o + i * 4, none⟩))) (.agg #[.int .i64 ((rget xs i).x0), .int .i64 ((rget xs i).y0), .int .i64 ((rget xs i).x1), .int .i64 ((rget xs i).y1)]) (by kernel_rfl) (fun w hT => run_loadN (m := 4) (cs := rcells (rget xs i)) (by kernel_rfl) (by kernel_rfl) rfl (Rd.rect (hT.ok 2 _ rfl) (by omega))) ?_
    refine batch1 [0, 0] 4 0 (fun b5 => [(2, .pointer (some ⟨b1, 0, none⟩)), (3, .pointer (some ⟨b2, 0, none⟩)), (5, .pointer (some ⟨b5, 0, none⟩)), (6, .slice (some ⟨g, o, none⟩) n cap), (7, .int .i64 (n : Int)), (8, .int .i64 (i : Int))]) (fun b5 => [.cells b5 [.int .i64 ((rget xs i).x0), .int .i64 ((rget xs i).y0), .int .i64 ((rget xs i).x1), .int .i64 ((rget xs i).y1)] 25 true, .cells b2 [.int .i64 ((hullP (xs.take i)).x0), .int .i64 ((hullP (xs.take i)).y0), .int .i64 ((hullP (xs.take i)).x1), .int .i64 ((hullP (xs.take i)).y1)] 25 true, .cells b1 [.int .i64 0, .int .i64 0, .int .i64 0, .int .i64 0] 25 true, .gen (rdE (A) g o n 4 (rvals xs))]) rfl rfl [2, 3, 5, 6, 7, 8] (fun _ => rfl) (fun b5 => by kernel_rfl) (fun b5 => by kernel_rfl) (fun b5 => ?_)
    refine cont_done ?_
    refine then_normal ?_
    refine cont_seq ?_
    refine cont_block ?_
    refine cont_seq ?_
    refine cont_region 3 rfl ?_
    refine bS [0] 1 2 [(2, .pointer (some ⟨b1, 0, none⟩)), (3, .pointer (some ⟨b2, 0, none⟩)), (5, .pointer (some ⟨b5, 0, none⟩)), (6, .slice (some ⟨g, o, none⟩) n cap), (7, .int .i64 (n : Int)), (8, .int .i64 (i : Int)), (13, .agg #[.int .i64 ((rget xs i).x0), .int .i64 ((rget xs i).y0), .int .i64 ((rget xs i).x1), .int .i64 ((rget xs i).y1)])] ?_
    refine pl_step 2 1 rfl rfl ?_
    refine call_pure (d := 14) (.bool (emptyB ((rget xs i).x0) ((rget xs i).y0) ((rget xs i).x1) ((rget xs i).y1))) (by kernel_rfl) (fun w hT => rectEmpty ((rget xs i).x0) ((rget xs i).y0) ((rget xs i).x1) ((rget xs i).y1) w) ?_
    refine bS [0] 3 0 [(2, .pointer (some ⟨b1, 0, none⟩)), (3, .pointer (some ⟨b2, 0, none⟩)), (5, .pointer (some ⟨b5, 0, none⟩)), (6, .slice (some ⟨g, o, none⟩) n cap), (7, .int .i64 (n : Int)), (8, .int .i64 (i : Int)), (12, .bool (emptyB ((rget xs i).x0) ((rget xs i).y0) ((rget xs i).x1) ((rget xs i).y1)))] ?_
    refine cont_done ?_
    refine then_normal ?_
    refine cont_split 12 (emptyB ((rget xs i).x0) ((rget xs i).y0) ((rget xs i).x1) ((rget xs i).y1)) rfl (fun c6_ => ?_) (fun c6_ => ?_)
    ·
      refine cont_true rfl ?_
      refine cont_exit ?_
      refine blk_exit_ne rfl ?_
      refine then_exit ?_
      refine blk_exit ?_
      refine then_normal ?_
      refine cont_region 2 rfl ?_
      refine bS [0] 1 1 [(2, .pointer (some ⟨b1, 0, none⟩)), (3, .pointer (some ⟨b2, 0, none⟩)), (6, .slice (some ⟨g, o, none⟩) n cap), (7, .int .i64 (n : Int)), (41, .int .i64 (IntKind.i64.wrap ((i : Int) + 1)))] ?_
      refine cont_recast 41 (.int .i64 (IntKind.i64.wrap ((i : Int) + 1))) (.int .i64 ((i : Int) + 1)) rfl (wrapI (by omega) (by omega)) ?_
      refine cont_forget 0 rfl ?_
      refine bS [0] 2 0 [(2, .pointer (some ⟨b1, 0, none⟩)), (3, .pointer (some ⟨b2, 0, none⟩)), (6, .slice (some ⟨g, o, none⟩) n cap), (7, .int .i64 (n : Int)), (8, .int .i64 ((i : Int) + 1))] ?_
      refine cont_done ?_
      refine then_normal ?_
      refine cont_recast 6 (.slice (some ⟨g, o, none⟩) n cap) (.slice A n cap) rfl (by rw [hra (by omega)]) ?_
      refine cont_norm [(2, .pointer (some ⟨b1, 0, none⟩)), (3, .pointer (some ⟨b2, 0, none⟩)), (6, .slice A n cap), (7, .int .i64 (n : Int)), (8, .int .i64 ((i : Int) + 1))] [.cells b2 [.int .i64 ((hullP (xs.take (i + 1))).x0), .int .i64 ((hullP (xs.take (i + 1))).y0), .int .i64 ((hullP (xs.take (i + 1))).x1), .int .i64 ((hullP (xs.take (i + 1))).y1)] 25 true, .cells b1 [.int .i64 0, .int .i64 0, .int .i64 0, .int .i64 0] 25 true, .gen (rdE (A) g o n 4 (rvals xs))] (by kernel_rfl) (congrArg (fun c_ : List Value => ([.cells b2 c_ 25 true, .cells b1 [.int .i64 0, .int .i64 0, .int .i64 0, .int .i64 0] 25 true, .gen (rdE (A) g o n 4 (rvals xs))] : List Ent)) (cellsR_eq (hullP_skip (by omega) c6_))) ?_
      refine cont_again (i + 1) (show (i + 1) ≤ n from (by omega)) (show n - (i + 1) < n - i from by omega) (by kernel_rfl) (by kernel_rfl)
    refine cont_false rfl ?_
    refine cont_seq ?_
    refine cont_region 4 rfl ?_
    refine bS [1, 0] 2 2 [(2, .pointer (some ⟨b1, 0, none⟩)), (3, .pointer (some ⟨b2, 0, none⟩)), (5, .pointer (some ⟨b5, 0, none⟩)), (6, .slice (some ⟨g, o, none⟩) n cap), (7, .int .i64 (n : Int)), (8, .int .i64 (i : Int)), (16, .agg #[.int .i64 ((hullP (xs.take i)).x0), .int .i64 ((hullP (xs.take i)).y0), .int .i64 ((hullP (xs.take i)).x1), .int .i64 ((hullP (xs.take i)).y1)]), (17, .agg #[.int .i64 0, .int .i64 0, .int .i64 0, .int .i64 0])] ?_
    refine pl_step 3 1 rfl rfl ?_
    refine sem_step 18 (bopS .eql 25 (.tmp 16) (.tmp 17) (.agg #[.int .i64 ((hullP (xs.take i)).x0), .int .i64 ((hullP (xs.take i)).y0), .int .i64 ((hullP (xs.take i)).x1), .int .i64 ((hullP (xs.take i)).y1)]) (.agg #[.int .i64 0, .int .i64 0, .int .i64 0, .int .i64 0])) (.bool (eqInts [(hullP (xs.take i)).x0, (hullP (xs.take i)).y0, (hullP (xs.take i)).x1, (hullP (xs.take i)).y1] [0, 0, 0, 0])) (by kernel_rfl) (fun w hT => run_eqS [(hullP (xs.take i)).x0, (hullP (xs.take i)).y0, (hullP (xs.take i)).x1, (hullP (xs.take i)).y1] [0, 0, 0, 0] (by kernel_rfl) (by kernel_rfl) (by kernel_rfl) (by kernel_rfl) rfl rfl w) ?_
    refine bS [0] 4 0 [(2, .pointer (some ⟨b1, 0, none⟩)), (3, .pointer (some ⟨b2, 0, none⟩)), (5, .pointer (some ⟨b5, 0, none⟩)), (6, .slice (some ⟨g, o, none⟩) n cap), (7, .int .i64 (n : Int)), (8, .int .i64 (i : Int)), (15, .bool (eqInts [(hullP (xs.take i)).x0, (hullP (xs.take i)).y0, (hullP (xs.take i)).x1, (hullP (xs.take i)).y1] [0, 0, 0, 0]))] ?_
    refine cont_done ?_
    refine then_normal ?_
    refine cont_split 15 (eqInts [(hullP (xs.take i)).x0, (hullP (xs.take i)).y0, (hullP (xs.take i)).x1, (hullP (xs.take i)).y1] [0, 0, 0, 0]) rfl (fun c7_ => ?_) (fun c7_ => ?_)
    ·
      refine cont_true rfl ?_
      refine cont_region 2 rfl ?_
      refine batch0 [0, 1] 2 0 [(2, .pointer (some ⟨b1, 0, none⟩)), (3, .pointer (some ⟨b2, 0, none⟩)), (5, .pointer (some ⟨b5, 0, none⟩)), (6, .slice (some ⟨g, o, none⟩) n cap), (7, .int .i64 (n : Int)), (8, .int .i64 (i : Int))] [.cells b5 [.int .i64 ((rget xs i).x0), .int .i64 ((rget xs i).y0), .int .i64 ((rget xs i).x1), .int .i64 ((rget xs i).y1)] 25 true, .cells b2 [.int .i64 ((rget xs i).x0), .int .i64 ((rget xs i).y0), .int .i64 ((rget xs i).x1), .int .i64 ((rget xs i).y1)] 25 true, .cells b1 [.int .i64 0, .int .i64 0, .int .i64 0, .int .i64 0] 25 true, .gen (rdE (A) g o n 4 (rvals xs))] rfl rfl (by kernel_rfl) (by kernel_rfl) ?_
      refine cont_done ?_
      refine blk_normal ?_
      refine then_normal ?_
      refine cont_region 22 rfl ?_
      refine batch0 [0, 1, 0, 0, 0, 0, 1, 0, 0, 0, 0, 1, 0, 0, 0, 0, 1, 0, 0, 0, 0, 1] 22 0 [(2, .pointer (some ⟨b1, 0, none⟩)), (3, .pointer (some ⟨b2, 0, none⟩)), (6, .slice (some ⟨g, o, none⟩) n cap), (7, .int .i64 (n : Int)), (8, .int .i64 (i : Int))] [.cells b5 [.int .i64 ((rget xs i).x0), .int .i64 ((rget xs i).y0), .int .i64 ((rget xs i).x1), .int .i64 ((rget xs i).y1)] 25 true, .cells b2 [.int .i64 (mn ((rget xs i).x0) ((rget xs i).x0)), .int .i64 (mn ((rget xs i).y0) ((rget xs i).y0)), .int .i64 (mx ((rget xs i).x1) ((rget xs i).x1)), .int .i64 (mx ((rget xs i).y1) ((rget xs i).y1))] 25 true, .cells b1 [.int .i64 0, .int .i64 0, .int .i64 0, .int .i64 0] 25 true, .gen (rdE (A) g o n 4 (rvals xs))] rfl rfl (by kernel_rfl) (by kernel_rfl) ?_
      refine cont_forget 0 rfl ?_
      refine cont_done ?_
      refine blk_normal ?_
      refine then_normal ?_
      refine cont_region 2 rfl ?_
      refine bS [0] 1 1 [(2, .pointer (some ⟨b1, 0, none⟩)), (3, .pointer (some ⟨b2, 0, none⟩)), (6, .slice (some ⟨g, o, none⟩) n cap), (7, .int .i64 (n : Int)), (41, .int .i64 (IntKind.i64.wrap ((i : Int) + 1)))] ?_
      refine cont_recast 41 (.int .i64 (IntKind.i64.wrap ((i : Int) + 1))) (.int .i64 ((i : Int) + 1)) rfl (wrapI (by omega) (by omega)) ?_
      refine bS [0] 2 0 [(2, .pointer (some ⟨b1, 0, none⟩)), (3, .pointer (some ⟨b2, 0, none⟩)), (6, .slice (some ⟨g, o, none⟩) n cap), (7, .int .i64 (n : Int)), (8, .int .i64 ((i : Int) + 1))] ?_
      refine cont_done ?_
      refine then_normal ?_
      refine cont_recast 6 (.slice (some ⟨g, o, none⟩) n cap) (.slice A n cap) rfl (by rw [hra (by omega)]) ?_
      refine cont_norm [(2, .pointer (some ⟨b1, 0, none⟩)), (3, .pointer (some ⟨b2, 0, none⟩)), (6, .slice A n cap), (7, .int .i64 (n : Int)), (8, .int .i64 ((i : Int) + 1))] [.cells b2 [.int .i64 ((hullP (xs.take (i + 1))).x0), .int .i64 ((hullP (xs.take (i + 1))).y0), .int .i64 ((hullP (xs.take (i + 1))).x1), .int .i64 ((hullP (xs.take (i + 1))).y1)] 25 true, .cells b1 [.int .i64 0, .int .i64 0, .int .i64 0, .int .i64 0] 25 true, .gen (rdE (A) g o n 4 (rvals xs))] (by kernel_rfl) (congrArg (fun c_ : List Value => ([.cells b2 c_ 25 true, .cells b1 [.int .i64 0, .int .i64 0, .int .i64 0, .int .i64 0] 25 true, .gen (rdE (A) g o n 4 (rvals xs))] : List Ent)) ((joinV _ _).trans (cellsR_eq (hullP_first (by omega) c6_ (of_decide_eq_true (eqInts_zero c7_)))))) ?_
      refine cont_again (i + 1) (show (i + 1) ≤ n from (by omega)) (show n - (i + 1) < n - i from by omega) (by kernel_rfl) (by kernel_rfl)
    refine cont_false rfl ?_
    refine cont_skip ?_
    refine blk_normal ?_
    refine then_normal ?_
    refine cont_region 22 rfl ?_
    refine batch0 [0, 1, 0, 0, 0, 0, 1, 0, 0, 0, 0, 1, 0, 0, 0, 0, 1, 0, 0, 0, 0, 1] 22 0 [(2, .pointer (some ⟨b1, 0, none⟩)), (3, .pointer (some ⟨b2, 0, none⟩)), (6, .slice (some ⟨g, o, none⟩) n cap), (7, .int .i64 (n : Int)), (8, .int .i64 (i : Int))] [.cells b5 [.int .i64 ((rget xs i).x0), .int .i64 ((rget xs i).y0), .int .i64 ((rget xs i).x1), .int .i64 ((rget xs i).y1)] 25 true, .cells b2 [.int .i64 (mn ((hullP (xs.take i)).x0) ((rget xs i).x0)), .int .i64 (mn ((hullP (xs.take i)).y0) ((rget xs i).y0)), .int .i64 (mx ((hullP (xs.take i)).x1) ((rget xs i).x1)), .int .i64 (mx ((hullP (xs.take i)).y1) ((rget xs i).y1))] 25 true, .cells b1 [.int .i64 0, .int .i64 0, .int .i64 0, .int .i64 0] 25 true, .gen (rdE (A) g o n 4 (rvals xs))] rfl rfl (by kernel_rfl) (by kernel_rfl) ?_
    refine cont_forget 0 rfl ?_
    refine cont_done ?_
    refine blk_normal ?_
    refine then_normal ?_
    refine cont_region 2 rfl ?_
    refine bS [0] 1 1 [(2, .pointer (some ⟨b1, 0, none⟩)), (3, .pointer (some ⟨b2, 0, none⟩)), (6, .slice (some ⟨g, o, none⟩) n cap), (7, .int .i64 (n : Int)), (41, .int .i64 (IntKind.i64.wrap ((i : Int) + 1)))] ?_
    refine cont_recast 41 (.int .i64 (IntKind.i64.wrap ((i : Int) + 1))) (.int .i64 ((i : Int) + 1)) rfl (wrapI (by omega) (by omega)) ?_
    refine bS [0] 2 0 [(2, .pointer (some ⟨b1, 0, none⟩)), (3, .pointer (some ⟨b2, 0, none⟩)), (6, .slice (some ⟨g, o, none⟩) n cap), (7, .int .i64 (n : Int)), (8, .int .i64 ((i : Int) + 1))] ?_
    refine cont_done ?_
    refine then_normal ?_
    refine cont_recast 6 (.slice (some ⟨g, o, none⟩) n cap) (.slice A n cap) rfl (by rw [hra (by omega)]) ?_
    refine cont_norm [(2, .pointer (some ⟨b1, 0, none⟩)), (3, .pointer (some ⟨b2, 0, none⟩)), (6, .slice A n cap), (7, .int .i64 (n : Int)), (8, .int .i64 ((i : Int) + 1))] [.cells b2 [.int .i64 ((hullP (xs.take (i + 1))).x0), .int .i64 ((hullP (xs.take (i + 1))).y0), .int .i64 ((hullP (xs.take (i + 1))).x1), .int .i64 ((hullP (xs.take (i + 1))).y1)] 25 true, .cells b1 [.int .i64 0, .int .i64 0, .int .i64 0, .int .i64 0] 25 true, .gen (rdE (A) g o n 4 (rvals xs))] (by kernel_rfl) (congrArg (fun c_ : List Value => ([.cells b2 c_ 25 true, .cells b1 [.int .i64 0, .int .i64 0, .int .i64 0, .int .i64 0] 25 true, .gen (rdE (A) g o n 4 (rvals xs))] : List Ent)) ((joinV _ _).trans (cellsR_eq (hullP_join (by omega) c6_ (of_decide_eq_false (eqInts_zero c7_)))))) ?_
    refine cont_again (i + 1) (show (i + 1) ≤ n from (by omega)) (show n - (i + 1) < n - i from by omega) (by kernel_rfl) (by kernel_rfl)
  replace c4_ := of_decide_eq_false c4_
  refine cont_false rfl ?_
  refine cont_exit ?_
  refine then_exit ?_
  refine then_exit ?_
  refine blk_exit ?_
  refine then_normal ?_
  refine cont_seq ?_
  refine cont_region 2 rfl ?_
  refine batch0 [0, 1] 2 0 [(2, .pointer (some ⟨b1, 0, none⟩))] [.cells b2 [.int .i64 ((hullP (xs.take i)).x0), .int .i64 ((hullP (xs.take i)).y0), .int .i64 ((hullP (xs.take i)).x1), .int .i64 ((hullP (xs.take i)).y1)] 25 true, .cells b1 [.int .i64 ((hullP (xs.take i)).x0), .int .i64 ((hullP (xs.take i)).y0), .int .i64 ((hullP (xs.take i)).x1), .int .i64 ((hullP (xs.take i)).y1)] 25 true, .gen (rdE (A) g o n 4 (rvals xs))] rfl rfl (by kernel_rfl) (by kernel_rfl) ?_
  refine cont_forget 0 rfl ?_
  refine cont_done ?_
  refine then_normal ?_
  refine cont_ret ?_
  refine ret_one (.inl rfl) rfl 0 (.agg #[.int .i64 ((hullP (xs.take i)).x0), .int .i64 ((hullP (xs.take i)).y0), .int .i64 ((hullP (xs.take i)).x1), .int .i64 ((hullP (xs.take i)).y1)]) (by kernel_rfl) (by kernel_rfl) (fun w hT => ?_)
  rw [show i = n by omega, List.take_of_length_le (show xs.length ≤ n by omega)]
  exact ⟨rfl, hT.post rfl⟩

theorem refHullQ (A : Option Addr) (g o n cap : Nat) (xs : List Rect) (w : World) (hT0 : Tab w w [.gen (rdE (A) g o n 4 (rvals xs))]) (hn : n ≤ 1000000000000) :
    Calls Try.prog 69 #[.slice A n cap] w fun e w' => e = .returned (.agg #[.int .i64 ((hullD xs).x0), .int .i64 ((hullD xs).y0), .int .i64 ((hullD xs).x1), .int .i64 ((hullD xs).y1)]) ∧ Below w.heap.size w w' := by
  obtain ⟨hra, hrl⟩ := Rd.factsR (hT0.ok 0 _ rfl)
  refine enter 60 [(0, .slice A n cap)] [.gen (rdE (A) g o n 4 (rvals xs))] Try.func69 rfl Try.ntmps69 rfl (by kernel_rfl) hT0 ?_
  refine cont_seq ?_
  refine cont_region 1 rfl ?_
  refine batch1 [0] 1 0 (fun b1 => [(0, .slice A n cap), (2, .pointer (some ⟨b1, 0, none⟩))]) (fun b1 => [.cells b1 [.int .i64 0, .int .i64 0, .int .i64 0, .int .i64 0] 25 true, .gen (rdE (A) g o n 4 (rvals xs))]) rfl rfl [0, 2] (fun _ => rfl) (fun b1 => by kernel_rfl) (fun b1 => by kernel_rfl) (fun b1 => ?_)
  refine cont_done ?_
  refine then_normal ?_
  refine cont_seq ?_
  refine cont_region 1 rfl ?_
  refine batch1 [0] 1 0 (fun b2 => [(0, .slice A n cap), (2, .pointer (some ⟨b1, 0, none⟩)), (3, .pointer (some ⟨b2, 0, none⟩))]) (fun b2 => [.cells b2 [.int .i64 0, .int .i64 0, .int .i64 0, .int .i64 0] 25 true, .cells b1 [.int .i64 0, .int .i64 0, .int .i64 0, .int .i64 0] 25 true, .gen (rdE (A) g o n 4 (rvals xs))]) rfl rfl [0, 2, 3] (fun _ => rfl) (fun b2 => by kernel_rfl) (fun b2 => by kernel_rfl) (fun b2 => ?_)
  refine cont_done ?_
  refine then_normal ?_
  refine cont_seq ?_
  refine cont_region 1 rfl ?_
  refine bS [0] 1 0 [(0, .slice A n cap), (2, .pointer (some ⟨b1, 0, none⟩)), (3, .pointer (some ⟨b2, 0, none⟩)), (4, .bool false)] ?_
  refine cont_done ?_
  refine then_normal ?_
  refine cont_seq ?_
  refine cont_seq ?_
  refine cont_region 1 rfl ?_
  refine bS [0] 1 0 [(0, .slice A n cap), (2, .pointer (some ⟨b1, 0, none⟩)), (3, .pointer (some ⟨b2, 0, none⟩)), (4, .bool false), (5, .int .i64 0)] ?_
  refine cont_done ?_
  refine then_normal ?_
  refine cont_block ?_
  refine cont_norm [(0, .slice A n cap), (2, .pointer (some ⟨b1, 0, none⟩)), (3, .pointer (some ⟨b2, 0, none⟩)), (4, .bool false), (5, .int .i64 0)] [.cells b2 [.int .i64 (((hullS (xs.take 0)).1).x0), .int .i64 (((hullS (xs.take 0)).1).y0), .int .i64 (((hullS (xs.take 0)).1).x1), .int .i64 (((hullS (xs.take 0)).1).y1)] 25 true, .cells b1 [.int .i64 0, .int .i64 0, .int .i64 0, .int .i64 0] 25 true, .gen (rdE (A) g o n 4 (rvals xs))] (by kernel_rfl) (congrArg (fun c_ : List Value => ([.cells b2 c_ 25 true, .cells b1 [.int .i64 0, .int .i64 0, .int .i64 0, .int .i64 0] 25 true, .gen (rdE (A) g o n 4 (rvals xs))] : List Ent)) (rfl : cellsR zeroR = cellsR (hullS (xs.take 0)).1)) ?_
  refine cont_recast 4 (.bool false) (.bool ((hullS (xs.take 0)).2)) rfl (congrArg (Value.bool) (rfl : false = (hullS (xs.take 0)).2)) ?_
  refine cont_loop (α := Nat) (fun x_ : Nat => x_ ≤ n) (fun x_ : Nat => [(0, .slice A n cap), (2, .pointer (some ⟨b1, 0, none⟩)), (3, .pointer (some ⟨b2, 0, none⟩)), (4, .bool ((hullS (xs.take x_)).2)), (5, .int .i64 (x_ : Int))]) (fun x_ : Nat => [.cells b2 [.int .i64 (((hullS (xs.take x_)).1).x0), .int .i64 (((hullS (xs.take x_)).1).y0), .int .i64 (((hullS (xs.take x_)).1).x1), .int .i64 (((hullS (xs.take x_)).1).y1)] 25 true, .cells b1 [.int .i64 0, .int .i64 0, .int .i64 0, .int .i64 0] 25 true, .gen (rdE (A) g o n 4 (rvals xs))]) (fun x_ : Nat => n - x_) 0 (by omega) (by kernel_rfl) (by kernel_rfl) ?_
  rintro i hinv3_
  replace hinv3_ : i ≤ n := hinv3_
  refine cont_norm [(0, .slice A n cap), (2, .pointer (some ⟨b1, 0, none⟩)), (3, .pointer (some ⟨b2, 0, none⟩)), (4, .bool ((hullS (xs.take i)).2)), (5, .int .i64 (i : Int))] [.cells b2 [.int .i64 (((hullS (xs.take i)).1).x0), .int .i64 (((hullS (xs.take i)).1).y0), .int .i64 (((hullS (xs.take i)).1).x1), .int .i64 (((hullS (xs.take i)).1).y1)] 25 true, .cells b1 [.int .i64 0, .int .i64 0, .int .i64 0, .int .i64 0] 25 true, .gen (rdE (A) g o n 4 (rvals xs))] (by kernel_rfl) rfl ?_
  have hi := hinv3_
  refine cont_seq ?_
  refine cont_seq ?_
  refine cont_region 4 rfl ?_
  refine bS [0, 0, 0, 0] 4 0 [(0, .slice A n cap), (2, .pointer (some ⟨b1, 0, none⟩)), (3, .pointer (some ⟨b2, 0, none⟩)), (4, .bool ((hullS (xs.take i)).2)), (5, .int .i64 (i : Int)), (9, .bool (decide ((i : Int) < (n : Int))))] ?_
  refine cont_done ?_
  refine then_normal ?_
  refine cont_split 9 (decide ((i : Int) < (n : Int))) rfl (fun c4_ => ?_) (fun c4_ => ?_)
  ·
    replace c4_ := of_decide_eq_true c4_
    refine cont_true rfl ?_
    refine cont_skip ?_
    refine then_normal ?_
    refine cont_seq ?_
    refine cont_block ?_
    refine cont_seq ?_
    refine cont_seq ?_
    refine cont_region 5 rfl ?_
    refine bS [0, 0] 2 3 [(0, .slice A n cap), (2, .pointer (some ⟨b1, 0, none⟩)), (3, .pointer (some ⟨b2, 0, none⟩)), (4, .bool ((hullS (xs.take i)).2)), (5, .int .i64 (i : Int)), (12, .slice A n cap), (13, .int .i64 (i : Int))] ?_
    refine pl_step 3 2 rfl rfl ?_
    refine cont_recast 12 (.slice A n cap) (.slice (some ⟨g, o, none⟩) n cap) rfl (by rw [hra (by omega)]) ?_
    refine sem_step 14 (Instr.indexAt 22 (.slice (some ⟨g, o, none⟩) n cap) (.int .i64 (i : Int))) (.pointer (some ⟨g, o + i * 4, none⟩)) (by kernel_rfl) (fun w hT => run_indexAt (e := 25) (sz := 4) _ (by kernel_rfl) (by kernel_rfl) (by omega) (by omega) (by omega) w) ?_
    refine pl_step 4 1 rfl rfl ?_
    refine sem_step 15 (Instr.loadAt 25 (.pointer (some ⟨g, o + i * 4, none⟩))) (.agg #[.int .i64 ((rget xs i).x0), .int .i64 ((rget xs i).y0), .int .i64 ((rget xs i).x1), .int .i64 ((rget xs i).y1)]) (by kernel_rfl) (fun w hT => run_loadN (m := 4) (cs := rcells (rget xs i)) (by kernel_rfl) (by kernel_rfl) rfl (Rd.rect (hT.ok 2 _ rfl) (by omega))) ?_
    refine pl_step 5 0 rfl rfl ?_
    refine call_pure (d := 16) (.bool (emptyB ((rget xs i).x0) ((rget xs i).y0) ((rget xs i).x1) ((rget xs i).y1))) (by kernel_rfl) (fun w hT => refEmpty ((rget xs i).x0) ((rget xs i).y0) ((rget xs i).x1) ((rget xs i).y1) w) ?_
    refine cont_done ?_
    refine then_normal ?_
    refine cont_split 16 (emptyB ((rget xs i).x0) ((rget xs i).y0) ((rget xs i).x1) ((rget xs i).y1)) rfl (fun c5_ => ?_) (fun c5_ => ?_)
    ·
      refine cont_true rfl ?_
      refine cont_exit ?_
      refine then_exit ?_
      refine blk_exit ?_
      refine then_normal ?_
      refine cont_region 3 rfl ?_
      refine bS [0, 0] 2 1 [(0, .slice A n cap), (2, .pointer (some ⟨b1, 0, none⟩)), (3, .pointer (some ⟨b2, 0, none⟩)), (4, .bool ((hullS (xs.take i)).2)), (11, .int .i64 (IntKind.i64.wrap ((i : Int) + 1)))] ?_
      refine cont_recast 11 (.int .i64 (IntKind.i64.wrap ((i : Int) + 1))) (.int .i64 ((i : Int) + 1)) rfl (wrapI (by omega) (by omega)) ?_
      refine bS [0] 3 0 [(0, .slice A n cap), (2, .pointer (some ⟨b1, 0, none⟩)), (3, .pointer (some ⟨b2, 0, none⟩)), (4, .bool ((hullS (xs.take i)).2)), (5, .int .i64 ((i : Int) + 1))] ?_
      refine cont_done ?_
      refine then_normal ?_
      refine cont_norm [(0, .slice A n cap), (2, .pointer (some ⟨b1, 0, none⟩)), (3, .pointer (some ⟨b2, 0, none⟩)), (4, .bool ((hullS (xs.take i)).2)), (5, .int .i64 ((i : Int) + 1))] [.cells b2 [.int .i64 (((hullS (xs.take (i + 1))).1).x0), .int .i64 (((hullS (xs.take (i + 1))).1).y0), .int .i64 (((hullS (xs.take (i + 1))).1).x1), .int .i64 (((hullS (xs.take (i + 1))).1).y1)] 25 true, .cells b1 [.int .i64 0, .int .i64 0, .int .i64 0, .int .i64 0] 25 true, .gen (rdE (A) g o n 4 (rvals xs))] (by kernel_rfl) (congrArg (fun c_ : List Value => ([.cells b2 c_ 25 true, .cells b1 [.int .i64 0, .int .i64 0, .int .i64 0, .int .i64 0] 25 true, .gen (rdE (A) g o n 4 (rvals xs))] : List Ent)) (cellsR_eq (congrArg Prod.fst (hullS_skip (by omega) c5_)))) ?_
      refine cont_recast 4 (.bool ((hullS (xs.take i)).2)) (.bool ((hullS (xs.take (i + 1))).2)) rfl (congrArg (Value.bool) (congrArg Prod.snd (hullS_skip (by omega) c5_))) ?_
      refine cont_again (i + 1) (show (i + 1) ≤ n from (by omega)) (show n - (i + 1) < n - i from by omega) (by kernel_rfl) (by kernel_rfl)
    refine cont_false rfl ?_
    refine cont_skip ?_
    refine then_normal ?_
    refine cont_seq ?_
    refine cont_seq ?_
    refine cont_region 2 rfl ?_
    refine bS [0, 0] 2 0 [(0, .slice A n cap), (2, .pointer (some ⟨b1, 0, none⟩)), (3, .pointer (some ⟨b2, 0, none⟩)), (4, .bool ((hullS (xs.take i)).2)), (5, .int .i64 (i : Int)), (18, .bool (!((hullS (xs.take i)).2)))] ?_
    refine cont_done ?_
    refine then_normal ?_
    refine cont_split 18 (!((hullS (xs.take i)).2)) rfl (fun c6_ => ?_) (fun c6_ => ?_)
    ·
      replace c6_ : ((hullS (xs.take i)).2) = false := by simpa using c6_
      refine cont_true rfl ?_
      refine cont_seq ?_
      refine cont_region 5 rfl ?_
      refine bS [0, 0] 2 3 [(0, .slice A n cap), (2, .pointer (some ⟨b1, 0, none⟩)), (3, .pointer (some ⟨b2, 0, none⟩)), (5, .int .i64 (i : Int)), (19, .slice A n cap), (20, .int .i64 (i : Int))] ?_
      refine pl_step 3 2 rfl rfl ?_
      refine cont_recast 19 (.slice A n cap) (.slice (some ⟨g, o, none⟩) n cap) rfl (by rw [hra (by omega)]) ?_
      refine sem_step 21 (Instr.indexAt 22 (.slice (some ⟨g, o, none⟩) n cap) (.int .i64 (i : Int))) (.pointer (some ⟨g, o + i * 4, none⟩)) (by kernel_rfl) (fun w hT => run_indexAt (e := 25) (sz := 4) _ (by kernel_rfl) (by kernel_rfl) (by omega) (by omega) (by omega) w) ?_
      refine pl_step 4 1 rfl rfl ?_
      refine sem_step 22 (Instr.loadAt 25 (.pointer (some ⟨g, o + i * 4, none⟩))) (.agg #[.int .i64 ((rget xs i).x0), .int .i64 ((rget xs i).y0), .int .i64 ((rget xs i).x1), .int .i64 ((rget xs i).y1)]) (by kernel_rfl) (fun w hT => run_loadN (m := 4) (cs := rcells (rget xs i)) (by kernel_rfl) (by kernel_rfl) rfl (Rd.rect (hT.ok 2 _ rfl) (by omega))) ?_
      refine batch0 [0] 5 0 [(0, .slice A n cap), (2, .pointer (some ⟨b1, 0, none⟩)), (3, .pointer (some ⟨b2, 0, none⟩)), (5, .int .i64 (i : Int))] [.cells b2 [.int .i64 ((rget xs i).x0), .int .i64 ((rget xs i).y0), .int .i64 ((rget xs i).x1), .int .i64 ((rget xs i).y1)] 25 true, .cells b1 [.int .i64 0, .int .i64 0, .int .i64 0, .int .i64 0] 25 true, .gen (rdE (A) g o n 4 (rvals xs))] rfl rfl (by kernel_rfl) (by kernel_rfl) ?_
      refine cont_done ?_
      refine then_normal ?_
      refine cont_region 1 rfl ?_
      refine bS [0] 1 0 [(0, .slice A n cap), (2, .pointer (some ⟨b1, 0, none⟩)), (3, .pointer (some ⟨b2, 0, none⟩)), (4, .bool true), (5, .int .i64 (i : Int))] ?_
      refine cont_done ?_
      refine then_normal ?_
      refine cont_seq ?_
      refine drawn_enter 10 [0] rfl (by kernel_rfl) ?_
      refine takes 0 [0] [(0, 0), (2, 0), (3, 0)] 7 [3, 2, 0] [(0, .slice A n cap), (2, .pointer (some ⟨b1, 0, none⟩)), (3, .pointer (some ⟨b2, 0, none⟩)), (4, .bool true), (5, .int .i64 (i : Int)), (23, .pointer (some ⟨b2, 0, none⟩)), (25, .slice A n cap), (26, .int .i64 (i : Int))] (by kernel_rfl) (pok_then (pok_blk (pok_then (pok_then (pok_blk (pok_then pok_body)))))) (by kernel_rfl) rfl rfl (by kernel_rfl) (by kernel_rfl) ?_
      refine cont_recast 25 (.slice A n cap) (.slice (some ⟨g, o, none⟩) n cap) rfl (by rw [hra (by omega)]) ?_
      refine sem_take 0 [0] 4 6 27 (Instr.indexAt 22 (.slice (some ⟨g, o, none⟩) n cap) (.int .i64 (i : Int))) (.pointer (some ⟨g, o + i * 4, none⟩)) (by kernel_rfl) (pok_then (pok_blk (pok_then (pok_then (pok_blk (pok_then pok_body)))))) (by kernel_rfl) rfl (by kernel_rfl) (by kernel_rfl) (fun w hT => run_indexAt (e := 25) (sz := 4) _ (by kernel_rfl) (by kernel_rfl) (by omega) (by omega) (by omega) w) ?_
      refine takes 0 [0] [(5, 0)] 5 [5, 4, 3, 2, 0] [(0, .slice A n cap), (2, .pointer (some ⟨b1, 0, none⟩)), (3, .pointer (some ⟨b2, 0, none⟩)), (4, .bool true), (5, .int .i64 (i : Int)), (23, .pointer (some ⟨b2, 0, none⟩)), (28, .pointer (some ⟨g, o + i * 4, none⟩))] (by kernel_rfl) (pok_then (pok_blk (pok_then (pok_then (pok_blk (pok_then pok_body)))))) (by kernel_rfl) rfl rfl (by kernel_rfl) (by kernel_rfl) ?_
      refine sem_take 0 [0] 6 4 29 (Instr.loadAt 3 (.pointer (some ⟨g, o + i * 4, none⟩))) (.int .i64 ((rget xs i).x0)) (by kernel_rfl) (pok_then (pok_blk (pok_then (pok_then (pok_blk (pok_then pok_body)))))) (by kernel_rfl) rfl (by kernel_rfl) (by kernel_rfl) (fun w hT => run_load1 (by kernel_rfl) (Rd.cellF (hT 2 _ rfl) i 0 _ (by omega) rfl)) ?_
      refine drawn_one 1 3 rfl (by kernel_rfl) ?_
      refine one_step 0 [(0, .slice A n cap), (2, .pointer (some ⟨b1, 0, none⟩)), (3, .pointer (some ⟨b2, 0, none⟩)), (4, .bool true), (5, .int .i64 (i : Int)), (24, .int .i64 ((rget xs i).x0)), (29, .int .i64 ((rget xs i).x0))] [.cells b2 [.int .i64 ((rget xs i).x0), .int .i64 ((rget xs i).y0), .int .i64 ((rget xs i).x1), .int .i64 ((rget xs i).y1)] 25 true, .cells b1 [.int .i64 0, .int .i64 0, .int .i64 0, .int .i64 0] 25 true, .gen (rdE (A) g o n 4 (rvals xs))] (by kernel_rfl) (by kernel_rfl) ?_
      refine drawn_next 0 [0] (by kernel_rfl) ?_
      refine takes 0 [0] [(7, 0), (8, 0)] 1 [8, 7, 1, 6, 5, 4, 3, 2, 0] [(0, .slice A n cap), (2, .pointer (some ⟨b1, 0, none⟩)), (3, .pointer (some ⟨b2, 0, none⟩)), (4, .bool true), (5, .int .i64 (i : Int)), (30, .int .i64 (mn ((rget xs i).x0) ((rget xs i).x0))), (31, .pointer (some ⟨b2, 0, none⟩))] (by kernel_rfl) (pok_then (pok_blk (pok_then (pok_then (pok_blk (pok_then pok_body)))))) (by kernel_rfl) rfl rfl (by kernel_rfl) (by kernel_rfl) ?_
      refine drawn_one 9 0 rfl (by kernel_rfl) ?_
      refine one_step 0 [(0, .slice A n cap), (2, .pointer (some ⟨b1, 0, none⟩)), (3, .pointer (some ⟨b2, 0, none⟩)), (4, .bool true), (5, .int .i64 (i : Int))] [.cells b2 [.int .i64 (mn ((rget xs i).x0) ((rget xs i).x0)), .int .i64 ((rget xs i).y0), .int .i64 ((rget xs i).x1), .int .i64 ((rget xs i).y1)] 25 true, .cells b1 [.int .i64 0, .int .i64 0, .int .i64 0, .int .i64 0] 25 true, .gen (rdE (A) g o n 4 (rvals xs))] (by kernel_rfl) (by kernel_rfl) ?_
      refine drawn_next 0 [0] (by kernel_rfl) ?_
      refine drawn_done (by kernel_rfl) ?_
      refine then_normal ?_
      refine cont_seq ?_
      refine drawn_enter 10 [0] rfl (by kernel_rfl) ?_
      refine takes 0 [0] [(0, 0), (2, 0), (3, 0)] 7 [3, 2, 0] [(0, .slice A n cap), (2, .pointer (some ⟨b1, 0, none⟩)), (3, .pointer (some ⟨b2, 0, none⟩)), (4, .bool true), (5, .int .i64 (i : Int)), (32, .pointer (some ⟨b2, 1, none⟩)), (34, .slice A n cap), (35, .int .i64 (i : Int))] (by kernel_rfl) (pok_then (pok_blk (pok_then (pok_then (pok_blk (pok_then pok_body)))))) (by kernel_rfl) rfl rfl (by kernel_rfl) (by kernel_rfl) ?_
      refine cont_recast 34 (.slice A n cap) (.slice (some ⟨g, o, none⟩) n cap) rfl (by rw [hra (by omega)]) ?_
      refine sem_take 0 [0] 4 6 36 (Instr.indexAt 22 (.slice (some ⟨g, o, none⟩) n cap) (.int .i64 (i : Int))) (.pointer (some ⟨g, o + i * 4, none⟩)) (by kernel_rfl) (pok_then (pok_blk (pok_then (pok_then (pok_blk (pok_then pok_body)))))) (by kernel_rfl) rfl (by kernel_rfl) (by kernel_rfl) (fun w hT => run_indexAt (e := 25) (sz := 4) _ (by kernel_rfl) (by kernel_rfl) (by omega) (by omega) (by omega) w) ?_
      refine takes 0 [0] [(5, 0)] 5 [5, 4, 3, 2, 0] [(0, .slice A n cap), (2, .pointer (some ⟨b1, 0, none⟩)), (3, .pointer (some ⟨b2, 0, none⟩)), (4, .bool true), (5, .int .i64 (i : Int)), (32, .pointer (some ⟨b2, 1, none⟩)), (37, .pointer (some ⟨g, o + i * 4 + 1, none⟩))] (by kernel_rfl) (pok_then (pok_blk (pok_then (pok_then (pok_blk (pok_then pok_body)))))) (by kernel_rfl) rfl rfl (by kernel_rfl) (by kernel_rfl) ?_
      refine sem_take 0 [0] 6 4 38 (Instr.loadAt 3 (.pointer (some ⟨g, o + i * 4 + 1, none⟩))) (.int .i64 ((rget xs i).y0)) (by kernel_rfl) (pok_then (pok_blk (pok_then (pok_then (pok_blk (pok_then pok_body)))))) (by kernel_rfl) rfl (by kernel_rfl) (by kernel_rfl) (fun w hT => run_load1 (by kernel_rfl) (Rd.cellF (hT 2 _ rfl) i 1 _ (by omega) rfl)) ?_
      refine drawn_one 1 3 rfl (by kernel_rfl) ?_
      refine one_step 0 [(0, .slice A n cap), (2, .pointer (some ⟨b1, 0, none⟩)), (3, .pointer (some ⟨b2, 0, none⟩)), (4, .bool true), (5, .int .i64 (i : Int)), (33, .int .i64 ((rget xs i).y0)), (38, .int .i64 ((rget xs i).y0))] [.cells b2 [.int .i64 (mn ((rget xs i).x0) ((rget xs i).x0)), .int .i64 ((rget xs i).y0), .int .i64 ((rget xs i).x1), .int .i64 ((rget xs i).y1)] 25 true, .cells b1 [.int .i64 0, .int .i64 0, .int .i64 0, .int .i64 0] 25 true, .gen (rdE (A) g o n 4 (rvals xs))] (by kernel_rfl) (by kernel_rfl) ?_
      refine drawn_next 0 [0] (by kernel_rfl) ?_
      refine takes 0 [0] [(7, 0), (8, 0)] 1 [8, 7, 1, 6, 5, 4, 3, 2, 0] [(0, .slice A n cap), (2, .pointer (some ⟨b1, 0, none⟩)), (3, .pointer (some ⟨b2, 0, none⟩)), (4, .bool true), (5, .int .i64 (i : Int)), (39, .int .i64 (mn ((rget xs i).y0) ((rget xs i).y0))), (40, .pointer (some ⟨b2, 1, none⟩))] (by kernel_rfl) (pok_then (pok_blk (pok_then (pok_then (pok_blk (pok_then pok_body)))))) (by kernel_rfl) rfl rfl (by kernel_rfl) (by kernel_rfl) ?_
      refine drawn_one 9 0 rfl (by kernel_rfl) ?_
      refine one_step 0 [(0, .slice A n cap), (2, .pointer (some ⟨b1, 0, none⟩)), (3, .pointer (some ⟨b2, 0, none⟩)), (4, .bool true), (5, .int .i64 (i : Int))] [.cells b2 [.int .i64 (mn ((rget xs i).x0) ((rget xs i).x0)), .int .i64 (mn ((rget xs i).y0) ((rget xs i).y0)), .int .i64 ((rget xs i).x1), .int .i64 ((rget xs i).y1)] 25 true, .cells b1 [.int .i64 0, .int .i64 0, .int .i64 0, .int .i64 0] 25 true, .gen (rdE (A) g o n 4 (rvals xs))] (by kernel_rfl) (by kernel_rfl) ?_
      refine drawn_next 0 [0] (by kernel_rfl) ?_
      refine drawn_done (by kernel_rfl) ?_
      refine then_normal ?_
      refine cont_seq ?_
      refine drawn_enter 10 [0] rfl (by kernel_rfl) ?_
      refine takes 0 [0] [(0, 0), (2, 0), (3, 0)] 7 [3, 2, 0] [(0, .slice A n cap), (2, .pointer (some ⟨b1, 0, none⟩)), (3, .pointer (some ⟨b2, 0, none⟩)), (4, .bool true), (5, .int .i64 (i : Int)), (41, .pointer (some ⟨b2, 2, none⟩)), (43, .slice A n cap), (44, .int .i64 (i : Int))] (by kernel_rfl) (pok_then (pok_blk (pok_then (pok_then (pok_blk (pok_then pok_body)))))) (by kernel_rfl) rfl rfl (by kernel_rfl) (by kernel_rfl) ?_
      refine cont_recast 43 (.slice A n cap) (.slice (some ⟨g, o, none⟩) n cap) rfl (by rw [hra (by omega)]) ?_
      refine sem_take 0 [0] 4 6 45 (Instr.indexAt 22 (.slice (some ⟨g, o, none⟩) n cap) (.int .i64 (i : Int))) (.pointer (some ⟨g, o + i * 4, none⟩)) (by kernel_rfl) (pok_then (pok_blk (pok_then (pok_then (pok_blk (pok_then pok_body)))))) (by kernel_rfl) rfl (by kernel_rfl) (by kernel_rfl) (fun w hT => run_indexAt (e := 25) (sz := 4) _ (by kernel_rfl) (by kernel_rfl) (by omega) (by omega) (by omega) w) ?_
      refine takes 0 [0] [(5, 0)] 5 [5, 4, 3, 2, 0] [(0, .slice A n cap), (2, .pointer (some ⟨b1, 0, none⟩)), (3, .pointer (some ⟨b2, 0, none⟩)), (4, .bool true), (5, .int .i64 (i : Int)), (41, .pointer (some ⟨b2, 2, none⟩)), (46, .pointer (some ⟨g, o + i * 4 + 2, none⟩))] (by kernel_rfl) (pok_then (pok_blk (pok_then (pok_then (pok_blk (pok_then pok_body)))))) (by kernel_rfl) rfl rfl (by kernel_rfl) (by kernel_rfl) ?_
      refine sem_take 0 [0] 6 4 47 (Instr.loadAt 3 (.pointer (some ⟨g, o + i * 4 + 2, none⟩))) (.int .i64 ((rget xs i).x1)) (by kernel_rfl) (pok_then (pok_blk (pok_then (pok_then (pok_blk (pok_then pok_body)))))) (by kernel_rfl) rfl (by kernel_rfl) (by kernel_rfl) (fun w hT => run_load1 (by kernel_rfl) (Rd.cellF (hT 2 _ rfl) i 2 _ (by omega) rfl)) ?_
      refine drawn_one 1 3 rfl (by kernel_rfl) ?_
      refine one_step 0 [(0, .slice A n cap), (2, .pointer (some ⟨b1, 0, none⟩)), (3, .pointer (some ⟨b2, 0, none⟩)), (4, .bool true), (5, .int .i64 (i : Int)), (42, .int .i64 ((rget xs i).x1)), (47, .int .i64 ((rget xs i).x1))] [.cells b2 [.int .i64 (mn ((rget xs i).x0) ((rget xs i).x0)), .int .i64 (mn ((rget xs i).y0) ((rget xs i).y0)), .int .i64 ((rget xs i).x1), .int .i64 ((rget xs i).y1)] 25 true, .cells b1 [.int .i64 0, .int .i64 0, .int .i64 0, .int .i64 0] 25 true, .gen (rdE (A) g o n 4 (rvals xs))] (by kernel_rfl) (by kernel_rfl) ?_
      refine drawn_next 0 [0] (by kernel_rfl) ?_
      refine takes 0 [0] [(7, 0), (8, 0)] 1 [8, 7, 1, 6, 5, 4, 3, 2, 0] [(0, .slice A n cap), (2, .pointer (some ⟨b1, 0, none⟩)), (3, .pointer (some ⟨b2, 0, none⟩)), (4, .bool true), (5, .int .i64 (i : Int)), (48, .int .i64 (mx ((rget xs i).x1) ((rget xs i).x1))), (49, .pointer (some ⟨b2, 2, none⟩))] (by kernel_rfl) (pok_then (pok_blk (pok_then (pok_then (pok_blk (pok_then pok_body)))))) (by kernel_rfl) rfl rfl (by kernel_rfl) (by kernel_rfl) ?_
      refine drawn_one 9 0 rfl (by kernel_rfl) ?_
      refine one_step 0 [(0, .slice A n cap), (2, .pointer (some ⟨b1, 0, none⟩)), (3, .pointer (some ⟨b2, 0, none⟩)), (4, .bool true), (5, .int .i64 (i : Int))] [.cells b2 [.int .i64 (mn ((rget xs i).x0) ((rget xs i).x0)), .int .i64 (mn ((rget xs i).y0) ((rget xs i).y0)), .int .i64 (mx ((rget xs i).x1) ((rget xs i).x1)), .int .i64 ((rget xs i).y1)] 25 true, .cells b1 [.int .i64 0, .int .i64 0, .int .i64 0, .int .i64 0] 25 true, .gen (rdE (A) g o n 4 (rvals xs))] (by kernel_rfl) (by kernel_rfl) ?_
      refine drawn_next 0 [0] (by kernel_rfl) ?_
      refine drawn_done (by kernel_rfl) ?_
      refine then_normal ?_
      refine drawn_enter 10 [0] rfl (by kernel_rfl) ?_
      refine takes 0 [0] [(0, 0), (2, 0), (3, 0)] 7 [3, 2, 0] [(0, .slice A n cap), (2, .pointer (some ⟨b1, 0, none⟩)), (3, .pointer (some ⟨b2, 0, none⟩)), (4, .bool true), (5, .int .i64 (i : Int)), (50, .pointer (some ⟨b2, 3, none⟩)), (52, .slice A n cap), (53, .int .i64 (i : Int))] (by kernel_rfl) (pok_blk (pok_then (pok_then (pok_blk (pok_then pok_body))))) (by kernel_rfl) rfl rfl (by kernel_rfl) (by kernel_rfl) ?_
      refine cont_recast 52 (.slice A n cap) (.slice (some ⟨g, o, none⟩) n cap) rfl (by rw [hra (by omega)]) ?_
      refine sem_take 0 [0] 4 6 54 (Instr.indexAt 22 (.slice (some ⟨g, o, none⟩) n cap) (.int .i64 (i : Int))) (.pointer (some ⟨g, o + i * 4, none⟩)) (by kernel_rfl) (pok_blk (pok_then (pok_then (pok_blk (pok_then pok_body))))) (by kernel_rfl) rfl (by kernel_rfl) (by kernel_rfl) (fun w hT => run_indexAt (e := 25) (sz := 4) _ (by kernel_rfl) (by kernel_rfl) (by omega) (by omega) (by omega) w) ?_
      refine takes 0 [0] [(5, 0)] 5 [5, 4, 3, 2, 0] [(0, .slice A n cap), (2, .pointer (some ⟨b1, 0, none⟩)), (3, .pointer (some ⟨b2, 0, none⟩)), (4, .bool true), (5, .int .i64 (i : Int)), (50, .pointer (some ⟨b2, 3, none⟩)), (55, .pointer (some ⟨g, o + i * 4 + 3, none⟩))] (by kernel_rfl) (pok_blk (pok_then (pok_then (pok_blk (pok_then pok_body))))) (by kernel_rfl) rfl rfl (by kernel_rfl) (by kernel_rfl) ?_
      refine sem_take 0 [0] 6 4 56 (Instr.loadAt 3 (.pointer (some ⟨g, o + i * 4 + 3, none⟩))) (.int .i64 ((rget xs i).y1)) (by kernel_rfl) (pok_blk (pok_then (pok_then (pok_blk (pok_then pok_body))))) (by kernel_rfl) rfl (by kernel_rfl) (by kernel_rfl) (fun w hT => run_load1 (by kernel_rfl) (Rd.cellF (hT 2 _ rfl) i 3 _ (by omega) rfl)) ?_
      refine drawn_one 1 3 rfl (by kernel_rfl) ?_
      refine one_step 0 [(0, .slice A n cap), (2, .pointer (some ⟨b1, 0, none⟩)), (3, .pointer (some ⟨b2, 0, none⟩)), (4, .bool true), (5, .int .i64 (i : Int)), (51, .int .i64 ((rget xs i).y1)), (56, .int .i64 ((rget xs i).y1))] [.cells b2 [.int .i64 (mn ((rget xs i).x0) ((rget xs i).x0)), .int .i64 (mn ((rget xs i).y0) ((rget xs i).y0)), .int .i64 (mx ((rget xs i).x1) ((rget xs i).x1)), .int .i64 ((rget xs i).y1)] 25 true, .cells b1 [.int .i64 0, .int .i64 0, .int .i64 0, .int .i64 0] 25 true, .gen (rdE (A) g o n 4 (rvals xs))] (by kernel_rfl) (by kernel_rfl) ?_
      refine drawn_next 0 [0] (by kernel_rfl) ?_
      refine takes 0 [0] [(7, 0), (8, 0)] 1 [8, 7, 1, 6, 5, 4, 3, 2, 0] [(0, .slice A n cap), (2, .pointer (some ⟨b1, 0, none⟩)), (3, .pointer (some ⟨b2, 0, none⟩)), (4, .bool true), (5, .int .i64 (i : Int)), (57, .int .i64 (mx ((rget xs i).y1) ((rget xs i).y1))), (58, .pointer (some ⟨b2, 3, none⟩))] (by kernel_rfl) (pok_blk (pok_then (pok_then (pok_blk (pok_then pok_body))))) (by kernel_rfl) rfl rfl (by kernel_rfl) (by kernel_rfl) ?_
      refine drawn_one 9 0 rfl (by kernel_rfl) ?_
      refine one_step 0 [(0, .slice A n cap), (2, .pointer (some ⟨b1, 0, none⟩)), (3, .pointer (some ⟨b2, 0, none⟩)), (4, .bool true), (5, .int .i64 (i : Int))] [.cells b2 [.int .i64 (mn ((rget xs i).x0) ((rget xs i).x0)), .int .i64 (mn ((rget xs i).y0) ((rget xs i).y0)), .int .i64 (mx ((rget xs i).x1) ((rget xs i).x1)), .int .i64 (mx ((rget xs i).y1) ((rget xs i).y1))] 25 true, .cells b1 [.int .i64 0, .int .i64 0, .int .i64 0, .int .i64 0] 25 true, .gen (rdE (A) g o n 4 (rvals xs))] (by kernel_rfl) (by kernel_rfl) ?_
      refine drawn_next 0 [0] (by kernel_rfl) ?_
      refine drawn_done (by kernel_rfl) ?_
      refine blk_normal ?_
      refine then_normal ?_
      refine cont_region 3 rfl ?_
      refine bS [0, 0] 2 1 [(0, .slice A n cap), (2, .pointer (some ⟨b1, 0, none⟩)), (3, .pointer (some ⟨b2, 0, none⟩)), (4, .bool true), (11, .int .i64 (IntKind.i64.wrap ((i : Int) + 1)))] ?_
      refine cont_recast 11 (.int .i64 (IntKind.i64.wrap ((i : Int) + 1))) (.int .i64 ((i : Int) + 1)) rfl (wrapI (by omega) (by omega)) ?_
      refine bS [0] 3 0 [(0, .slice A n cap), (2, .pointer (some ⟨b1, 0, none⟩)), (3, .pointer (some ⟨b2, 0, none⟩)), (4, .bool true), (5, .int .i64 ((i : Int) + 1))] ?_
      refine cont_done ?_
      refine then_normal ?_
      refine cont_norm [(0, .slice A n cap), (2, .pointer (some ⟨b1, 0, none⟩)), (3, .pointer (some ⟨b2, 0, none⟩)), (4, .bool true), (5, .int .i64 ((i : Int) + 1))] [.cells b2 [.int .i64 (((hullS (xs.take (i + 1))).1).x0), .int .i64 (((hullS (xs.take (i + 1))).1).y0), .int .i64 (((hullS (xs.take (i + 1))).1).x1), .int .i64 (((hullS (xs.take (i + 1))).1).y1)] 25 true, .cells b1 [.int .i64 0, .int .i64 0, .int .i64 0, .int .i64 0] 25 true, .gen (rdE (A) g o n 4 (rvals xs))] (by kernel_rfl) (congrArg (fun c_ : List Value => ([.cells b2 c_ 25 true, .cells b1 [.int .i64 0, .int .i64 0, .int .i64 0, .int .i64 0] 25 true, .gen (rdE (A) g o n 4 (rvals xs))] : List Ent)) ((joinV _ _).trans (cellsR_eq (congrArg Prod.fst (hullS_first (by omega) c5_ c6_))))) ?_
      refine cont_recast 4 (.bool true) (.bool ((hullS (xs.take (i + 1))).2)) rfl (congrArg (Value.bool) (by rw [← (hullS_first (by omega) c5_ c6_)]; first | done | exact c6_)) ?_
      refine cont_again (i + 1) (show (i + 1) ≤ n from (by omega)) (show n - (i + 1) < n - i from by omega) (by kernel_rfl) (by kernel_rfl)
    replace c6_ : ((hullS (xs.take i)).2) = true := by simpa using c6_
    refine cont_false rfl ?_
    refine cont_skip ?_
    refine then_normal ?_
    refine cont_seq ?_
    refine drawn_enter 10 [0] rfl (by kernel_rfl) ?_
    refine takes 0 [0] [(0, 0), (2, 0), (3, 0)] 7 [3, 2, 0] [(0, .slice A n cap), (2, .pointer (some ⟨b1, 0, none⟩)), (3, .pointer (some ⟨b2, 0, none⟩)), (4, .bool ((hullS (xs.take i)).2)), (5, .int .i64 (i : Int)), (23, .pointer (some ⟨b2, 0, none⟩)), (25, .slice A n cap), (26, .int .i64 (i : Int))] (by kernel_rfl) (pok_then (pok_blk (pok_then (pok_then (pok_blk (pok_then pok_body)))))) (by kernel_rfl) rfl rfl (by kernel_rfl) (by kernel_rfl) ?_
    refine cont_recast 25 (.slice A n cap) (.slice (some ⟨g, o, none⟩) n cap) rfl (by rw [hra (by omega)]) ?_
    refine sem_take 0 [0] 4 6 27 (Instr.indexAt 22 (.slice (some ⟨g, o, none⟩) n cap) (.int .i64 (i : Int))) (.pointer (some ⟨g, o + i * 4, none⟩)) (by kernel_rfl) (pok_then (pok_blk (pok_then (pok_then (pok_blk (pok_then pok_body)))))) (by kernel_rfl) rfl (by kernel_rfl) (by kernel_rfl) (fun w hT => run_indexAt (e := 25) (sz := 4) _ (by kernel_rfl) (by kernel_rfl) (by omega) (by omega) (by omega) w) ?_
    refine takes 0 [0] [(5, 0)] 5 [5, 4, 3, 2, 0] [(0, .slice A n cap), (2, .pointer (some ⟨b1, 0, none⟩)), (3, .pointer (some ⟨b2, 0, none⟩)), (4, .bool ((hullS (xs.take i)).2)), (5, .int .i64 (i : Int)), (23, .pointer (some ⟨b2, 0, none⟩)), (28, .pointer (some ⟨g, o + i * 4, none⟩))] (by kernel_rfl) (pok_then (pok_blk (pok_then (pok_then (pok_blk (pok_then pok_body)))))) (by kernel_rfl) rfl rfl (by kernel_rfl) (by kernel_rfl) ?_
    refine sem_take 0 [0] 6 4 29 (Instr.loadAt 3 (.pointer (some ⟨g, o + i * 4, none⟩))) (.int .i64 ((rget xs i).x0)) (by kernel_rfl) (pok_then (pok_blk (pok_then (pok_then (pok_blk (pok_then pok_body)))))) (by kernel_rfl) rfl (by kernel_rfl) (by kernel_rfl) (fun w hT => run_load1 (by kernel_rfl) (Rd.cellF (hT 2 _ rfl) i 0 _ (by omega) rfl)) ?_
    refine drawn_one 1 3 rfl (by kernel_rfl) ?_
    refine one_step 0 [(0, .slice A n cap), (2, .pointer (some ⟨b1, 0, none⟩)), (3, .pointer (some ⟨b2, 0, none⟩)), (4, .bool ((hullS (xs.take i)).2)), (5, .int .i64 (i : Int)), (24, .int .i64 (((hullS (xs.take i)).1).x0)), (29, .int .i64 ((rget xs i).x0))] [.cells b2 [.int .i64 (((hullS (xs.take i)).1).x0), .int .i64 (((hullS (xs.take i)).1).y0), .int .i64 (((hullS (xs.take i)).1).x1), .int .i64 (((hullS (xs.take i)).1).y1)] 25 true, .cells b1 [.int .i64 0, .int .i64 0, .int .i64 0, .int .i64 0] 25 true, .gen (rdE (A) g o n 4 (rvals xs))] (by kernel_rfl) (by kernel_rfl) ?_
    refine drawn_next 0 [0] (by kernel_rfl) ?_
    refine takes 0 [0] [(7, 0), (8, 0)] 1 [8, 7, 1, 6, 5, 4, 3, 2, 0] [(0, .slice A n cap), (2, .pointer (some ⟨b1, 0, none⟩)), (3, .pointer (some ⟨b2, 0, none⟩)), (4, .bool ((hullS (xs.take i)).2)), (5, .int .i64 (i : Int)), (30, .int .i64 (mn (((hullS (xs.take i)).1).x0) ((rget xs i).x0))), (31, .pointer (some ⟨b2, 0, none⟩))] (by kernel_rfl) (pok_then (pok_blk (pok_then (pok_then (pok_blk (pok_then pok_body)))))) (by kernel_rfl) rfl rfl (by kernel_rfl) (by kernel_rfl) ?_
    refine drawn_one 9 0 rfl (by kernel_rfl) ?_
    refine one_step 0 [(0, .slice A n cap), (2, .pointer (some ⟨b1, 0, none⟩)), (3, .pointer (some ⟨b2, 0, none⟩)), (4, .bool ((hullS (xs.take i)).2)), (5, .int .i64 (i : Int))] [.cells b2 [.int .i64 (mn (((hullS (xs.take i)).1).x0) ((rget xs i).x0)), .int .i64 (((hullS (xs.take i)).1).y0), .int .i64 (((hullS (xs.take i)).1).x1), .int .i64 (((hullS (xs.take i)).1).y1)] 25 true, .cells b1 [.int .i64 0, .int .i64 0, .int .i64 0, .int .i64 0] 25 true, .gen (rdE (A) g o n 4 (rvals xs))] (by kernel_rfl) (by kernel_rfl) ?_
    refine drawn_next 0 [0] (by kernel_rfl) ?_
    refine drawn_done (by kernel_rfl) ?_
    refine then_normal ?_
    refine cont_seq ?_
    refine drawn_enter 10 [0] rfl (by kernel_rfl) ?_
    refine takes 0 [0] [(0, 0), (2, 0), (3, 0)] 7 [3, 2, 0] [(0, .slice A n cap), (2, .pointer (some ⟨b1, 0, none⟩)), (3, .pointer (some ⟨b2, 0, none⟩)), (4, .bool ((hullS (xs.take i)).2)), (5, .int .i64 (i : Int)), (32, .pointer (some ⟨b2, 1, none⟩)), (34, .slice A n cap), (35, .int .i64 (i : Int))] (by kernel_rfl) (pok_then (pok_blk (pok_then (pok_then (pok_blk (pok_then pok_body)))))) (by kernel_rfl) rfl rfl (by kernel_rfl) (by kernel_rfl) ?_
    refine cont_recast 34 (.slice A n cap) (.slice (some ⟨g, o, none⟩) n cap) rfl (by rw [hra (by omega)]) ?_
    refine sem_take 0 [0] 4 6 36 (Instr.indexAt 22 (.slice (some ⟨g, o, none⟩) n cap) (.int .i64 (i : Int))) (.pointer (some ⟨g, o + i * 4, none⟩)) (by kernel_rfl) (pok_then (pok_blk (pok_then (pok_then (pok_blk (pok_then pok_body)))))) (by kernel_rfl) rfl (by kernel_rfl) (by kernel_rfl) (fun w hT => run_indexAt (e := 25) (sz := 4) _ (by kernel_rfl) (by kernel_rfl) (by omega) (by omega) (by omega) w) ?_
    refine takes 0 [0] [(5, 0)] 5 [5, 4, 3, 2, 0] [(0, .slice A n cap), (2, .pointer (some ⟨b1, 0, none⟩)), (3, .pointer (some ⟨b2, 0, none⟩)), (4, .bool ((hullS (xs.take i)).2)), (5, .int .i64 (i : Int)), (32, .pointer (some ⟨b2, 1, none⟩)), (37, .pointer (some ⟨g, o + i * 4 + 1, none⟩))] (by kernel_rfl) (pok_then (pok_blk (pok_then (pok_then (pok_blk (pok_then pok_body)))))) (by kernel_rfl) rfl rfl (by kernel_rfl) (by kernel_rfl) ?_
    refine sem_take 0 [0] 6 4 38 (Instr.loadAt 3 (.pointer (some ⟨g, o + i * 4 + 1, none⟩))) (.int .i64 ((rget xs i).y0)) (by kernel_rfl) (pok_then (pok_blk (pok_then (pok_then (pok_blk (pok_then pok_body)))))) (by kernel_rfl) rfl (by kernel_rfl) (by kernel_rfl) (fun w hT => run_load1 (by kernel_rfl) (Rd.cellF (hT 2 _ rfl) i 1 _ (by omega) rfl)) ?_
    refine drawn_one 1 3 rfl (by kernel_rfl) ?_
    refine one_step 0 [(0, .slice A n cap), (2, .pointer (some ⟨b1, 0, none⟩)), (3, .pointer (some ⟨b2, 0, none⟩)), (4, .bool ((hullS (xs.take i)).2)), (5, .int .i64 (i : Int)), (33, .int .i64 (((hullS (xs.take i)).1).y0)), (38, .int .i64 ((rget xs i).y0))] [.cells b2 [.int .i64 (mn (((hullS (xs.take i)).1).x0) ((rget xs i).x0)), .int .i64 (((hullS (xs.take i)).1).y0), .int .i64 (((hullS (xs.take i)).1).x1), .int .i64 (((hullS (xs.take i)).1).y1)] 25 true, .cells b1 [.int .i64 0, .int .i64 0, .int .i64 0, .int .i64 0] 25 true, .gen (rdE (A) g o n 4 (rvals xs))] (by kernel_rfl) (by kernel_rfl) ?_
    refine drawn_next 0 [0] (by kernel_rfl) ?_
    refine takes 0 [0] [(7, 0), (8, 0)] 1 [8, 7, 1, 6, 5, 4, 3, 2, 0] [(0, .slice A n cap), (2, .pointer (some ⟨b1, 0, none⟩)), (3, .pointer (some ⟨b2, 0, none⟩)), (4, .bool ((hullS (xs.take i)).2)), (5, .int .i64 (i : Int)), (39, .int .i64 (mn (((hullS (xs.take i)).1).y0) ((rget xs i).y0))), (40, .pointer (some ⟨b2, 1, none⟩))] (by kernel_rfl) (pok_then (pok_blk (pok_then (pok_then (pok_blk (pok_then pok_body)))))) (by kernel_rfl) rfl rfl (by kernel_rfl) (by kernel_rfl) ?_
    refine drawn_one 9 0 rfl (by kernel_rfl) ?_
    refine one_step 0 [(0, .slice A n cap), (2, .pointer (some ⟨b1, 0, none⟩)), (3, .pointer (some ⟨b2, 0, none⟩)), (4, .bool ((hullS (xs.take i)).2)), (5, .int .i64 (i : Int))] [.cells b2 [.int .i64 (mn (((hullS (xs.take i)).1).x0) ((rget xs i).x0)), .int .i64 (mn (((hullS (xs.take i)).1).y0) ((rget xs i).y0)), .int .i64 (((hullS (xs.take i)).1).x1), .int .i64 (((hullS (xs.take i)).1).y1)] 25 true, .cells b1 [.int .i64 0, .int .i64 0, .int .i64 0, .int .i64 0] 25 true, .gen (rdE (A) g o n 4 (rvals xs))] (by kernel_rfl) (by kernel_rfl) ?_
    refine drawn_next 0 [0] (by kernel_rfl) ?_
    refine drawn_done (by kernel_rfl) ?_
    refine then_normal ?_
    refine cont_seq ?_
    refine drawn_enter 10 [0] rfl (by kernel_rfl) ?_
    refine takes 0 [0] [(0, 0), (2, 0), (3, 0)] 7 [3, 2, 0] [(0, .slice A n cap), (2, .pointer (some ⟨b1, 0, none⟩)), (3, .pointer (some ⟨b2, 0, none⟩)), (4, .bool ((hullS (xs.take i)).2)), (5, .int .i64 (i : Int)), (41, .pointer (some ⟨b2, 2, none⟩)), (43, .slice A n cap), (44, .int .i64 (i : Int))] (by kernel_rfl) (pok_then (pok_blk (pok_then (pok_then (pok_blk (pok_then pok_body)))))) (by kernel_rfl) rfl rfl (by kernel_rfl) (by kernel_rfl) ?_
    refine cont_recast 43 (.slice A n cap) (.slice (some ⟨g, o, none⟩) n cap) rfl (by rw [hra (by omega)]) ?_
    refine sem_take 0 [0] 4 6 45 (Instr.indexAt 22 (.slice (some ⟨g, o, none⟩) n cap) (.int .i64 (i : Int))) (.pointer (some ⟨g, o + i * 4, none⟩)) (by kernel_rfl) (pok_then (pok_blk (pok_then (pok_then (pok_blk (pok_then pok_body)))))) (by kernel_rfl) rfl (by kernel_rfl) (by kernel_rfl) (fun w hT => run_indexAt (e := 25) (sz := 4) _ (by kernel_rfl) (by kernel_rfl) (by omega) (by omega) (by omega) w) ?_
    refine takes 0 [0] [(5, 0)] 5 [5, 4, 3, 2, 0] [(0, .slice A n cap), (2, .pointer (some ⟨b1, 0, none⟩)), (3, .pointer (some ⟨b2, 0, none⟩)), (4, .bool ((hullS (xs.take i)).2)), (5, .int .i64 (i : Int)), (41, .pointer (some ⟨b2, 2, none⟩)), (46, .pointer (some ⟨g, o + i * 4 + 2, none⟩))] (by kernel_rfl) (pok_then (pok_blk (pok_then (pok_then (pok_blk (pok_then pok_body)))))) (by kernel_rfl) rfl rfl (by kernel_rfl) (by kernel_rfl) ?_
    refine sem_take 0 [0] 6 4 47 (Instr.loadAt 3 (.pointer (some ⟨g, o + i * 4 + 2, none⟩))) (.int .i64 ((rget xs i).x1)) (by kernel_rfl) (pok_then (pok_blk (pok_then (pok_then (pok_blk (pok_then pok_body)))))) (by kernel_rfl) rfl (by kernel_rfl) (by kernel_rfl) (fun w hT => run_load1 (by kernel_rfl) (Rd.cellF (hT 2 _ rfl) i 2 _ (by omega) rfl)) ?_
    refine drawn_one 1 3 rfl (by kernel_rfl) ?_
    refine one_step 0 [(0, .slice A n cap), (2, .pointer (some ⟨b1, 0, none⟩)), (3, .pointer (some ⟨b2, 0, none⟩)), (4, .bool ((hullS (xs.take i)).2)), (5, .int .i64 (i : Int)), (42, .int .i64 (((hullS (xs.take i)).1).x1)), (47, .int .i64 ((rget xs i).x1))] [.cells b2 [.int .i64 (mn (((hullS (xs.take i)).1).x0) ((rget xs i).x0)), .int .i64 (mn (((hullS (xs.take i)).1).y0) ((rget xs i).y0)), .int .i64 (((hullS (xs.take i)).1).x1), .int .i64 (((hullS (xs.take i)).1).y1)] 25 true, .cells b1 [.int .i64 0, .int .i64 0, .int .i64 0, .int .i64 0] 25 true, .gen (rdE (A) g o n 4 (rvals xs))] (by kernel_rfl) (by kernel_rfl) ?_
    refine drawn_next 0 [0] (by kernel_rfl) ?_
    refine takes 0 [0] [(7, 0), (8, 0)] 1 [8, 7, 1, 6, 5, 4, 3, 2, 0] [(0, .slice A n cap), (2, .pointer (some ⟨b1, 0, none⟩)), (3, .pointer (some ⟨b2, 0, none⟩)), (4, .bool ((hullS (xs.take i)).2)), (5, .int .i64 (i : Int)), (48, .int .i64 (mx (((hullS (xs.take i)).1).x1) ((rget xs i).x1))), (49, .pointer (some ⟨b2, 2, none⟩))] (by kernel_rfl) (pok_then (pok_blk (pok_then (pok_then (pok_blk (pok_then pok_body)))))) (by kernel_rfl) rfl rfl (by kernel_rfl) (by kernel_rfl) ?_
    refine drawn_one 9 0 rfl (by kernel_rfl) ?_
    refine one_step 0 [(0, .slice A n cap), (2, .pointer (some ⟨b1, 0, none⟩)), (3, .pointer (some ⟨b2, 0, none⟩)), (4, .bool ((hullS (xs.take i)).2)), (5, .int .i64 (i : Int))] [.cells b2 [.int .i64 (mn (((hullS (xs.take i)).1).x0) ((rget xs i).x0)), .int .i64 (mn (((hullS (xs.take i)).1).y0) ((rget xs i).y0)), .int .i64 (mx (((hullS (xs.take i)).1).x1) ((rget xs i).x1)), .int .i64 (((hullS (xs.take i)).1).y1)] 25 true, .cells b1 [.int .i64 0, .int .i64 0, .int .i64 0, .int .i64 0] 25 true, .gen (rdE (A) g o n 4 (rvals xs))] (by kernel_rfl) (by kernel_rfl) ?_
    refine drawn_next 0 [0] (by kernel_rfl) ?_
    refine drawn_done (by kernel_rfl) ?_
    refine then_normal ?_
    refine drawn_enter 10 [0] rfl (by kernel_rfl) ?_
    refine takes 0 [0] [(0, 0), (2, 0), (3, 0)] 7 [3, 2, 0] [(0, .slice A n cap), (2, .pointer (some ⟨b1, 0, none⟩)), (3, .pointer (some ⟨b2, 0, none⟩)), (4, .bool ((hullS (xs.take i)).2)), (5, .int .i64 (i : Int)), (50, .pointer (some ⟨b2, 3, none⟩)), (52, .slice A n cap), (53, .int .i64 (i : Int))] (by kernel_rfl) (pok_blk (pok_then (pok_then (pok_blk (pok_then pok_body))))) (by kernel_rfl) rfl rfl (by kernel_rfl) (by kernel_rfl) ?_
    refine cont_recast 52 (.slice A n cap) (.slice (some ⟨g, o, none⟩) n cap) rfl (by rw [hra (by omega)]) ?_
    refine sem_take 0 [0] 4 6 54 (Instr.indexAt 22 (.slice (some ⟨g, o, none⟩) n cap) (.int .i64 (i : Int))) (.pointer (some ⟨g, o + i * 4, none⟩)) (by kernel_rfl) (pok_blk (pok_then (pok_then (pok_blk (pok_then pok_body))))) (by kernel_rfl) rfl (by kernel_rfl) (by kernel_rfl) (fun w hT => run_indexAt (e := 25) (sz := 4) _ (by kernel_rfl) (by kernel_rfl) (by omega) (by omega) (by omega) w) ?_
    refine takes 0 [0] [(5, 0)] 5 [5, 4, 3, 2, 0] [(0, .slice A n cap), (2, .pointer (some ⟨b1, 0, none⟩)), (3, .pointer (some ⟨b2, 0, none⟩)), (4, .bool ((hullS (xs.take i)).2)), (5, .int .i64 (i : Int)), (50, .pointer (some ⟨b2, 3, none⟩)), (55, .pointer (some ⟨g, o + i * 4 + 3, none⟩))] (by kernel_rfl) (pok_blk (pok_then (pok_then (pok_blk (pok_then pok_body))))) (by kernel_rfl) rfl rfl (by kernel_rfl) (by kernel_rfl) ?_
    refine sem_take 0 [0] 6 4 56 (Instr.loadAt 3 (.pointer (some ⟨g, o + i * 4 + 3, none⟩))) (.int .i64 ((rget xs i).y1)) (by kernel_rfl) (pok_blk (pok_then (pok_then (pok_blk (pok_then pok_body))))) (by kernel_rfl) rfl (by kernel_rfl) (by kernel_rfl) (fun w hT => run_load1 (by kernel_rfl) (Rd.cellF (hT 2 _ rfl) i 3 _ (by omega) rfl)) ?_
    refine drawn_one 1 3 rfl (by kernel_rfl) ?_
    refine one_step 0 [(0, .slice A n cap), (2, .pointer (some ⟨b1, 0, none⟩)), (3, .pointer (some ⟨b2, 0, none⟩)), (4, .bool ((hullS (xs.take i)).2)), (5, .int .i64 (i : Int)), (51, .int .i64 (((hullS (xs.take i)).1).y1)), (56, .int .i64 ((rget xs i).y1))] [.cells b2 [.int .i64 (mn (((hullS (xs.take i)).1).x0) ((rget xs i).x0)), .int .i64 (mn (((hullS (xs.take i)).1).y0) ((rget xs i).y0)), .int .i64 (mx (((hullS (xs.take i)).1).x1) ((rget xs i).x1)), .int .i64 (((hullS (xs.take i)).1).y1)] 25 true, .cells b1 [.int .i64 0, .int .i64 0, .int .i64 0, .int .i64 0] 25 true, .gen (rdE (A) g o n 4 (rvals xs))] (by kernel_rfl) (by kernel_rfl) ?_
    refine drawn_next 0 [0] (by kernel_rfl) ?_
    refine takes 0 [0] [(7, 0), (8, 0)] 1 [8, 7, 1, 6, 5, 4, 3, 2, 0] [(0, .slice A n cap), (2, .pointer (some ⟨b1, 0, none⟩)), (3, .pointer (some ⟨b2, 0, none⟩)), (4, .bool ((hullS (xs.take i)).2)), (5, .int .i64 (i : Int)), (57, .int .i64 (mx (((hullS (xs.take i)).1).y1) ((rget xs i).y1))), (58, .pointer (some ⟨b2, 3, none⟩))] (by kernel_rfl) (pok_blk (pok_then (pok_then (pok_blk (pok_then pok_body))))) (by kernel_rfl) rfl rfl (by kernel_rfl) (by kernel_rfl) ?_
    refine drawn_one 9 0 rfl (by kernel_rfl) ?_
    refine one_step 0 [(0, .slice A n cap), (2, .pointer (some ⟨b1, 0, none⟩)), (3, .pointer (some ⟨b2, 0, none⟩)), (4, .bool ((hullS (xs.take i)).2)), (5, .int .i64 (i : Int))] [.cells b2 [.int .i64 (mn (((hullS (xs.take i)).1).x0) ((rget xs i).x0)), .int .i64 (mn (((hullS (xs.take i)).1).y0) ((rget xs i).y0)), .int .i64 (mx (((hullS (xs.take i)).1).x1) ((rget xs i).x1)), .int .i64 (mx (((hullS (xs.take i)).1).y1) ((rget xs i).y1))] 25 true, .cells b1 [.int .i64 0, .int .i64 0, .int .i64 0, .int .i64 0] 25 true, .gen (rdE (A) g o n 4 (rvals xs))] (by kernel_rfl) (by kernel_rfl) ?_
    refine drawn_next 0 [0] (by kernel_rfl) ?_
    refine drawn_done (by kernel_rfl) ?_
    refine blk_normal ?_
    refine then_normal ?_
    refine cont_region 3 rfl ?_
    refine bS [0, 0] 2 1 [(0, .slice A n cap), (2, .pointer (some ⟨b1, 0, none⟩)), (3, .pointer (some ⟨b2, 0, none⟩)), (4, .bool ((hullS (xs.take i)).2)), (11, .int .i64 (IntKind.i64.wrap ((i : Int) + 1)))] ?_
    refine cont_recast 11 (.int .i64 (IntKind.i64.wrap ((i : Int) + 1))) (.int .i64 ((i : Int) + 1)) rfl (wrapI (by omega) (by omega)) ?_
    refine bS [0] 3 0 [(0, .slice A n cap), (2, .pointer (some ⟨b1, 0, none⟩)), (3, .pointer (some ⟨b2, 0, none⟩)), (4, .bool ((hullS (xs.take i)).2)), (5, .int .i64 ((i : Int) + 1))] ?_
    refine cont_done ?_
    refine then_normal ?_
    refine cont_norm [(0, .slice A n cap), (2, .pointer (some ⟨b1, 0, none⟩)), (3, .pointer (some ⟨b2, 0, none⟩)), (4, .bool ((hullS (xs.take i)).2)), (5, .int .i64 ((i : Int) + 1))] [.cells b2 [.int .i64 (((hullS (xs.take (i + 1))).1).x0), .int .i64 (((hullS (xs.take (i + 1))).1).y0), .int .i64 (((hullS (xs.take (i + 1))).1).x1), .int .i64 (((hullS (xs.take (i + 1))).1).y1)] 25 true, .cells b1 [.int .i64 0, .int .i64 0, .int .i64 0, .int .i64 0] 25 true, .gen (rdE (A) g o n 4 (rvals xs))] (by kernel_rfl) (congrArg (fun c_ : List Value => ([.cells b2 c_ 25 true, .cells b1 [.int .i64 0, .int .i64 0, .int .i64 0, .int .i64 0] 25 true, .gen (rdE (A) g o n 4 (rvals xs))] : List Ent)) ((joinV _ _).trans (cellsR_eq (congrArg Prod.fst (hullS_join (by omega) c5_ c6_))))) ?_
    refine cont_recast 4 (.bool ((hullS (xs.take i)).2)) (.bool ((hullS (xs.take (i + 1))).2)) rfl (congrArg (Value.bool) (by rw [← (hullS_join (by omega) c5_ c6_)]; first | done | exact c6_)) ?_
    refine cont_again (i + 1) (show (i + 1) ≤ n from (by omega)) (show n - (i + 1) < n - i from by omega) (by kernel_rfl) (by kernel_rfl)
  replace c4_ := of_decide_eq_false c4_
  refine cont_false rfl ?_
  refine cont_exit ?_
  refine then_exit ?_
  refine then_exit ?_
  refine blk_exit ?_
  refine then_normal ?_
  refine cont_seq ?_
  refine cont_region 2 rfl ?_
  refine batch0 [0, 1] 2 0 [(2, .pointer (some ⟨b1, 0, none⟩))] [.cells b2 [.int .i64 (((hullS (xs.take i)).1).x0), .int .i64 (((hullS (xs.take i)).1).y0), .int .i64 (((hullS (xs.take i)).1).x1), .int .i64 (((hullS (xs.take i)).1).y1)] 25 true, .cells b1 [.int .i64 (((hullS (xs.take i)).1).x0), .int .i64 (((hullS (xs.take i)).1).y0), .int .i64 (((hullS (xs.take i)).1).x1), .int .i64 (((hullS (xs.take i)).1).y1)] 25 true, .gen (rdE (A) g o n 4 (rvals xs))] rfl rfl (by kernel_rfl) (by kernel_rfl) ?_
  refine cont_forget 0 rfl ?_
  refine cont_done ?_
  refine then_normal ?_
  refine cont_ret ?_
  refine ret_one (.inl rfl) rfl 0 (.agg #[.int .i64 (((hullS (xs.take i)).1).x0), .int .i64 (((hullS (xs.take i)).1).y0), .int .i64 (((hullS (xs.take i)).1).x1), .int .i64 (((hullS (xs.take i)).1).y1)]) (by kernel_rfl) (by kernel_rfl) (fun w hT => ?_)
  rw [show i = n by omega, List.take_of_length_le (show xs.length ≤ n by omega)]
  exact ⟨rfl, hT.post rfl⟩

theorem regKeep (A : Option Addr) (g o n cap : Nat) (xs : List Rect) (m : Int) (w : World) (hT0 : Tab w w [.gen (rdE (A) g o n 4 (rvals xs))]) (hn : n ≤ 1000000000000) :
    Calls Try.prog 36 #[.slice A n cap, .int .i64 m] w fun e w' => ∃ (A_ : Option Addr) (g_ k_ cp_ : Nat), e = .returned (.slice A_ k_ cp_) ∧ Tab w w' [.gen (rowE (A_) g_ k_ cp_ 25 4 (rvals (keepL hullP xs m)) true)] := by
  obtain ⟨hra, hrl⟩ := Rd.factsR (hT0.ok 0 _ rfl)
  refine enter 18 [(0, .slice A n cap), (1, .int .i64 m)] [.gen (rdE (A) g o n 4 (rvals xs))] Try.func36 rfl Try.ntmps36 rfl (by kernel_rfl) hT0 ?_
  refine cont_seq ?_
  refine cont_region 1 rfl ?_
  refine bS [0] 1 0 [(0, .slice A n cap), (1, .int .i64 m)] ?_
  refine cont_done ?_
  refine then_normal ?_
  refine cont_seq ?_
  refine cont_block ?_
  refine cont_seq ?_
  refine cont_region 5 rfl ?_
  refine bS [0, 0, 0, 0, 0] 5 0 [(0, .slice A n cap), (1, .int .i64 m), (5, .bool (decide ((n : Int) ≤ m)))] ?_
  refine cont_done ?_
  refine then_normal ?_
  refine cont_split 5 (decide ((n : Int) ≤ m)) rfl (fun c1_ => ?_) (fun c1_ => ?_)
  ·
    replace c1_ := of_decide_eq_true c1_
    refine cont_true rfl ?_
    refine cont_seq ?_
    refine cont_region 3 rfl ?_
    refine bS [0] 1 2 [(10, .slice A n cap)] ?_
    refine pl_step 2 1 rfl rfl ?_
    refine call_gen (d := 11) (α := Option Addr × Nat × Nat × Nat) (fun x_ => .slice x_.1 x_.2.2.1 x_.2.2.2) (fun x_ => [.gen (rowE (x_.1) x_.2.1 x_.2.2.1 x_.2.2.2 25 4 (rvals xs) true), .gen (rdE (A) g o n 4 (rvals xs))]) (fun x_ => True) (by kernel_rfl) (fun w hT => (cloneR A g o n cap xs w (hT.viewRo (.cons (i := 0) rfl Vw.rd .nil) rfl) (by omega)).mono fun e w' ⟨A2, g3, k4, cp5, he_, ht_⟩ => ⟨(A2, g3, k4, cp5), he_, trivial, hT.news ht_ rfl⟩) ?_
    rintro ⟨A2, g3, k4, cp5⟩ hf6_
    refine cont_norm [(10, .slice A n cap), (11, .slice A2 k4 cp5)] [.gen (rowE (A2) g3 k4 cp5 25 4 (rvals xs) true), .gen (rdE (A) g o n 4 (rvals xs))] (by kernel_rfl) rfl ?_
    refine cont_fact (F := (0 < k4 → (A2 : Option Addr) = some ⟨g3, 0, none⟩) ∧ xs.length = k4 ∧ k4 ≤ cp5 ∧ cp5 ≤ maxLen) (fun w hT => Row.factsR (hT.ok 0 _ rfl)) (fun hr7_ => ?_)
    obtain ⟨hr7_a, hr7_l, hr7_c, hr7_m⟩ := hr7_
    unfold maxLen at hr7_m
    refine bS [0] 3 0 [(4, .slice A2 k4 cp5)] ?_
    refine cont_done ?_
    refine then_normal ?_
    refine cont_ret ?_
    refine blk_ret ?_
    refine then_ret ?_
    refine ret_one (.inl rfl) rfl 0 (.slice A2 k4 cp5) (by kernel_rfl) (by kernel_rfl) (fun w hT => ?_)
    replace hT := hT.erase 1 (fun e h hw => by cases h; first | rfl | cases hw)
    rw [keepL_all (by omega)]
    exact ⟨_, _, _, _, rfl, hT⟩
  replace c1_ := of_decide_eq_false c1_
  refine cont_false rfl ?_
  refine cont_seq ?_
  refine cont_region 3 rfl ?_
  refine bS [0, 0, 0] 3 0 [(0, .slice A n cap), (12, .bool (decide (m < 1)))] ?_
  refine cont_done ?_
  refine then_normal ?_
  refine cont_split 12 (decide (m < 1)) rfl (fun c8_ => ?_) (fun c8_ => ?_)
  ·
    replace c8_ := of_decide_eq_true c8_
    refine cont_true rfl ?_
    refine cont_seq ?_
    refine cont_region 1 rfl ?_
    refine bS [0] 1 0 [(4, .slice none 0 0)] ?_
    refine cont_done ?_
    refine then_normal ?_
    refine cont_ret ?_
    refine blk_ret ?_
    refine then_ret ?_
    refine ret_one (.inl rfl) rfl 0 (.slice none 0 0) (by kernel_rfl) (by kernel_rfl) (fun w hT => ?_)
    replace hT := hT.erase 0 (fun e h hw => by cases h; first | rfl | cases hw)
    rw [keepL_none (by omega) (by omega)]
    exact ⟨none, 0, 0, 0, rfl, hT.nilR _ _⟩
  replace c8_ := of_decide_eq_false c8_
  refine cont_false rfl ?_
  refine cont_skip ?_
  refine blk_normal ?_
  refine then_normal ?_
  refine cont_seq ?_
  refine cont_region 4 rfl ?_
  refine bS [0] 1 3 [(15, .slice A n cap)] ?_
  refine pl_step 2 2 rfl rfl ?_
  refine call_pure (d := 16) (.agg #[.int .i64 ((hullP xs).x0), .int .i64 ((hullP xs).y0), .int .i64 ((hullP xs).x1), .int .i64 ((hullP xs).y1)]) (by kernel_rfl) (fun w hT => rectHullQ A g o n cap xs w (hT.viewRo (.cons (i := 0) rfl Vw.rd .nil) rfl) (by omega)) ?_
  refine batch1 [0] 3 1 (fun b9 => [(17, .slice (some ⟨b9, 0, none⟩) 1 1)]) (fun b9 => [.cells b9 [.int .i64 ((hullP xs).x0), .int .i64 ((hullP xs).y0), .int .i64 ((hullP xs).x1), .int .i64 ((hullP xs).y1)] 25 true, .gen (rdE (A) g o n 4 (rvals xs))]) rfl rfl [17] (fun _ => rfl) (fun b9 => by kernel_rfl) (fun b9 => by kernel_rfl) (fun b9 => ?_)
  refine cont_asRow 0 1 4 rfl (vals := rvals [(⟨(hullP xs).x0, (hullP xs).y0, (hullP xs).x1, (hullP xs).y1⟩ : Rect)]) rfl rfl (by decide) ?_
  refine cont_norm [(17, .slice (some ⟨b9, 0, none⟩) 1 1)] [.gen (rowE (some ⟨b9, 0, none⟩) b9 1 1 25 4 (rvals [(⟨(hullP xs).x0, (hullP xs).y0, (hullP xs).x1, (hullP xs).y1⟩ : Rect)]) true), .gen (rdE (A) g o n 4 (rvals xs))] (by kernel_rfl) rfl ?_
  refine bS [0] 4 0 [(4, .slice (some ⟨b9, 0, none⟩) 1 1)] ?_
  refine cont_done ?_
  refine then_normal ?_
  refine cont_ret ?_
  refine ret_one (.inl rfl) rfl 0 (.slice (some ⟨b9, 0, none⟩) 1 1) (by kernel_rfl) (by kernel_rfl) (fun w hT => ?_)
  replace hT := hT.erase 1 (fun e h hw => by cases h; first | rfl | cases hw)
  rw [keepL_one (by omega) (by omega)]
  exact ⟨_, _, _, _, rfl, hT⟩

theorem refKeepYes (A : Option Addr) (g o n cap : Nat) (xs : List Rect) (m : Int) (w : World) (hT0 : Tab w w [.gen (rdE (A) g o n 4 (rvals xs))]) (hn : n ≤ 1000000000000) (hk : (n : Int) ≤ m) :
    Calls Try.prog 41 #[.slice A n cap, .int .i64 m] w fun e w' => e = .returned (.slice A n cap) ∧ Below w.heap.size w w' := by
  obtain ⟨hra, hrl⟩ := Rd.factsR (hT0.ok 0 _ rfl)
  refine enter 15 [(0, .slice A n cap), (1, .int .i64 m)] [.gen (rdE (A) g o n 4 (rvals xs))] Try.func41 rfl Try.ntmps41 rfl (by kernel_rfl) hT0 ?_
  refine cont_seq ?_
  refine cont_region 1 rfl ?_
  refine bS [0] 1 0 [(0, .slice A n cap), (1, .int .i64 m)] ?_
  refine cont_done ?_
  refine then_normal ?_
  refine cont_seq ?_
  refine cont_seq ?_
  refine cont_region 4 rfl ?_
  refine bS [0, 0, 0, 0] 4 0 [(0, .slice A n cap), (1, .int .i64 m), (8, .bool (decide ((n : Int) ≤ m)))] ?_
  refine cont_done ?_
  refine then_normal ?_
  refine cont_recast 8 (.bool (decide ((n : Int) ≤ m))) (.bool true) rfl (congrArg Value.bool (decide_eq_true hk)) ?_
  refine cont_true rfl ?_
  refine cont_seq ?_
  refine cont_region 2 rfl ?_
  refine bS [0, 0] 2 0 [(4, .slice A n cap)] ?_
  refine cont_done ?_
  refine then_normal ?_
  refine cont_ret ?_
  refine then_ret ?_
  refine ret_one (.inl rfl) rfl 0 (.slice A n cap) (by kernel_rfl) (by kernel_rfl) (fun w hT => ?_)
  exact ⟨rfl, hT.post rfl⟩

theorem refKeepNo (A : Option Addr) (g o n cap : Nat) (xs : List Rect) (m : Int) (w : World) (hT0 : Tab w w [.gen (rdE (A) g o n 4 (rvals xs))]) (hn : n ≤ 1000000000000) (hk : ¬ (n : Int) ≤ m) :
    Calls Try.prog 41 #[.slice A n cap, .int .i64 m] w fun e w' => ∃ (A_ : Option Addr) (g_ k_ cp_ : Nat), e = .returned (.slice A_ k_ cp_) ∧ Tab w w' [.gen (rowE (A_) g_ k_ cp_ 25 4 (rvals (keepL hullD xs m)) true)] := by
  obtain ⟨hra, hrl⟩ := Rd.factsR (hT0.ok 0 _ rfl)
  refine enter 15 [(0, .slice A n cap), (1, .int .i64 m)] [.gen (rdE (A) g o n 4 (rvals xs))] Try.func41 rfl Try.ntmps41 rfl (by kernel_rfl) hT0 ?_
  refine cont_seq ?_
  refine cont_region 1 rfl ?_
  refine bS [0] 1 0 [(0, .slice A n cap), (1, .int .i64 m)] ?_
  refine cont_done ?_
  refine then_normal ?_
  refine cont_seq ?_
  refine cont_seq ?_
  refine cont_region 4 rfl ?_
  refine bS [0, 0, 0, 0] 4 0 [(0, .slice A n cap), (1, .int .i64 m), (8, .bool (decide ((n : Int) ≤ m)))] ?_
  refine cont_done ?_
  refine then_normal ?_
  refine cont_recast 8 (.bool (decide ((n : Int) ≤ m))) (.bool false) rfl (congrArg Value.bool (decide_eq_false hk)) ?_
  refine cont_false rfl ?_
  refine cont_skip ?_
  refine then_normal ?_
  refine cont_seq ?_
  refine cont_seq ?_
  refine cont_region 2 rfl ?_
  refine bS [0, 0] 2 0 [(0, .slice A n cap), (11, .bool (decide (m < 1)))] ?_
  refine cont_done ?_
  refine then_normal ?_
  refine cont_split 11 (decide (m < 1)) rfl (fun c2_ => ?_) (fun c2_ => ?_)
  ·
    replace c2_ := of_decide_eq_true c2_
    refine cont_true rfl ?_
    refine cont_seq ?_
    refine cont_region 1 rfl ?_
    refine bS [0] 1 0 [(4, .slice none 0 0)] ?_
    refine cont_done ?_
    refine then_normal ?_
    refine cont_ret ?_
    refine then_ret ?_
    refine ret_one (.inl rfl) rfl 0 (.slice none 0 0) (by kernel_rfl) (by kernel_rfl) (fun w hT => ?_)
    replace hT := hT.erase 0 (fun e h hw => by cases h; first | rfl | cases hw)
    rw [keepL_none (by omega) (by omega)]
    exact ⟨none, 0, 0, 0, rfl, hT.nilR _ _⟩
  replace c2_ := of_decide_eq_false c2_
  refine cont_false rfl ?_
  refine cont_skip ?_
  refine then_normal ?_
  refine cont_seq ?_
  refine cont_region 4 rfl ?_
  refine bS [0] 1 3 [(12, .slice A n cap)] ?_
  refine pl_step 2 2 rfl rfl ?_
  refine call_pure (d := 13) (.agg #[.int .i64 ((hullD xs).x0), .int .i64 ((hullD xs).y0), .int .i64 ((hullD xs).x1), .int .i64 ((hullD xs).y1)]) (by kernel_rfl) (fun w hT => refHullQ A g o n cap xs w (hT.viewRo (.cons (i := 0) rfl Vw.rd .nil) rfl) (by omega)) ?_
  refine batch1 [0] 3 1 (fun b3 => [(14, .slice (some ⟨b3, 0, none⟩) 1 1)]) (fun b3 => [.cells b3 [.int .i64 ((hullD xs).x0), .int .i64 ((hullD xs).y0), .int .i64 ((hullD xs).x1), .int .i64 ((hullD xs).y1)] 25 true, .gen (rdE (A) g o n 4 (rvals xs))]) rfl rfl [14] (fun _ => rfl) (fun b3 => by kernel_rfl) (fun b3 => by kernel_rfl) (fun b3 => ?_)
  refine cont_asRow 0 1 4 rfl (vals := rvals [(⟨(hullD xs).x0, (hullD xs).y0, (hullD xs).x1, (hullD xs).y1⟩ : Rect)]) rfl rfl (by decide) ?_
  refine cont_norm [(14, .slice (some ⟨b3, 0, none⟩) 1 1)] [.gen (rowE (some ⟨b3, 0, none⟩) b3 1 1 25 4 (rvals [(⟨(hullD xs).x0, (hullD xs).y0, (hullD xs).x1, (hullD xs).y1⟩ : Rect)]) true), .gen (rdE (A) g o n 4 (rvals xs))] (by kernel_rfl) rfl ?_
  refine bS [0] 4 0 [(4, .slice (some ⟨b3, 0, none⟩) 1 1)] ?_
  refine cont_done ?_
  refine then_normal ?_
  refine cont_ret ?_
  refine ret_one (.inl rfl) rfl 0 (.slice (some ⟨b3, 0, none⟩) 1 1) (by kernel_rfl) (by kernel_rfl) (fun w hT => ?_)
  replace hT := hT.erase 1 (fun e h hw => by cases h; first | rfl | cases hw)
  rw [keepL_one (by omega) (by omega)]
  exact ⟨_, _, _, _, rfl, hT⟩

end Go.Proofs.Ytimpjdfflffcfaa
