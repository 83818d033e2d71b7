-- Laid by prx.py (ours), out of the translation's print. Not trusted: Lean checks it.
import Derived.Test.YtmdmdbiinngneaaDoorQ0
import Derived.Test.YtmdmdbiinngneaaDoorQ14
namespace Go.Proofs.YtmdmdbiinngneaaDoor.Q
open Go.RowKit Go.Proofs.YtmdmdbiinngneaaDoorW.PrintWords Go.Proofs.YtmdmdbiinngneaaDoorW.PrintLast Go.Proofs.YtmdmdbiinngneaaDoorW.PrintMore
attribute [local go_sem] max2_int min2_int max_two min_two max_three min_three max_four min_four   -- for this text's walks alone
set_option linter.unusedVariables false
set_option linter.unusedSimpArgs false

/-! ### carcanetref25_Line: function 11 -/
def carcanetref25_Line.l0 : Nat → ByteArray → Int → Int → ByteArray → Int → List (S39) → Int → Int → Int → Option (ByteArray)
 | 0, _, _, _, _, _, _, _, _, _ => none
 | k + 1, x3, x4, x144000, x144001, x144002, x144003, x144004, x144005, x144006 => if x4 < (x144003.length : Int) then (if x3.size + 1 ≤ 9223372036854775807 then (if 0 ≤ x4 then ((carcanetref25_Number.f k ((rd_T39 x144003 x4).f0)).bind fun t147 => (if (x3 ++ (⟨#[32]⟩ : ByteArray)).size + t147.size ≤ 9223372036854775807 then (if ((x3 ++ (⟨#[32]⟩ : ByteArray)) ++ t147).size + 1 ≤ 9223372036854775807 then ((carcanetref25_Number.f k ((rd_T39 x144003 x4).f1)).bind fun t149 => (if (((x3 ++ (⟨#[32]⟩ : ByteArray)) ++ t147) ++ (⟨#[45]⟩ : ByteArray)).size + t149.size ≤ 9223372036854775807 then (carcanetref25_Line.l0 k ((((x3 ++ (⟨#[32]⟩ : ByteArray)) ++ t147) ++ (⟨#[45]⟩ : ByteArray)) ++ t149) (wrap64 (x4 + 1)) x144000 x144001 x144002 x144003 x144004 x144005 x144006) else (none))) else (none)) else (none))) else (none)) else (none)) else (some x3)
def carcanetref25_Line.f (k : Nat) (a0_0 : Int) (a0_1 : ByteArray) (a0_2 : Int) (l0_3 : List (S39)) (a0_4 : Int) (a0_5 : Int) (a0_6 : Int) : Option (ByteArray) := if a0_0 = 2 then (if 4 + a0_1.size ≤ 9223372036854775807 then (if ((⟨#[97, 115, 107, 32]⟩ : ByteArray) ++ a0_1).size + 1 ≤ 9223372036854775807 then ((carcanetref25_Title.f a0_4).bind fun t144 => (if (((⟨#[97, 115, 107, 32]⟩ : ByteArray) ++ a0_1) ++ (⟨#[32]⟩ : ByteArray)).size + t144.size ≤ 9223372036854775807 then (some ((((⟨#[97, 115, 107, 32]⟩ : ByteArray) ++ a0_1) ++ (⟨#[32]⟩ : ByteArray)) ++ t144)) else (none))) else (none)) else (none)) else (if a0_0 = 3 then (if 5 + a0_1.size ≤ 9223372036854775807 then (some ((⟨#[115, 104, 111, 119, 32]⟩ : ByteArray) ++ a0_1)) else (none)) else (if a0_0 = 4 then (if 5 + a0_1.size ≤ 9223372036854775807 then (some ((⟨#[100, 114, 111, 112, 32]⟩ : ByteArray) ++ a0_1)) else (none)) else (if 5 + a0_1.size ≤ 9223372036854775807 then (if ((⟨#[108, 111, 97, 100, 32]⟩ : ByteArray) ++ a0_1).size + 1 ≤ 9223372036854775807 then ((carcanetref25_Number.f k a0_2).bind fun t145 => (if (((⟨#[108, 111, 97, 100, 32]⟩ : ByteArray) ++ a0_1) ++ (⟨#[32]⟩ : ByteArray)).size + t145.size ≤ 9223372036854775807 then (carcanetref25_Line.l0 k ((((⟨#[108, 111, 97, 100, 32]⟩ : ByteArray) ++ a0_1) ++ (⟨#[32]⟩ : ByteArray)) ++ t145) 0 a0_0 a0_1 a0_2 l0_3 a0_4 a0_5 a0_6) else (none))) else (none)) else (none))))
theorem carcanetref25_Line.mono_l : ∀ k, (∀ y0 y1 y2 y3 y4 y5 y6 y7 y8, LeO (carcanetref25_Line.l0 k y0 y1 y2 y3 y4 y5 y6 y7 y8) (carcanetref25_Line.l0 (k + 1) y0 y1 y2 y3 y4 y5 y6 y7 y8))
 | 0 => fun _ _ _ _ _ _ _ _ _ r h => by simp [carcanetref25_Line.l0] at h
 | k + 1 => by
  have ih0 := carcanetref25_Line.mono_l k
  ·intro y0 y1 y2 y3 y4 y5 y6 y7 y8
   unfold carcanetref25_Line.l0
   repeat' first
   | (with_reducible exact ih0 _ _ _ _ _ _ _ _ _)
   | (with_reducible exact carcanetref25_Number.mono _ _)
   | (with_reducible exact LeO.refl _)
   | (with_reducible exact LeO.none _)
   | (with_reducible refine LeO.ite ?_ ?_)
   | (with_reducible refine LeO.bind ?_ (fun _ => ?_))
   | exact ih0 _ _ _ _ _ _ _ _ _
   | exact carcanetref25_Number.mono _ _
   | exact LeO.none _
   | refine LeO.ite ?_ ?_
   | refine LeO.bind ?_ (fun _ => ?_)
theorem carcanetref25_Line.mono : ∀ a0 a1 a2 a3 a4 a5 a6 k, LeO (carcanetref25_Line.f k a0 a1 a2 a3 a4 a5 a6) (carcanetref25_Line.f (k + 1) a0 a1 a2 a3 a4 a5 a6) := by
 intro a0 a1 a2 a3 a4 a5 a6 k
 have ih0 := carcanetref25_Line.mono_l k
 unfold carcanetref25_Line.f
 repeat' first
   | (with_reducible exact ih0 _ _ _ _ _ _ _ _ _)
   | (with_reducible exact carcanetref25_Number.mono _ _)
   | (with_reducible exact LeO.refl _)
   | (with_reducible exact LeO.none _)
   | (with_reducible refine LeO.ite ?_ ?_)
   | (with_reducible refine LeO.bind ?_ (fun _ => ?_))
   | exact ih0 _ _ _ _ _ _ _ _ _
   | exact carcanetref25_Number.mono _ _
   | exact LeO.none _
   | refine LeO.ite ?_ ?_
   | refine LeO.bind ?_ (fun _ => ?_)
def carcanetref25_Line.T2 : Bool × List (List Nat × List Nat) := (true, [([], []), ([0], [0]), ([1], [1]), ([2], [2]), ([], []), ([4], [4]), ([5], [5]), ([3, 6], [3, 6]), ([7, 6, 0, 1, 2, 3, 4, 5, 6, 7], [7])])
def carcanetref25_Line.B2 : List Nat := [0, 1, 3, 7, 0, 16, 48, 127, 255]
theorem carcanetref25_Line.tab2 : rtab .any (opsOf Tryd.f11 2) = carcanetref25_Line.T2 := by kernel_rfl
theorem carcanetref25_Line.bits2 : waitsOk carcanetref25_Line.T2.2 carcanetref25_Line.B2 = true := by kernel_rfl
def carcanetref25_Line.T7 : Bool × List (List Nat × List Nat) := (true, [([], []), ([0], [0]), ([1], [1]), ([2], [2]), ([], []), ([4], [4]), ([5], [5]), ([6], [6]), ([3, 7], [3, 7]), ([8, 7, 0, 1, 2, 3, 4, 5, 6, 7, 8], [8])])
def carcanetref25_Line.B7 : List Nat := [0, 1, 3, 7, 0, 16, 48, 112, 255, 511]
theorem carcanetref25_Line.tab7 : rtab .any (opsOf Tryd.f11 7) = carcanetref25_Line.T7 := by kernel_rfl
theorem carcanetref25_Line.bits7 : waitsOk carcanetref25_Line.T7.2 carcanetref25_Line.B7 = true := by kernel_rfl
def carcanetref25_Line.T11 : Bool × List (List Nat × List Nat) := (true, [([], []), ([0], [0]), ([], []), ([2], [2]), ([3], [3]), ([], []), ([4, 5], [4, 5]), ([6], [6]), ([7], [7]), ([8], [8]), ([1, 9], [1, 9]), ([10], [10]), ([], []), ([12], [12]), ([13], [13]), ([], []), ([14, 15], [14, 15]), ([16], [16]), ([17], [17]), ([18, 9], [18]), ([11, 19], [11, 19]), ([20, 19, 0, 1, 2, 3, 4, 5, 6, 7, 8, 9, 10, 11, 12, 13, 14, 15, 16, 17, 18, 19, 20], [0, 20])])
def carcanetref25_Line.B11 : List Nat := [0, 1, 0, 4, 12, 0, 60, 124, 252, 508, 1023, 2047, 0, 4096, 12288, 0, 61440, 126976, 258048, 521212, 1048575, 2097151]
theorem carcanetref25_Line.tab11 : rtab .any (opsOf Tryd.f11 11) = carcanetref25_Line.T11 := by kernel_rfl
theorem carcanetref25_Line.bits11 : waitsOk carcanetref25_Line.T11.2 carcanetref25_Line.B11 = true := by kernel_rfl
set_option maxHeartbeats 8000000 in
set_option maxRecDepth 100000 in
theorem carcanetref25_Line.calls (k : Nat) (a0_0 : Int) (a0_1 : ByteArray) (a0_2 : Int) (A0_3 : Option Addr) (c0_3 : Nat) (l0_3 : List (S39)) (a0_4 : Int) (a0_5 : Int) (a0_6 : Int) (r : ByteArray) (w : World) (hr0_3 : Kd.C k39 w A0_3 l0_3.length l0_3) (hc0_3 : l0_3.length ≤ c0_3) (h : carcanetref25_Line.f k a0_0 a0_1 a0_2 l0_3 a0_4 a0_5 a0_6 = some r) :
  Calls Tryd.prog 11 #[.agg #[.int .i64 a0_0, .string a0_1, .int .i64 a0_2, .slice A0_3 l0_3.length c0_3, .int .i64 a0_4, .int .i64 a0_5, .int .i64 a0_6]] w fun e w' => e = .returned (.string r) ∧ Below w.heap.size w w' := by
 have hu33 := Tryd.underlying33
 have HR0_3 := Aside0.mk hr0_3
 have HC0_3 := Aside0.mk hc0_3
 clear hr0_3 hc0_3
 have HB := Aside0.mk (Below.refl w.heap.size w)
 have H : (if a0_0 = 2 then (if 4 + a0_1.size ≤ 9223372036854775807 then (if ((⟨#[97, 115, 107, 32]⟩ : ByteArray) ++ a0_1).size + 1 ≤ 9223372036854775807 then ((carcanetref25_Title.f a0_4).bind fun t144 => (if (((⟨#[97, 115, 107, 32]⟩ : ByteArray) ++ a0_1) ++ (⟨#[32]⟩ : ByteArray)).size + t144.size ≤ 9223372036854775807 then (some ((((⟨#[97, 115, 107, 32]⟩ : ByteArray) ++ a0_1) ++ (⟨#[32]⟩ : ByteArray)) ++ t144)) else (none))) else (none)) else (none)) else (if a0_0 = 3 then (if 5 + a0_1.size ≤ 9223372036854775807 then (some ((⟨#[115, 104, 111, 119, 32]⟩ : ByteArray) ++ a0_1)) else (none)) else (if a0_0 = 4 then (if 5 + a0_1.size ≤ 9223372036854775807 then (some ((⟨#[100, 114, 111, 112, 32]⟩ : ByteArray) ++ a0_1)) else (none)) else (if 5 + a0_1.size ≤ 9223372036854775807 then (if ((⟨#[108, 111, 97, 100, 32]⟩ : ByteArray) ++ a0_1).size + 1 ≤ 9223372036854775807 then ((carcanetref25_Number.f k a0_2).bind fun t145 => (if (((⟨#[108, 111, 97, 100, 32]⟩ : ByteArray) ++ a0_1) ++ (⟨#[32]⟩ : ByteArray)).size + t145.size ≤ 9223372036854775807 then (carcanetref25_Line.l0 k ((((⟨#[108, 111, 97, 100, 32]⟩ : ByteArray) ++ a0_1) ++ (⟨#[32]⟩ : ByteArray)) ++ t145) 0 a0_0 a0_1 a0_2 l0_3 a0_4 a0_5 a0_6) else (none))) else (none)) else (none))))) = some r := h
 clear h
 by_cases c2 : a0_0 = 2
 ·rw [if_pos c2] at H
  have c2b0 : (a0_0 == 2) = true := beq_iff_eq.mpr c2
  have c2b1 : (a0_0 != 2) = false := bne_eq_false_iff_eq.mpr c2
  clear c2
  by_cases c3 : 4 + a0_1.size ≤ 9223372036854775807
  ·rw [if_pos c3] at H
   have c3b0 := eq_true c3
   have c3b1 : decide (4 + a0_1.size ≤ 9223372036854775807) = true := decide_eq_true c3
   try have c3b2 : (9223372036854775807 < 4 + a0_1.size) = False := eq_false (Nat.not_lt.2 c3)
   by_cases c4 : ((⟨#[97, 115, 107, 32]⟩ : ByteArray) ++ a0_1).size + 1 ≤ 9223372036854775807
   ·rw [if_pos c4] at H
    have c4b0 := eq_true c4
    have c4b1 : decide (((⟨#[97, 115, 107, 32]⟩ : ByteArray) ++ a0_1).size + 1 ≤ 9223372036854775807) = true := decide_eq_true c4
    try have c4b2 : (9223372036854775807 < ((⟨#[97, 115, 107, 32]⟩ : ByteArray) ++ a0_1).size + 1) = False := eq_false (Nat.not_lt.2 c4)
    replace H := Option.bind_eq_some_iff.mp H
    obtain ⟨t144, A50, H⟩ := H
    replace H : (if (((⟨#[97, 115, 107, 32]⟩ : ByteArray) ++ a0_1) ++ (⟨#[32]⟩ : ByteArray)).size + t144.size ≤ 9223372036854775807 then (some ((((⟨#[97, 115, 107, 32]⟩ : ByteArray) ++ a0_1) ++ (⟨#[32]⟩ : ByteArray)) ++ t144)) else (none)) = some r := H
    have A5 := Aside0.mk A50
    clear A50
    by_cases c6 : (((⟨#[97, 115, 107, 32]⟩ : ByteArray) ++ a0_1) ++ (⟨#[32]⟩ : ByteArray)).size + t144.size ≤ 9223372036854775807
    ·rw [if_pos c6] at H
     have c6b0 := eq_true c6
     have c6b1 : decide ((((⟨#[97, 115, 107, 32]⟩ : ByteArray) ++ a0_1) ++ (⟨#[32]⟩ : ByteArray)).size + t144.size ≤ 9223372036854775807) = true := decide_eq_true c6
     try have c6b2 : (9223372036854775807 < (((⟨#[97, 115, 107, 32]⟩ : ByteArray) ++ a0_1) ++ (⟨#[32]⟩ : ByteArray)).size + t144.size) = False := eq_false (Nat.not_lt.2 c6)
     obtain rfl := Option.some.inj H
     go_enter Tryd.func11, Tryd.ntmps11
     try go_wp2_with (first | ((with_reducible refine gate_dst (N := 1) rfl ?_); refine box_event ?hg (N := 1) ?hd (cs := #[.int .i64 a0_0, .string a0_1, .int .i64 a0_2, .slice A0_3 l0_3.length c0_3, .int .i64 a0_4, .int .i64 a0_5, .int .i64 a0_6]) (t := 33) ?hr ?_; (case hd => rfl); (case hg => rfl); (case hr => first | (go_simp; done) | (go_simp; rfl)); intro gb143 hg w7 hbox hb; have n0_ := Aside0.mk (below_step (by repeat (first | (with_reducible first | exact HB.out | apply below_alloc | apply pw_below_drewN | apply below_drew1) | exact HB.out)) hb); have n1_ := Aside0.mk (hbox); have n2_ := Aside0.mk ((by rw [hg]; exact (below_size (by repeat (first | (with_reducible first | exact HB.out | apply below_alloc | apply pw_below_drewN | apply below_drew1) | exact HB.out))) : w.heap.size ≤ gb143)); have n3_ := Aside0.mk ((by rw [hg]; exact (below_size (by repeat (first | (with_reducible first | exact HB.out | apply below_alloc | apply pw_below_drewN | apply below_drew1) | exact HB.out))) : w.heap.size ≤ gb143)); clear HB; have HB := n0_; have BK143 := n1_; have GW143 := n2_; have GE143 := n3_; clear n0_ n1_ n2_ n3_; clear hb hbox hg; have hcz8_0 : w7.cell? ⟨gb143, 0, none⟩ = some (.int .i64 a0_0) := (blk_cell BK143.out 0).trans rfl; have hcz8_1 : w7.cell? ⟨gb143, 1, none⟩ = some (.string a0_1) := (blk_cell BK143.out 1).trans rfl; have hcz8_2 : w7.cell? ⟨gb143, 2, none⟩ = some (.int .i64 a0_2) := (blk_cell BK143.out 2).trans rfl; have hcz8_3 : w7.cell? ⟨gb143, 3, none⟩ = some (.slice A0_3 l0_3.length c0_3) := (blk_cell BK143.out 3).trans rfl; have hcz8_4 : w7.cell? ⟨gb143, 4, none⟩ = some (.int .i64 a0_4) := (blk_cell BK143.out 4).trans rfl; have hcz8_5 : w7.cell? ⟨gb143, 5, none⟩ = some (.int .i64 a0_5) := (blk_cell BK143.out 5).trans rfl; have hcz8_6 : w7.cell? ⟨gb143, 6, none⟩ = some (.int .i64 a0_6) := (blk_cell BK143.out 6).trans rfl; have hfz8_0 := blk_frozen BK143.out 0; have hfz8_1 := blk_frozen BK143.out 1; have hfz8_2 := blk_frozen BK143.out 2; have hfz8_3 := blk_frozen BK143.out 3; have hfz8_4 := blk_frozen BK143.out 4; have hfz8_5 := blk_frozen BK143.out 5; have hfz8_6 := blk_frozen BK143.out 6))
     have n0_ := Aside0.mk (blk_drew BK143.out)
     have n1_ := Aside0.mk (below_drew1 HB.out)
     clear BK143
     clear HB
     have BK143 := n0_
     have HB := n1_
     clear n0_ n1_
     refine start_ (n := 9) (S := fun w' => w'.cell? ⟨gb143, 0, none⟩ = some (.int .i64 a0_0) ∧ w'.cell? ⟨gb143, 1, none⟩ = some (.string a0_1) ∧ w'.cell? ⟨gb143, 2, none⟩ = some (.int .i64 a0_2) ∧ w'.cell? ⟨gb143, 3, none⟩ = some (.slice A0_3 l0_3.length c0_3) ∧ w'.cell? ⟨gb143, 4, none⟩ = some (.int .i64 a0_4) ∧ w'.cell? ⟨gb143, 5, none⟩ = some (.int .i64 a0_5) ∧ w'.cell? ⟨gb143, 6, none⟩ = some (.int .i64 a0_6)) (ds := []) #[false, false, false, false, false, false, false, false, false] (by kernel_rfl) rfl rfl ⟨(blk_cell BK143.out 0).trans rfl, (blk_cell BK143.out 1).trans rfl, (blk_cell BK143.out 2).trans rfl, (blk_cell BK143.out 3).trans rfl, (blk_cell BK143.out 4).trans rfl, (blk_cell BK143.out 5).trans rfl, (blk_cell BK143.out 6).trans rfl⟩ (fun hHeld => ?_); refine with_tabW carcanetref25_Line.tab2 carcanetref25_Line.bits2 (fun HT_ HW_ => ?_)
     generalize w7.drew = w9 at BK143 HB hHeld ⊢
     refine pure_ (i := 0) (N := some 8) (v := ?_) (a' := ?_) #[true, false, false, false, false, false, false, false, false] rfl rfl (any_of HT_.out (by kernel_rfl)) (fun _ _ _ h => h) (Or.inl ⟨by rfl, ?_⟩) ?_ ?_
     rotate_left
     ·intro w'
      go_simp
      with_reducible rfl
     rotate_left
     ·simp only [Act.put, List.setIfInBounds_toArray, List.set_cons_zero, List.set_cons_succ, i64_w, i32_w]
      rfl
     refine pure_ (i := 4) (N := some 12) (v := ?_) (a' := ?_) #[true, false, false, false, true, false, false, false, false] rfl rfl (any_of HT_.out (by kernel_rfl)) (fun _ _ _ h => h) (Or.inl ⟨by rfl, ?_⟩) ?_ ?_
     rotate_left
     ·intro w'
      go_simp
      with_reducible rfl
     rotate_left
     ·simp only [Act.put, List.setIfInBounds_toArray, List.set_cons_zero, List.set_cons_succ, i64_w, i32_w]
      rfl
     refine take_ (i := 1) (N := some 9) (v := ?_) (a' := ?_) #[true, true, false, false, true, false, false, false, false] rfl rfl (take_ofW HT_.out HW_.out (by kernel_rfl)) (fun _ _ _ h => h) (Or.inl ⟨by rfl, ?_⟩) hHeld ?_ ?_
     rotate_left
     ·rintro w' ⟨s0, s1, s2, s3, s4, s5, s6⟩
      go_simp
      with_reducible rfl
     rotate_left
     ·simp only [Act.put, List.setIfInBounds_toArray, List.set_cons_zero, List.set_cons_succ, i64_w, i32_w]
      rfl
     refine pure_ (i := 2) (N := some 10) (v := ?_) (a' := ?_) #[true, true, true, false, true, false, false, false, false] rfl rfl (any_of HT_.out (by kernel_rfl)) (fun _ _ _ h => h) (Or.inl ⟨by rfl, ?_⟩) ?_ ?_
     rotate_left
     ·intro w'
      go_simp
      with_reducible rfl
     rotate_left
     ·simp only [Act.put, List.setIfInBounds_toArray, List.set_cons_zero, List.set_cons_succ, i64_w, i32_w]
      rfl
     refine pure_ (i := 3) (N := some 11) (v := ?_) (a' := ?_) #[true, true, true, true, true, false, false, false, false] rfl rfl (any_of HT_.out (by kernel_rfl)) (fun _ _ _ h => h) (Or.inl ⟨by rfl, ?_⟩) ?_ ?_
     rotate_left
     ·intro w'
      go_simp
      first | with_reducible rfl | rw [if_neg (by simp only [show ∀ a : Array UInt8, (⟨a⟩ : ByteArray).size = a.size from fun _ => rfl, ByteArray.data_append, Array.size_append, List.size_toArray, List.length_cons, List.length_nil, Nat.reduceAdd, eq_iff_iff, iff_true, iff_false, Nat.not_lt] at *; omega)]
     rotate_left
     ·simp only [Act.put, List.setIfInBounds_toArray, List.set_cons_zero, List.set_cons_succ, i64_w, i32_w]
      rfl
     refine take_ (i := 5) (N := some 13) (v := ?_) (a' := ?_) #[true, true, true, true, true, true, false, false, false] rfl rfl (take_ofW HT_.out HW_.out (by kernel_rfl)) (fun _ _ _ h => h) (Or.inl ⟨by rfl, ?_⟩) hHeld ?_ ?_
     rotate_left
     ·rintro w' ⟨s0, s1, s2, s3, s4, s5, s6⟩
      go_simp
      with_reducible rfl
     rotate_left
     ·simp only [Act.put, List.setIfInBounds_toArray, List.set_cons_zero, List.set_cons_succ, i64_w, i32_w]
      rfl
     refine one_ (i := 6) (N := some 14) #[true, true, true, true, true, true, true, false, false] rfl rfl (one_of HT_.out (by kernel_rfl)) (by decide) (fun K hK => ?_)
     refine goes_ Tryd.func25 (by kernel_rfl) rfl #[.int .i64 a0_4] (by rfl) rfl rfl (by (try simp only [List.map_toArray, List.map_cons, List.map_nil]); first | done | rfl | (simp only [List.length_drop, List.length_take]; rfl)) ?_
     with_reducible refine (carcanetref25_Title.calls a0_4 t144 _ A5.out).mono ?_
     rintro e w' ⟨rfl, ⟨nd, rfl⟩⟩
     refine ⟨_, rfl, ?_⟩
     refine hK.out _ _ ⟨(blk_cell BK143.out 0).trans rfl, (blk_cell BK143.out 1).trans rfl, (blk_cell BK143.out 2).trans rfl, (blk_cell BK143.out 3).trans rfl, (blk_cell BK143.out 4).trans rfl, (blk_cell BK143.out 5).trans rfl, (blk_cell BK143.out 6).trans rfl⟩ (fun hHeld => ?_)
     clear hK K
     refine norm_ (a' := ?_) ?_ ?_
     rotate_left
     ·show Act.put _ (some 14) _ = _
      simp only [Act.put, List.setIfInBounds_toArray, List.set_cons_zero, List.set_cons_succ, i64_w, i32_w]
      rfl
     refine pure_ (i := 7) (N := some 15) (v := ?_) (a' := ?_) #[true, true, true, true, true, true, true, true, false] rfl rfl (any_of HT_.out (by kernel_rfl)) (fun _ _ _ h => h) (Or.inl ⟨by rfl, ?_⟩) ?_ ?_
     rotate_left
     ·intro w'
      go_simp
      first | with_reducible rfl | rw [if_neg (by simp only [show ∀ a : Array UInt8, (⟨a⟩ : ByteArray).size = a.size from fun _ => rfl, ByteArray.data_append, Array.size_append, List.size_toArray, List.length_cons, List.length_nil, Nat.reduceAdd, eq_iff_iff, iff_true, iff_false, Nat.not_lt] at *; omega)]
     rotate_left
     ·simp only [Act.put, List.setIfInBounds_toArray, List.set_cons_zero, List.set_cons_succ, i64_w, i32_w]
      rfl
     refine pure_ (i := 8) (N := some 2) (v := ?_) (a' := ?_) #[true, true, true, true, true, true, true, true, true] rfl rfl (any_of HT_.out (by kernel_rfl)) (fun _ _ _ h => h) (Or.inl ⟨by rfl, ?_⟩) ?_ ?_
     rotate_left
     ·intro w'
      go_simp
      with_reducible rfl
     rotate_left
     ·simp only [Act.put, List.setIfInBounds_toArray, List.set_cons_zero, List.set_cons_succ, i64_w, i32_w]
      rfl
     refine done_ (done_of HT_.out (by kernel_rfl)) ?_
     try go_wp2
     go_ret
     exact ⟨by first | rfl | (simp [errW_none, errW_some] <;> rfl) | (simp [*, errW_none, errW_some] <;> rfl), by repeat (first | (with_reducible first | exact HB.out | apply below_alloc | apply pw_below_drewN | apply below_drew1 | refine below_set ?_ GE143.out) | exact HB.out)⟩
    ·rw [if_neg c6] at H
     exact absurd H (by simp)
   ·rw [if_neg c4] at H
    exact absurd H (by simp)
  ·rw [if_neg c3] at H
   exact absurd H (by simp)
 ·rw [if_neg c2] at H
  have c2b0 : (a0_0 == 2) = false := beq_eq_false_iff_ne.mpr c2
  have c2b1 : (a0_0 != 2) = true := bne_iff_ne.mpr c2
  by_cases c10 : a0_0 = 3
  ·rw [if_pos c10] at H
   have c10b0 : (a0_0 == 3) = true := beq_iff_eq.mpr c10
   have c10b1 : (a0_0 != 3) = false := bne_eq_false_iff_eq.mpr c10
   clear c10
   by_cases c11 : 5 + a0_1.size ≤ 9223372036854775807
   ·rw [if_pos c11] at H
    have c11b0 := eq_true c11
    have c11b1 : decide (5 + a0_1.size ≤ 9223372036854775807) = true := decide_eq_true c11
    try have c11b2 : (9223372036854775807 < 5 + a0_1.size) = False := eq_false (Nat.not_lt.2 c11)
    obtain rfl := Option.some.inj H
    go_enter Tryd.func11, Tryd.ntmps11
    go_wp2_with (first | ((with_reducible refine gate_dst (N := 1) rfl ?_); refine box_event ?hg (N := 1) ?hd (cs := #[.int .i64 a0_0, .string a0_1, .int .i64 a0_2, .slice A0_3 l0_3.length c0_3, .int .i64 a0_4, .int .i64 a0_5, .int .i64 a0_6]) (t := 33) ?hr ?_; (case hd => rfl); (case hg => rfl); (case hr => first | (go_simp; done) | (go_simp; rfl)); intro gb143 hg w12 hbox hb; have n0_ := Aside0.mk (below_step (by repeat (first | (with_reducible first | exact HB.out | apply below_alloc | apply pw_below_drewN | apply below_drew1) | exact HB.out)) hb); have n1_ := Aside0.mk (hbox); have n2_ := Aside0.mk ((by rw [hg]; exact (below_size (by repeat (first | (with_reducible first | exact HB.out | apply below_alloc | apply pw_below_drewN | apply below_drew1) | exact HB.out))) : w.heap.size ≤ gb143)); have n3_ := Aside0.mk ((by rw [hg]; exact (below_size (by repeat (first | (with_reducible first | exact HB.out | apply below_alloc | apply pw_below_drewN | apply below_drew1) | exact HB.out))) : w.heap.size ≤ gb143)); clear HB; have HB := n0_; have BK143 := n1_; have GW143 := n2_; have GE143 := n3_; clear n0_ n1_ n2_ n3_; clear hb hbox hg; have hcz13_0 : w12.cell? ⟨gb143, 0, none⟩ = some (.int .i64 a0_0) := (blk_cell BK143.out 0).trans rfl; have hcz13_1 : w12.cell? ⟨gb143, 1, none⟩ = some (.string a0_1) := (blk_cell BK143.out 1).trans rfl; have hcz13_2 : w12.cell? ⟨gb143, 2, none⟩ = some (.int .i64 a0_2) := (blk_cell BK143.out 2).trans rfl; have hcz13_3 : w12.cell? ⟨gb143, 3, none⟩ = some (.slice A0_3 l0_3.length c0_3) := (blk_cell BK143.out 3).trans rfl; have hcz13_4 : w12.cell? ⟨gb143, 4, none⟩ = some (.int .i64 a0_4) := (blk_cell BK143.out 4).trans rfl; have hcz13_5 : w12.cell? ⟨gb143, 5, none⟩ = some (.int .i64 a0_5) := (blk_cell BK143.out 5).trans rfl; have hcz13_6 : w12.cell? ⟨gb143, 6, none⟩ = some (.int .i64 a0_6) := (blk_cell BK143.out 6).trans rfl; have hfz13_0 := blk_frozen BK143.out 0; have hfz13_1 := blk_frozen BK143.out 1; have hfz13_2 := blk_frozen BK143.out 2; have hfz13_3 := blk_frozen BK143.out 3; have hfz13_4 := blk_frozen BK143.out 4; have hfz13_5 := blk_frozen BK143.out 5; have hfz13_6 := blk_frozen BK143.out 6))
    go_ret
    exact ⟨by first | rfl | (simp [errW_none, errW_some] <;> rfl) | (simp [*, errW_none, errW_some] <;> rfl), by repeat (first | (with_reducible first | exact HB.out | apply below_alloc | apply pw_below_drewN | apply below_drew1 | refine below_set ?_ GE143.out) | exact HB.out)⟩
   ·rw [if_neg c11] at H
    exact absurd H (by simp)
  ·rw [if_neg c10] at H
   have c10b0 : (a0_0 == 3) = false := beq_eq_false_iff_ne.mpr c10
   have c10b1 : (a0_0 != 3) = true := bne_iff_ne.mpr c10
   by_cases c14 : a0_0 = 4
   ·rw [if_pos c14] at H
    have c14b0 : (a0_0 == 4) = true := beq_iff_eq.mpr c14
    have c14b1 : (a0_0 != 4) = false := bne_eq_false_iff_eq.mpr c14
    clear c14
    by_cases c15 : 5 + a0_1.size ≤ 9223372036854775807
    ·rw [if_pos c15] at H
     have c15b0 := eq_true c15
     have c15b1 : decide (5 + a0_1.size ≤ 9223372036854775807) = true := decide_eq_true c15
     try have c15b2 : (9223372036854775807 < 5 + a0_1.size) = False := eq_false (Nat.not_lt.2 c15)
     obtain rfl := Option.some.inj H
     go_enter Tryd.func11, Tryd.ntmps11
     go_wp2_with (first | ((with_reducible refine gate_dst (N := 1) rfl ?_); refine box_event ?hg (N := 1) ?hd (cs := #[.int .i64 a0_0, .string a0_1, .int .i64 a0_2, .slice A0_3 l0_3.length c0_3, .int .i64 a0_4, .int .i64 a0_5, .int .i64 a0_6]) (t := 33) ?hr ?_; (case hd => rfl); (case hg => rfl); (case hr => first | (go_simp; done) | (go_simp; rfl)); intro gb143 hg w16 hbox hb; have n0_ := Aside0.mk (below_step (by repeat (first | (with_reducible first | exact HB.out | apply below_alloc | apply pw_below_drewN | apply below_drew1) | exact HB.out)) hb); have n1_ := Aside0.mk (hbox); have n2_ := Aside0.mk ((by rw [hg]; exact (below_size (by repeat (first | (with_reducible first | exact HB.out | apply below_alloc | apply pw_below_drewN | apply below_drew1) | exact HB.out))) : w.heap.size ≤ gb143)); have n3_ := Aside0.mk ((by rw [hg]; exact (below_size (by repeat (first | (with_reducible first | exact HB.out | apply below_alloc | apply pw_below_drewN | apply below_drew1) | exact HB.out))) : w.heap.size ≤ gb143)); clear HB; have HB := n0_; have BK143 := n1_; have GW143 := n2_; have GE143 := n3_; clear n0_ n1_ n2_ n3_; clear hb hbox hg; have hcz17_0 : w16.cell? ⟨gb143, 0, none⟩ = some (.int .i64 a0_0) := (blk_cell BK143.out 0).trans rfl; have hcz17_1 : w16.cell? ⟨gb143, 1, none⟩ = some (.string a0_1) := (blk_cell BK143.out 1).trans rfl; have hcz17_2 : w16.cell? ⟨gb143, 2, none⟩ = some (.int .i64 a0_2) := (blk_cell BK143.out 2).trans rfl; have hcz17_3 : w16.cell? ⟨gb143, 3, none⟩ = some (.slice A0_3 l0_3.length c0_3) := (blk_cell BK143.out 3).trans rfl; have hcz17_4 : w16.cell? ⟨gb143, 4, none⟩ = some (.int .i64 a0_4) := (blk_cell BK143.out 4).trans rfl; have hcz17_5 : w16.cell? ⟨gb143, 5, none⟩ = some (.int .i64 a0_5) := (blk_cell BK143.out 5).trans rfl; have hcz17_6 : w16.cell? ⟨gb143, 6, none⟩ = some (.int .i64 a0_6) := (blk_cell BK143.out 6).trans rfl; have hfz17_0 := blk_frozen BK143.out 0; have hfz17_1 := blk_frozen BK143.out 1; have hfz17_2 := blk_frozen BK143.out 2; have hfz17_3 := blk_frozen BK143.out 3; have hfz17_4 := blk_frozen BK143.out 4; have hfz17_5 := blk_frozen BK143.out 5; have hfz17_6 := blk_frozen BK143.out 6))
     go_ret
     exact ⟨by first | rfl | (simp [errW_none, errW_some] <;> rfl) | (simp [*, errW_none, errW_some] <;> rfl), by repeat (first | (with_reducible first | exact HB.out | apply below_alloc | apply pw_below_drewN | apply below_drew1 | refine below_set ?_ GE143.out) | exact HB.out)⟩
    ·rw [if_neg c15] at H
     exact absurd H (by simp)
   ·rw [if_neg c14] at H
    have c14b0 : (a0_0 == 4) = false := beq_eq_false_iff_ne.mpr c14
    have c14b1 : (a0_0 != 4) = true := bne_iff_ne.mpr c14
    by_cases c18 : 5 + a0_1.size ≤ 9223372036854775807
    ·rw [if_pos c18] at H
     have c18b0 := eq_true c18
     have c18b1 : decide (5 + a0_1.size ≤ 9223372036854775807) = true := decide_eq_true c18
     try have c18b2 : (9223372036854775807 < 5 + a0_1.size) = False := eq_false (Nat.not_lt.2 c18)
     by_cases c19 : ((⟨#[108, 111, 97, 100, 32]⟩ : ByteArray) ++ a0_1).size + 1 ≤ 9223372036854775807
     ·rw [if_pos c19] at H
      have c19b0 := eq_true c19
      have c19b1 : decide (((⟨#[108, 111, 97, 100, 32]⟩ : ByteArray) ++ a0_1).size + 1 ≤ 9223372036854775807) = true := decide_eq_true c19
      try have c19b2 : (9223372036854775807 < ((⟨#[108, 111, 97, 100, 32]⟩ : ByteArray) ++ a0_1).size + 1) = False := eq_false (Nat.not_lt.2 c19)
      replace H := Option.bind_eq_some_iff.mp H
      obtain ⟨t145, A200, H⟩ := H
      replace H : (if (((⟨#[108, 111, 97, 100, 32]⟩ : ByteArray) ++ a0_1) ++ (⟨#[32]⟩ : ByteArray)).size + t145.size ≤ 9223372036854775807 then (carcanetref25_Line.l0 k ((((⟨#[108, 111, 97, 100, 32]⟩ : ByteArray) ++ a0_1) ++ (⟨#[32]⟩ : ByteArray)) ++ t145) 0 a0_0 a0_1 a0_2 l0_3 a0_4 a0_5 a0_6) else (none)) = some r := H
      have A20 := Aside0.mk A200
      clear A200
      by_cases c21 : (((⟨#[108, 111, 97, 100, 32]⟩ : ByteArray) ++ a0_1) ++ (⟨#[32]⟩ : ByteArray)).size + t145.size ≤ 9223372036854775807
      ·rw [if_pos c21] at H
       have c21b0 := eq_true c21
       have c21b1 : decide ((((⟨#[108, 111, 97, 100, 32]⟩ : ByteArray) ++ a0_1) ++ (⟨#[32]⟩ : ByteArray)).size + t145.size ≤ 9223372036854775807) = true := decide_eq_true c21
       try have c21b2 : (9223372036854775807 < (((⟨#[108, 111, 97, 100, 32]⟩ : ByteArray) ++ a0_1) ++ (⟨#[32]⟩ : ByteArray)).size + t145.size) = False := eq_false (Nat.not_lt.2 c21)
       have H' := Aside0.mk H
       clear H
       go_enter Tryd.func11, Tryd.ntmps11
       try go_wp2_with (first | ((with_reducible refine gate_dst (N := 1) rfl ?_); refine box_event ?hg (N := 1) ?hd (cs := #[.int .i64 a0_0, .string a0_1, .int .i64 a0_2, .slice A0_3 l0_3.length c0_3, .int .i64 a0_4, .int .i64 a0_5, .int .i64 a0_6]) (t := 33) ?hr ?_; (case hd => rfl); (case hg => rfl); (case hr => first | (go_simp; done) | (go_simp; rfl)); intro gb143 hg w22 hbox hb; have n0_ := Aside0.mk (below_step (by repeat (first | (with_reducible first | exact HB.out | apply below_alloc | apply pw_below_drewN | apply below_drew1) | exact HB.out)) hb); have n1_ := Aside0.mk (hbox); have n2_ := Aside0.mk ((by rw [hg]; exact (below_size (by repeat (first | (with_reducible first | exact HB.out | apply below_alloc | apply pw_below_drewN | apply below_drew1) | exact HB.out))) : w.heap.size ≤ gb143)); have n3_ := Aside0.mk ((by rw [hg]; exact (below_size (by repeat (first | (with_reducible first | exact HB.out | apply below_alloc | apply pw_below_drewN | apply below_drew1) | exact HB.out))) : w.heap.size ≤ gb143)); clear HB; have HB := n0_; have BK143 := n1_; have GW143 := n2_; have GE143 := n3_; clear n0_ n1_ n2_ n3_; clear hb hbox hg; have hcz23_0 : w22.cell? ⟨gb143, 0, none⟩ = some (.int .i64 a0_0) := (blk_cell BK143.out 0).trans rfl; have hcz23_1 : w22.cell? ⟨gb143, 1, none⟩ = some (.string a0_1) := (blk_cell BK143.out 1).trans rfl; have hcz23_2 : w22.cell? ⟨gb143, 2, none⟩ = some (.int .i64 a0_2) := (blk_cell BK143.out 2).trans rfl; have hcz23_3 : w22.cell? ⟨gb143, 3, none⟩ = some (.slice A0_3 l0_3.length c0_3) := (blk_cell BK143.out 3).trans rfl; have hcz23_4 : w22.cell? ⟨gb143, 4, none⟩ = some (.int .i64 a0_4) := (blk_cell BK143.out 4).trans rfl; have hcz23_5 : w22.cell? ⟨gb143, 5, none⟩ = some (.int .i64 a0_5) := (blk_cell BK143.out 5).trans rfl; have hcz23_6 : w22.cell? ⟨gb143, 6, none⟩ = some (.int .i64 a0_6) := (blk_cell BK143.out 6).trans rfl; have hfz23_0 := blk_frozen BK143.out 0; have hfz23_1 := blk_frozen BK143.out 1; have hfz23_2 := blk_frozen BK143.out 2; have hfz23_3 := blk_frozen BK143.out 3; have hfz23_4 := blk_frozen BK143.out 4; have hfz23_5 := blk_frozen BK143.out 5; have hfz23_6 := blk_frozen BK143.out 6))
       have n0_ := Aside0.mk (blk_drew BK143.out)
       have n1_ := Aside0.mk (below_drew1 HB.out)
       clear BK143
       clear HB
       have BK143 := n0_
       have HB := n1_
       clear n0_ n1_
       refine start_ (n := 10) (S := fun w' => w'.cell? ⟨gb143, 0, none⟩ = some (.int .i64 a0_0) ∧ w'.cell? ⟨gb143, 1, none⟩ = some (.string a0_1) ∧ w'.cell? ⟨gb143, 2, none⟩ = some (.int .i64 a0_2) ∧ w'.cell? ⟨gb143, 3, none⟩ = some (.slice A0_3 l0_3.length c0_3) ∧ w'.cell? ⟨gb143, 4, none⟩ = some (.int .i64 a0_4) ∧ w'.cell? ⟨gb143, 5, none⟩ = some (.int .i64 a0_5) ∧ w'.cell? ⟨gb143, 6, none⟩ = some (.int .i64 a0_6)) (ds := []) #[false, false, false, false, false, false, false, false, false, false] (by kernel_rfl) rfl rfl ⟨(blk_cell BK143.out 0).trans rfl, (blk_cell BK143.out 1).trans rfl, (blk_cell BK143.out 2).trans rfl, (blk_cell BK143.out 3).trans rfl, (blk_cell BK143.out 4).trans rfl, (blk_cell BK143.out 5).trans rfl, (blk_cell BK143.out 6).trans rfl⟩ (fun hHeld => ?_); refine with_tabW carcanetref25_Line.tab7 carcanetref25_Line.bits7 (fun HT_ HW_ => ?_)
       generalize w22.drew = w24 at BK143 HB hHeld ⊢
       refine pure_ (i := 0) (N := some 28) (v := ?_) (a' := ?_) #[true, false, false, false, false, false, false, false, false, false] rfl rfl (any_of HT_.out (by kernel_rfl)) (fun _ _ _ h => h) (Or.inl ⟨by rfl, ?_⟩) ?_ ?_
       rotate_left
       ·intro w'
        go_simp
        with_reducible rfl
       rotate_left
       ·simp only [Act.put, List.setIfInBounds_toArray, List.set_cons_zero, List.set_cons_succ, i64_w, i32_w]
        rfl
       refine pure_ (i := 4) (N := some 32) (v := ?_) (a' := ?_) #[true, false, false, false, true, false, false, false, false, false] rfl rfl (any_of HT_.out (by kernel_rfl)) (fun _ _ _ h => h) (Or.inl ⟨by rfl, ?_⟩) ?_ ?_
       rotate_left
       ·intro w'
        go_simp
        with_reducible rfl
       rotate_left
       ·simp only [Act.put, List.setIfInBounds_toArray, List.set_cons_zero, List.set_cons_succ, i64_w, i32_w]
        rfl
       refine pure_ (i := 5) (N := some 33) (v := ?_) (a' := ?_) #[true, false, false, false, true, true, false, false, false, false] rfl rfl (any_of HT_.out (by kernel_rfl)) (fun _ _ _ h => h) (Or.inl ⟨by rfl, ?_⟩) ?_ ?_
       rotate_left
       ·intro w'
        go_simp
        with_reducible rfl
       rotate_left
       ·simp only [Act.put, List.setIfInBounds_toArray, List.set_cons_zero, List.set_cons_succ, i64_w, i32_w]
        rfl
       refine take_ (i := 1) (N := some 29) (v := ?_) (a' := ?_) #[true, true, false, false, true, true, false, false, false, false] rfl rfl (take_ofW HT_.out HW_.out (by kernel_rfl)) (fun _ _ _ h => h) (Or.inl ⟨by rfl, ?_⟩) hHeld ?_ ?_
       rotate_left
       ·rintro w' ⟨s0, s1, s2, s3, s4, s5, s6⟩
        go_simp
        with_reducible rfl
       rotate_left
       ·simp only [Act.put, List.setIfInBounds_toArray, List.set_cons_zero, List.set_cons_succ, i64_w, i32_w]
        rfl
       refine pure_ (i := 2) (N := some 30) (v := ?_) (a' := ?_) #[true, true, true, false, true, true, false, false, false, false] rfl rfl (any_of HT_.out (by kernel_rfl)) (fun _ _ _ h => h) (Or.inl ⟨by rfl, ?_⟩) ?_ ?_
       rotate_left
       ·intro w'
        go_simp
        with_reducible rfl
       rotate_left
       ·simp only [Act.put, List.setIfInBounds_toArray, List.set_cons_zero, List.set_cons_succ, i64_w, i32_w]
        rfl
       refine pure_ (i := 3) (N := some 31) (v := ?_) (a' := ?_) #[true, true, true, true, true, true, false, false, false, false] rfl rfl (any_of HT_.out (by kernel_rfl)) (fun _ _ _ h => h) (Or.inl ⟨by rfl, ?_⟩) ?_ ?_
       rotate_left
       ·intro w'
        go_simp
        first | with_reducible rfl | rw [if_neg (by simp only [show ∀ a : Array UInt8, (⟨a⟩ : ByteArray).size = a.size from fun _ => rfl, ByteArray.data_append, Array.size_append, List.size_toArray, List.length_cons, List.length_nil, Nat.reduceAdd, eq_iff_iff, iff_true, iff_false, Nat.not_lt] at *; omega)]
       rotate_left
       ·simp only [Act.put, List.setIfInBounds_toArray, List.set_cons_zero, List.set_cons_succ, i64_w, i32_w]
        rfl
       refine take_ (i := 6) (N := some 34) (v := ?_) (a' := ?_) #[true, true, true, true, true, true, true, false, false, false] rfl rfl (take_ofW HT_.out HW_.out (by kernel_rfl)) (fun _ _ _ h => h) (Or.inl ⟨by rfl, ?_⟩) hHeld ?_ ?_
       rotate_left
       ·rintro w' ⟨s0, s1, s2, s3, s4, s5, s6⟩
        go_simp
        with_reducible rfl
       rotate_left
       ·simp only [Act.put, List.setIfInBounds_toArray, List.set_cons_zero, List.set_cons_succ, i64_w, i32_w]
        rfl
       refine one_ (i := 7) (N := some 35) #[true, true, true, true, true, true, true, true, false, false] rfl rfl (one_of HT_.out (by kernel_rfl)) (by decide) (fun K hK => ?_)
       refine goes_ Tryd.func13 (by kernel_rfl) rfl #[.int .i64 a0_2] (by rfl) rfl rfl (by (try simp only [List.map_toArray, List.map_cons, List.map_nil]); first | done | rfl | (simp only [List.length_drop, List.length_take]; rfl)) ?_
       with_reducible refine (carcanetref25_Number.calls k a0_2 t145 _ A20.out).mono ?_
       rintro e w25 ⟨rfl, hb⟩
       refine ⟨_, rfl, ?_⟩
       have n0_ := Aside0.mk (blk_below (g := gb143) (o := .cells #[.int .i64 a0_0, .string a0_1, .int .i64 a0_2, .slice A0_3 l0_3.length c0_3, .int .i64 a0_4, .int .i64 a0_5, .int .i64 a0_6] 33 (0, 0)) (by (with_reducible repeat (first | refine blk_drewN ?_ _ | refine blk_drew ?_ | refine blk_alloc ?_ _)); exact BK143.out) hb)
       have n1_ := Aside0.mk (below_step (by repeat (first | (with_reducible first | exact HB.out | apply below_alloc | apply pw_below_drewN | apply below_drew1 | refine below_set ?_ GE143.out) | exact HB.out)) hb)
       clear BK143
       clear HB
       have BK143 := n0_
       have HB := n1_
       clear n0_ n1_
       (try clear hb)
       (try clear hb2)
       (try clear hk)
       (try clear hi)
       refine hK.out _ _ ⟨(blk_cell BK143.out 0).trans rfl, (blk_cell BK143.out 1).trans rfl, (blk_cell BK143.out 2).trans rfl, (blk_cell BK143.out 3).trans rfl, (blk_cell BK143.out 4).trans rfl, (blk_cell BK143.out 5).trans rfl, (blk_cell BK143.out 6).trans rfl⟩ (fun hHeld => ?_)
       clear hK K
       refine norm_ (a' := ?_) ?_ ?_
       rotate_left
       ·show Act.put _ (some 35) _ = _
        simp only [Act.put, List.setIfInBounds_toArray, List.set_cons_zero, List.set_cons_succ, i64_w, i32_w]
        rfl
       refine pure_ (i := 8) (N := some 36) (v := ?_) (a' := ?_) #[true, true, true, true, true, true, true, true, true, false] rfl rfl (any_of HT_.out (by kernel_rfl)) (fun _ _ _ h => h) (Or.inl ⟨by rfl, ?_⟩) ?_ ?_
       rotate_left
       ·intro w'
        go_simp
        first | with_reducible rfl | rw [if_neg (by simp only [show ∀ a : Array UInt8, (⟨a⟩ : ByteArray).size = a.size from fun _ => rfl, ByteArray.data_append, Array.size_append, List.size_toArray, List.length_cons, List.length_nil, Nat.reduceAdd, eq_iff_iff, iff_true, iff_false, Nat.not_lt] at *; omega)]
       rotate_left
       ·simp only [Act.put, List.setIfInBounds_toArray, List.set_cons_zero, List.set_cons_succ, i64_w, i32_w]
        rfl
       refine pure_ (i := 9) (N := some 3) (v := ?_) (a' := ?_) #[true, true, true, true, true, true, true, true, true, true] rfl rfl (any_of HT_.out (by kernel_rfl)) (fun _ _ _ h => h) (Or.inl ⟨by rfl, ?_⟩) ?_ ?_
       rotate_left
       ·intro w'
        go_simp
        with_reducible rfl
       rotate_left
       ·simp only [Act.put, List.setIfInBounds_toArray, List.set_cons_zero, List.set_cons_succ, i64_w, i32_w]
        rfl
       refine done_ (done_of HT_.out (by kernel_rfl)) ?_
       try go_wp2
       go_loopg [3, 4] k (fun kq v3 v4 w' => ∃ (x3_1 : ByteArray) (x4_1 : Int), v3 = .string x3_1 ∧ v4 = .int .i64 x4_1 ∧ Aside0 (carcanetref25_Line.l0 kq x3_1 x4_1 a0_0 a0_1 a0_2 l0_3 a0_4 a0_5 a0_6 = some r) ∧ Aside0 (kq ≤ k) ∧ Aside0 (w'.heap[gb143]? = some (.cells #[.int .i64 a0_0, .string a0_1, .int .i64 a0_2, (.slice A0_3 l0_3.length c0_3), .int .i64 a0_4, .int .i64 a0_5, .int .i64 a0_6] 33 (0, 0))) ∧ Aside0 (Below w.heap.size w w'))
       case atStart => exact ⟨((((⟨#[108, 111, 97, 100, 32]⟩ : ByteArray) ++ a0_1) ++ (⟨#[32]⟩ : ByteArray)) ++ t145), (0), (by first | rfl | (simp; done) | (simp [*]; done)), (by first | rfl | (simp; done) | (simp [*]; done)), H', ⟨Nat.le_refl _⟩, ⟨by (with_reducible repeat (first | refine blk_drewN ?_ _ | refine blk_drew ?_ | refine blk_alloc ?_ _)); exact BK143.out⟩, ⟨by repeat (first | (with_reducible first | exact HB.out | apply below_alloc | apply pw_below_drewN | apply below_drew1 | refine below_set ?_ GE143.out) | exact HB.out)⟩⟩
       case round =>
        clear H'
        try clear c1
        try clear c2
        try clear c2b0
        try clear c2b1
        try clear p2
        try clear c3
        try clear c3b0
        try clear c3b1
        try clear c3b2
        try clear c4
        try clear c4b0
        try clear c4b1
        try clear c4b2
        try clear c6
        try clear c6b0
        try clear c6b1
        try clear c6b2
        try clear c10
        try clear c10b0
        try clear c10b1
        try clear c11
        try clear c11b0
        try clear c11b1
        try clear c11b2
        try clear c13
        try clear c14
        try clear c14b0
        try clear c14b1
        try clear c15
        try clear c15b0
        try clear c15b1
        try clear c15b2
        try clear c18
        try clear c18b0
        try clear c18b1
        try clear c18b2
        try clear c19
        try clear c19b0
        try clear c19b1
        try clear c19b2
        try clear c21
        try clear c21b0
        try clear c21b1
        try clear c21b2
        try clear c25
        try clear hcz13_0
        try clear hcz13_1
        try clear hcz13_2
        try clear hcz13_3
        try clear hcz13_4
        try clear hcz13_5
        try clear hcz13_6
        try clear hcz17_0
        try clear hcz17_1
        try clear hcz17_2
        try clear hcz17_3
        try clear hcz17_4
        try clear hcz17_5
        try clear hcz17_6
        try clear hcz23_0
        try clear hcz23_1
        try clear hcz23_2
        try clear hcz23_3
        try clear hcz23_4
        try clear hcz23_5
        try clear hcz23_6
        try clear hcz8_0
        try clear hcz8_1
        try clear hcz8_2
        try clear hcz8_3
        try clear hcz8_4
        try clear hcz8_5
        try clear hcz8_6
        try clear hfz13_0
        try clear hfz13_1
        try clear hfz13_2
        try clear hfz13_3
        try clear hfz13_4
        try clear hfz13_5
        try clear hfz13_6
        try clear hfz17_0
        try clear hfz17_1
        try clear hfz17_2
        try clear hfz17_3
        try clear hfz17_4
        try clear hfz17_5
        try clear hfz17_6
        try clear hfz23_0
        try clear hfz23_1
        try clear hfz23_2
        try clear hfz23_3
        try clear hfz23_4
        try clear hfz23_5
        try clear hfz23_6
        try clear hfz8_0
        try clear hfz8_1
        try clear hfz8_2
        try clear hfz8_3
        try clear hfz8_4
        try clear hfz8_5
        try clear hfz8_6
        obtain ⟨x3_1, x4_1, rfl, rfl, HA, HK1, BK143, HB⟩ := hrel
        cases gk with
        | zero => exact absurd HA.out (by simp [carcanetref25_Line.l0])
        | succ k1 =>
         have H := HA.out
         clear HA
         simp only [carcanetref25_Line.l0] at H
         by_cases c26 : x4_1 < (l0_3.length : Int)
         ·rw [if_pos c26] at H
          have c26b0 : decide (x4_1 < (l0_3.length : Int)) = true := decide_eq_true c26
          clear c26
          by_cases c27 : x3_1.size + 1 ≤ 9223372036854775807
          ·rw [if_pos c27] at H
           have c27b0 := eq_true c27
           have c27b1 : decide (x3_1.size + 1 ≤ 9223372036854775807) = true := decide_eq_true c27
           try have c27b2 : (9223372036854775807 < x3_1.size + 1) = False := eq_false (Nat.not_lt.2 c27)
           by_cases c28 : 0 ≤ x4_1
           ·rw [if_pos c28] at H
            have c28b0 : decide (0 ≤ x4_1) = true := decide_eq_true c28
            clear c28
            replace H := Option.bind_eq_some_iff.mp H
            obtain ⟨t147, A290, H⟩ := H
            replace H : (if (x3_1 ++ (⟨#[32]⟩ : ByteArray)).size + t147.size ≤ 9223372036854775807 then (if ((x3_1 ++ (⟨#[32]⟩ : ByteArray)) ++ t147).size + 1 ≤ 9223372036854775807 then ((carcanetref25_Number.f k1 ((rd_T39 l0_3 x4_1).f1)).bind fun t149 => (if (((x3_1 ++ (⟨#[32]⟩ : ByteArray)) ++ t147) ++ (⟨#[45]⟩ : ByteArray)).size + t149.size ≤ 9223372036854775807 then (carcanetref25_Line.l0 k1 ((((x3_1 ++ (⟨#[32]⟩ : ByteArray)) ++ t147) ++ (⟨#[45]⟩ : ByteArray)) ++ t149) (wrap64 (x4_1 + 1)) a0_0 a0_1 a0_2 l0_3 a0_4 a0_5 a0_6) else (none))) else (none)) else (none)) = some r := H
            have A29 := Aside0.mk A290
            clear A290
            by_cases c30 : (x3_1 ++ (⟨#[32]⟩ : ByteArray)).size + t147.size ≤ 9223372036854775807
            ·rw [if_pos c30] at H
             have c30b0 := eq_true c30
             have c30b1 : decide ((x3_1 ++ (⟨#[32]⟩ : ByteArray)).size + t147.size ≤ 9223372036854775807) = true := decide_eq_true c30
             try have c30b2 : (9223372036854775807 < (x3_1 ++ (⟨#[32]⟩ : ByteArray)).size + t147.size) = False := eq_false (Nat.not_lt.2 c30)
             by_cases c31 : ((x3_1 ++ (⟨#[32]⟩ : ByteArray)) ++ t147).size + 1 ≤ 9223372036854775807
             ·rw [if_pos c31] at H
              have c31b0 := eq_true c31
              have c31b1 : decide (((x3_1 ++ (⟨#[32]⟩ : ByteArray)) ++ t147).size + 1 ≤ 9223372036854775807) = true := decide_eq_true c31
              try have c31b2 : (9223372036854775807 < ((x3_1 ++ (⟨#[32]⟩ : ByteArray)) ++ t147).size + 1) = False := eq_false (Nat.not_lt.2 c31)
              replace H := Option.bind_eq_some_iff.mp H
              obtain ⟨t149, A320, H⟩ := H
              replace H : (if (((x3_1 ++ (⟨#[32]⟩ : ByteArray)) ++ t147) ++ (⟨#[45]⟩ : ByteArray)).size + t149.size ≤ 9223372036854775807 then (carcanetref25_Line.l0 k1 ((((x3_1 ++ (⟨#[32]⟩ : ByteArray)) ++ t147) ++ (⟨#[45]⟩ : ByteArray)) ++ t149) (wrap64 (x4_1 + 1)) a0_0 a0_1 a0_2 l0_3 a0_4 a0_5 a0_6) else (none)) = some r := H
              have A32 := Aside0.mk A320
              clear A320
              by_cases c33 : (((x3_1 ++ (⟨#[32]⟩ : ByteArray)) ++ t147) ++ (⟨#[45]⟩ : ByteArray)).size + t149.size ≤ 9223372036854775807
              ·rw [if_pos c33] at H
               have c33b0 := eq_true c33
               have c33b1 : decide ((((x3_1 ++ (⟨#[32]⟩ : ByteArray)) ++ t147) ++ (⟨#[45]⟩ : ByteArray)).size + t149.size ≤ 9223372036854775807) = true := decide_eq_true c33
               try have c33b2 : (9223372036854775807 < (((x3_1 ++ (⟨#[32]⟩ : ByteArray)) ++ t147) ++ (⟨#[45]⟩ : ByteArray)).size + t149.size) = False := eq_false (Nat.not_lt.2 c33)
               have H' := Aside0.mk H
               clear H
               have hcz34_0 : wr.cell? ⟨gb143, 0, none⟩ = some (.int .i64 a0_0) := (blk_cell BK143.out 0).trans rfl
               have hcz34_1 : wr.cell? ⟨gb143, 1, none⟩ = some (.string a0_1) := (blk_cell BK143.out 1).trans rfl
               have hcz34_2 : wr.cell? ⟨gb143, 2, none⟩ = some (.int .i64 a0_2) := (blk_cell BK143.out 2).trans rfl
               have hcz34_3 : wr.cell? ⟨gb143, 3, none⟩ = some (.slice A0_3 l0_3.length c0_3) := (blk_cell BK143.out 3).trans rfl
               have hcz34_4 : wr.cell? ⟨gb143, 4, none⟩ = some (.int .i64 a0_4) := (blk_cell BK143.out 4).trans rfl
               have hcz34_5 : wr.cell? ⟨gb143, 5, none⟩ = some (.int .i64 a0_5) := (blk_cell BK143.out 5).trans rfl
               have hcz34_6 : wr.cell? ⟨gb143, 6, none⟩ = some (.int .i64 a0_6) := (blk_cell BK143.out 6).trans rfl
               have hfz34_0 := blk_frozen BK143.out 0
               have hfz34_1 := blk_frozen BK143.out 1
               have hfz34_2 := blk_frozen BK143.out 2
               have hfz34_3 := blk_frozen BK143.out 3
               have hfz34_4 := blk_frozen BK143.out 4
               have hfz34_5 := blk_frozen BK143.out 5
               have hfz34_6 := blk_frozen BK143.out 6
               try go_wp2
               have n0_ := Aside0.mk (blk_drew BK143.out)
               have n1_ := Aside0.mk (below_drew1 HB.out)
               clear BK143
               clear HB
               have BK143 := n0_
               have HB := n1_
               clear n0_ n1_
               have p146 : 0 ≤ (x4_1 : Int) := of_decide_eq_true (by first | (with_reducible assumption) | assumption)
               have q146 : x4_1 < (l0_3.length : Int) := of_decide_eq_true (by first | (with_reducible assumption) | assumption)
               obtain ⟨ad146, e146, hx146_0, hx146_1⟩ := at_T39 HR0_3.out x4_1 p146 q146
               have hw146_1 := hx146_1
               have hw146_0 := hx146_0
               cases e146
               replace hx146_0 := (HB.out.cell (World.block_lt_of_cell? w _ hx146_0)).trans hx146_0
               replace hx146_1 := (HB.out.cell (World.block_lt_of_cell? w _ hx146_1)).trans hx146_1
               replace p146 := eq_true p146
               replace q146 := eq_true q146
               have p148 : 0 ≤ (x4_1 : Int) := of_decide_eq_true (by first | (with_reducible assumption) | assumption)
               have q148 : x4_1 < (l0_3.length : Int) := of_decide_eq_true (by first | (with_reducible assumption) | assumption)
               obtain ⟨ad148, e148, hx148_0, hx148_1⟩ := at_T39 HR0_3.out x4_1 p148 q148
               have hw148_1 := hx148_1
               have hw148_0 := hx148_0
               obtain rfl : ad146 = ad148 := (by injection e148)
               replace hx148_0 := (HB.out.cell (World.block_lt_of_cell? w _ hx148_0)).trans hx148_0
               replace hx148_1 := (HB.out.cell (World.block_lt_of_cell? w _ hx148_1)).trans hx148_1
               replace p148 := eq_true p148
               replace q148 := eq_true q148
               refine start_ (n := 22) (S := fun w' => w'.cell? ⟨gb143, 0, none⟩ = some (.int .i64 a0_0) ∧ w'.cell? ⟨gb143, 1, none⟩ = some (.string a0_1) ∧ w'.cell? ⟨gb143, 2, none⟩ = some (.int .i64 a0_2) ∧ w'.cell? ⟨gb143, 3, none⟩ = some (.slice (some ad146) l0_3.length c0_3) ∧ w'.cell? ⟨gb143, 4, none⟩ = some (.int .i64 a0_4) ∧ w'.cell? ⟨gb143, 5, none⟩ = some (.int .i64 a0_5) ∧ w'.cell? ⟨gb143, 6, none⟩ = some (.int .i64 a0_6) ∧ w'.cell? (ad146.add ((x4_1).toNat * 2)) = some (.int .i64 ((rd_T39 l0_3 x4_1).f0)) ∧ w'.cell? ⟨(ad146.add ((x4_1).toNat * 2)).block, (ad146.add ((x4_1).toNat * 2)).off + 1, none⟩ = some (.int .i64 ((rd_T39 l0_3 x4_1).f1)) ∧ w'.cell? (ad146.add ((x4_1).toNat * 2)) = some (.int .i64 ((rd_T39 l0_3 x4_1).f0)) ∧ w'.cell? ⟨(ad146.add ((x4_1).toNat * 2)).block, (ad146.add ((x4_1).toNat * 2)).off + 1, none⟩ = some (.int .i64 ((rd_T39 l0_3 x4_1).f1))) (ds := []) #[false, false, false, false, false, false, false, false, false, false, false, false, false, false, false, false, false, false, false, false, false, false] (by kernel_rfl) rfl rfl ⟨(blk_cell BK143.out 0).trans rfl, (blk_cell BK143.out 1).trans rfl, (blk_cell BK143.out 2).trans rfl, (blk_cell BK143.out 3).trans rfl, (blk_cell BK143.out 4).trans rfl, (blk_cell BK143.out 5).trans rfl, (blk_cell BK143.out 6).trans rfl, ((HB.out.cell (World.block_lt_of_cell? w _ hw146_0)).trans hw146_0), ((HB.out.cell (World.block_lt_of_cell? w _ hw146_1)).trans hw146_1), ((HB.out.cell (World.block_lt_of_cell? w _ hw148_0)).trans hw148_0), ((HB.out.cell (World.block_lt_of_cell? w _ hw148_1)).trans hw148_1)⟩ (fun hHeld => ?_); refine with_tabW carcanetref25_Line.tab11 carcanetref25_Line.bits11 (fun HT_ HW_ => ?_)
               generalize wr.drew = w35 at BK143 HB hx146_0 hx146_1 hx148_0 hx148_1 hHeld ⊢
               refine pure_ (i := 0) (N := some 45) (v := ?_) (a' := ?_) #[true, false, false, false, false, false, false, false, false, false, false, false, false, false, false, false, false, false, false, false, false, false] rfl rfl (any_of HT_.out (by kernel_rfl)) (fun _ _ _ h => h) (Or.inl ⟨by rfl, ?_⟩) ?_ ?_
               rotate_left
               ·intro w'
                go_simp
                with_reducible rfl
               rotate_left
               ·simp only [Act.put, List.setIfInBounds_toArray, List.set_cons_zero, List.set_cons_succ, i64_w, i32_w]
                rfl
               refine pure_ (i := 1) (N := some 46) (v := ?_) (a' := ?_) #[true, true, false, false, false, false, false, false, false, false, false, false, false, false, false, false, false, false, false, false, false, false] rfl rfl (any_of HT_.out (by kernel_rfl)) (fun _ _ _ h => h) (Or.inl ⟨by rfl, ?_⟩) ?_ ?_
               rotate_left
               ·intro w'
                go_simp
                first | with_reducible rfl | rw [if_neg (by simp only [show ∀ a : Array UInt8, (⟨a⟩ : ByteArray).size = a.size from fun _ => rfl, ByteArray.data_append, Array.size_append, List.size_toArray, List.length_cons, List.length_nil, Nat.reduceAdd, eq_iff_iff, iff_true, iff_false, Nat.not_lt] at *; omega)]
               rotate_left
               ·simp only [Act.put, List.setIfInBounds_toArray, List.set_cons_zero, List.set_cons_succ, i64_w, i32_w]
                rfl
               refine pure_ (i := 2) (N := some 47) (v := ?_) (a' := ?_) #[true, true, true, false, false, false, false, false, false, false, false, false, false, false, false, false, false, false, false, false, false, false] rfl rfl (any_of HT_.out (by kernel_rfl)) (fun _ _ _ h => h) (Or.inl ⟨by rfl, ?_⟩) ?_ ?_
               rotate_left
               ·intro w'
                go_simp
                with_reducible rfl
               rotate_left
               ·simp only [Act.put, List.setIfInBounds_toArray, List.set_cons_zero, List.set_cons_succ, i64_w, i32_w]
                rfl
               refine pure_ (i := 3) (N := some 48) (v := ?_) (a' := ?_) #[true, true, true, true, false, false, false, false, false, false, false, false, false, false, false, false, false, false, false, false, false, false] rfl rfl (any_of HT_.out (by kernel_rfl)) (fun _ _ _ h => h) (Or.inl ⟨by rfl, ?_⟩) ?_ ?_
               rotate_left
               ·intro w'
                go_simp
                with_reducible rfl
               rotate_left
               ·simp only [Act.put, List.setIfInBounds_toArray, List.set_cons_zero, List.set_cons_succ, i64_w, i32_w]
                rfl
               refine pure_ (i := 5) (N := some 50) (v := ?_) (a' := ?_) #[true, true, true, true, false, true, false, false, false, false, false, false, false, false, false, false, false, false, false, false, false, false] rfl rfl (any_of HT_.out (by kernel_rfl)) (fun _ _ _ h => h) (Or.inl ⟨by rfl, ?_⟩) ?_ ?_
               rotate_left
               ·intro w'
                go_simp
                with_reducible rfl
               rotate_left
               ·simp only [Act.put, List.setIfInBounds_toArray, List.set_cons_zero, List.set_cons_succ, i64_w, i32_w]
                rfl
               refine pure_ (i := 12) (N := some 57) (v := ?_) (a' := ?_) #[true, true, true, true, false, true, false, false, false, false, false, false, true, false, false, false, false, false, false, false, false, false] rfl rfl (any_of HT_.out (by kernel_rfl)) (fun _ _ _ h => h) (Or.inl ⟨by rfl, ?_⟩) ?_ ?_
               rotate_left
               ·intro w'
                go_simp
                with_reducible rfl
               rotate_left
               ·simp only [Act.put, List.setIfInBounds_toArray, List.set_cons_zero, List.set_cons_succ, i64_w, i32_w]
                rfl
               refine pure_ (i := 13) (N := some 58) (v := ?_) (a' := ?_) #[true, true, true, true, false, true, false, false, false, false, false, false, true, true, false, false, false, false, false, false, false, false] rfl rfl (any_of HT_.out (by kernel_rfl)) (fun _ _ _ h => h) (Or.inl ⟨by rfl, ?_⟩) ?_ ?_
               rotate_left
               ·intro w'
                go_simp
                with_reducible rfl
               rotate_left
               ·simp only [Act.put, List.setIfInBounds_toArray, List.set_cons_zero, List.set_cons_succ, i64_w, i32_w]
                rfl
               refine pure_ (i := 15) (N := some 60) (v := ?_) (a' := ?_) #[true, true, true, true, false, true, false, false, false, false, false, false, true, true, false, true, false, false, false, false, false, false] rfl rfl (any_of HT_.out (by kernel_rfl)) (fun _ _ _ h => h) (Or.inl ⟨by rfl, ?_⟩) ?_ ?_
               rotate_left
               ·intro w'
                go_simp
                with_reducible rfl
               rotate_left
               ·simp only [Act.put, List.setIfInBounds_toArray, List.set_cons_zero, List.set_cons_succ, i64_w, i32_w]
                rfl
               refine take_ (i := 4) (N := some 49) (v := ?_) (a' := ?_) #[true, true, true, true, true, true, false, false, false, false, false, false, true, true, false, true, false, false, false, false, false, false] rfl rfl (take_ofW HT_.out HW_.out (by kernel_rfl)) (fun _ _ _ h => h) (Or.inl ⟨by rfl, ?_⟩) hHeld ?_ ?_
               rotate_left
               ·rintro w' ⟨s0, s1, s2, s3, s4, s5, s6, s7, s8, s9, s10⟩
                go_simp
                with_reducible rfl
               rotate_left
               ·simp only [Act.put, List.setIfInBounds_toArray, List.set_cons_zero, List.set_cons_succ, i64_w, i32_w]
                rfl
               refine pure_ (i := 6) (N := some 51) (v := ?_) (a' := ?_) #[true, true, true, true, true, true, true, false, false, false, false, false, true, true, false, true, false, false, false, false, false, false] rfl rfl (any_of HT_.out (by kernel_rfl)) (fun _ _ _ h => h) (Or.inl ⟨by rfl, ?_⟩) ?_ ?_
               rotate_left
               ·intro w'
                go_simp
                with_reducible rfl
               rotate_left
               ·simp only [Act.put, List.setIfInBounds_toArray, List.set_cons_zero, List.set_cons_succ, i64_w, i32_w]
                rfl
               refine pure_ (i := 7) (N := some 52) (v := ?_) (a' := ?_) #[true, true, true, true, true, true, true, true, false, false, false, false, true, true, false, true, false, false, false, false, false, false] rfl rfl (any_of HT_.out (by kernel_rfl)) (fun _ _ _ h => h) (Or.inl ⟨by rfl, ?_⟩) ?_ ?_
               rotate_left
               ·intro w'
                go_simp
                with_reducible rfl
               rotate_left
               ·simp only [Act.put, List.setIfInBounds_toArray, List.set_cons_zero, List.set_cons_succ, i64_w, i32_w]
                rfl
               refine take_ (i := 8) (N := some 53) (v := ?_) (a' := ?_) #[true, true, true, true, true, true, true, true, true, false, false, false, true, true, false, true, false, false, false, false, false, false] rfl rfl (take_ofW HT_.out HW_.out (by kernel_rfl)) (fun _ _ _ h => h) (Or.inl ⟨by rfl, ?_⟩) hHeld ?_ ?_
               rotate_left
               ·rintro w' ⟨s0, s1, s2, s3, s4, s5, s6, s7, s8, s9, s10⟩
                go_simp
                with_reducible rfl
               rotate_left
               ·simp only [Act.put, List.setIfInBounds_toArray, List.set_cons_zero, List.set_cons_succ, i64_w, i32_w]
                rfl
               refine take_ (i := 14) (N := some 59) (v := ?_) (a' := ?_) #[true, true, true, true, true, true, true, true, true, false, false, false, true, true, true, true, false, false, false, false, false, false] rfl rfl (take_ofW HT_.out HW_.out (by kernel_rfl)) (fun _ _ _ h => h) (Or.inl ⟨by rfl, ?_⟩) hHeld ?_ ?_
               rotate_left
               ·rintro w' ⟨s0, s1, s2, s3, s4, s5, s6, s7, s8, s9, s10⟩
                go_simp
                with_reducible rfl
               rotate_left
               ·simp only [Act.put, List.setIfInBounds_toArray, List.set_cons_zero, List.set_cons_succ, i64_w, i32_w]
                rfl
               refine pure_ (i := 16) (N := some 61) (v := ?_) (a' := ?_) #[true, true, true, true, true, true, true, true, true, false, false, false, true, true, true, true, true, false, false, false, false, false] rfl rfl (any_of HT_.out (by kernel_rfl)) (fun _ _ _ h => h) (Or.inl ⟨by rfl, ?_⟩) ?_ ?_
               rotate_left
               ·intro w'
                go_simp
                with_reducible rfl
               rotate_left
               ·simp only [Act.put, List.setIfInBounds_toArray, List.set_cons_zero, List.set_cons_succ, i64_w, i32_w]
                rfl
               refine pure_ (i := 17) (N := some 62) (v := ?_) (a' := ?_) #[true, true, true, true, true, true, true, true, true, false, false, false, true, true, true, true, true, true, false, false, false, false] rfl rfl (any_of HT_.out (by kernel_rfl)) (fun _ _ _ h => h) (Or.inl ⟨by rfl, ?_⟩) ?_ ?_
               rotate_left
               ·intro w'
                go_simp
                with_reducible rfl
               rotate_left
               ·simp only [Act.put, List.setIfInBounds_toArray, List.set_cons_zero, List.set_cons_succ, i64_w, i32_w]
                rfl
               refine take_ (i := 18) (N := some 63) (v := ?_) (a' := ?_) #[true, true, true, true, true, true, true, true, true, false, false, false, true, true, true, true, true, true, true, false, false, false] rfl rfl (take_ofW HT_.out HW_.out (by kernel_rfl)) (fun _ _ _ h => h) (Or.inl ⟨by rfl, ?_⟩) hHeld ?_ ?_
               rotate_left
               ·rintro w' ⟨s0, s1, s2, s3, s4, s5, s6, s7, s8, s9, s10⟩
                go_simp
                with_reducible rfl
               rotate_left
               ·simp only [Act.put, List.setIfInBounds_toArray, List.set_cons_zero, List.set_cons_succ, i64_w, i32_w]
                rfl
               refine one_ (i := 9) (N := some 54) #[true, true, true, true, true, true, true, true, true, true, false, false, true, true, true, true, true, true, true, false, false, false] rfl rfl (one_of HT_.out (by kernel_rfl)) (by decide) (fun K hK => ?_)
               refine goes_ Tryd.func13 (by kernel_rfl) rfl #[.int .i64 ((rd_T39 l0_3 x4_1).f0)] (by rfl) rfl rfl (by (try simp only [List.map_toArray, List.map_cons, List.map_nil]); first | done | rfl | (simp only [List.length_drop, List.length_take]; rfl)) ?_
               with_reducible refine (carcanetref25_Number.calls k1 ((rd_T39 l0_3 x4_1).f0) t147 _ A29.out).mono ?_
               rintro e w36 ⟨rfl, hb⟩
               refine ⟨_, rfl, ?_⟩
               have n0_ := Aside0.mk (blk_below (g := gb143) (o := .cells #[.int .i64 a0_0, .string a0_1, .int .i64 a0_2, .slice (some ad146) l0_3.length c0_3, .int .i64 a0_4, .int .i64 a0_5, .int .i64 a0_6] 33 (0, 0)) (by (with_reducible repeat (first | refine blk_drewN ?_ _ | refine blk_drew ?_ | refine blk_alloc ?_ _)); exact BK143.out) hb)
               have n1_ := Aside0.mk (below_step (by repeat (first | (with_reducible first | exact HB.out | apply below_alloc | apply pw_below_drewN | apply below_drew1 | refine below_set ?_ GE143.out) | exact HB.out)) hb)
               clear BK143
               clear HB
               have BK143 := n0_
               have HB := n1_
               clear n0_ n1_
               (try clear hb)
               (try clear hb2)
               (try clear hk)
               (try clear hi)
               refine hK.out _ _ ⟨(blk_cell BK143.out 0).trans rfl, (blk_cell BK143.out 1).trans rfl, (blk_cell BK143.out 2).trans rfl, (blk_cell BK143.out 3).trans rfl, (blk_cell BK143.out 4).trans rfl, (blk_cell BK143.out 5).trans rfl, (blk_cell BK143.out 6).trans rfl, ((HB.out.cell (World.block_lt_of_cell? w _ hw146_0)).trans hw146_0), ((HB.out.cell (World.block_lt_of_cell? w _ hw146_1)).trans hw146_1), ((HB.out.cell (World.block_lt_of_cell? w _ hw148_0)).trans hw148_0), ((HB.out.cell (World.block_lt_of_cell? w _ hw148_1)).trans hw148_1)⟩ (fun hHeld => ?_)
               clear hK K
               refine norm_ (a' := ?_) ?_ ?_
               rotate_left
               ·show Act.put _ (some 54) _ = _
                simp only [Act.put, List.setIfInBounds_toArray, List.set_cons_zero, List.set_cons_succ, i64_w, i32_w]
                rfl
               refine pure_ (i := 10) (N := some 55) (v := ?_) (a' := ?_) #[true, true, true, true, true, true, true, true, true, true, true, false, true, true, true, true, true, true, true, false, false, false] rfl rfl (any_of HT_.out (by kernel_rfl)) (fun _ _ _ h => h) (Or.inl ⟨by rfl, ?_⟩) ?_ ?_
               rotate_left
               ·intro w'
                go_simp
                first | with_reducible rfl | rw [if_neg (by simp only [show ∀ a : Array UInt8, (⟨a⟩ : ByteArray).size = a.size from fun _ => rfl, ByteArray.data_append, Array.size_append, List.size_toArray, List.length_cons, List.length_nil, Nat.reduceAdd, eq_iff_iff, iff_true, iff_false, Nat.not_lt] at *; omega)]
               rotate_left
               ·simp only [Act.put, List.setIfInBounds_toArray, List.set_cons_zero, List.set_cons_succ, i64_w, i32_w]
                rfl
               refine pure_ (i := 11) (N := some 56) (v := ?_) (a' := ?_) #[true, true, true, true, true, true, true, true, true, true, true, true, true, true, true, true, true, true, true, false, false, false] rfl rfl (any_of HT_.out (by kernel_rfl)) (fun _ _ _ h => h) (Or.inl ⟨by rfl, ?_⟩) ?_ ?_
               rotate_left
               ·intro w'
                go_simp
                first | with_reducible rfl | rw [if_neg (by simp only [show ∀ a : Array UInt8, (⟨a⟩ : ByteArray).size = a.size from fun _ => rfl, ByteArray.data_append, Array.size_append, List.size_toArray, List.length_cons, List.length_nil, Nat.reduceAdd, eq_iff_iff, iff_true, iff_false, Nat.not_lt] at *; omega)]
               rotate_left
               ·simp only [Act.put, List.setIfInBounds_toArray, List.set_cons_zero, List.set_cons_succ, i64_w, i32_w]
                rfl
               refine one_ (i := 19) (N := some 64) #[true, true, true, true, true, true, true, true, true, true, true, true, true, true, true, true, true, true, true, true, false, false] rfl rfl (one_of HT_.out (by kernel_rfl)) (by decide) (fun K hK => ?_)
               refine goes_ Tryd.func13 (by kernel_rfl) rfl #[.int .i64 ((rd_T39 l0_3 x4_1).f1)] (by rfl) rfl rfl (by (try simp only [List.map_toArray, List.map_cons, List.map_nil]); first | done | rfl | (simp only [List.length_drop, List.length_take]; rfl)) ?_
               with_reducible refine (carcanetref25_Number.calls k1 ((rd_T39 l0_3 x4_1).f1) t149 _ A32.out).mono ?_
               rintro e w37 ⟨rfl, hb⟩
               refine ⟨_, rfl, ?_⟩
               have n0_ := Aside0.mk (blk_below (g := gb143) (o := .cells #[.int .i64 a0_0, .string a0_1, .int .i64 a0_2, .slice (some ad146) l0_3.length c0_3, .int .i64 a0_4, .int .i64 a0_5, .int .i64 a0_6] 33 (0, 0)) (by (with_reducible repeat (first | refine blk_drewN ?_ _ | refine blk_drew ?_ | refine blk_alloc ?_ _)); exact BK143.out) hb)
               have n1_ := Aside0.mk (below_step (by repeat (first | (with_reducible first | exact HB.out | apply below_alloc | apply pw_below_drewN | apply below_drew1 | refine below_set ?_ GE143.out) | exact HB.out)) hb)
               clear BK143
               clear HB
               have BK143 := n0_
               have HB := n1_
               clear n0_ n1_
               (try clear hb)
               (try clear hb2)
               (try clear hk)
               (try clear hi)
               refine hK.out _ _ ⟨(blk_cell BK143.out 0).trans rfl, (blk_cell BK143.out 1).trans rfl, (blk_cell BK143.out 2).trans rfl, (blk_cell BK143.out 3).trans rfl, (blk_cell BK143.out 4).trans rfl, (blk_cell BK143.out 5).trans rfl, (blk_cell BK143.out 6).trans rfl, ((HB.out.cell (World.block_lt_of_cell? w _ hw146_0)).trans hw146_0), ((HB.out.cell (World.block_lt_of_cell? w _ hw146_1)).trans hw146_1), ((HB.out.cell (World.block_lt_of_cell? w _ hw148_0)).trans hw148_0), ((HB.out.cell (World.block_lt_of_cell? w _ hw148_1)).trans hw148_1)⟩ (fun hHeld => ?_)
               clear hK K
               refine norm_ (a' := ?_) ?_ ?_
               rotate_left
               ·show Act.put _ (some 64) _ = _
                simp only [Act.put, List.setIfInBounds_toArray, List.set_cons_zero, List.set_cons_succ, i64_w, i32_w]
                rfl
               refine pure_ (i := 20) (N := some 65) (v := ?_) (a' := ?_) #[true, true, true, true, true, true, true, true, true, true, true, true, true, true, true, true, true, true, true, true, true, false] rfl rfl (any_of HT_.out (by kernel_rfl)) (fun _ _ _ h => h) (Or.inl ⟨by rfl, ?_⟩) ?_ ?_
               rotate_left
               ·intro w'
                go_simp
                first | with_reducible rfl | rw [if_neg (by simp only [show ∀ a : Array UInt8, (⟨a⟩ : ByteArray).size = a.size from fun _ => rfl, ByteArray.data_append, Array.size_append, List.size_toArray, List.length_cons, List.length_nil, Nat.reduceAdd, eq_iff_iff, iff_true, iff_false, Nat.not_lt] at *; omega)]
               rotate_left
               ·simp only [Act.put, List.setIfInBounds_toArray, List.set_cons_zero, List.set_cons_succ, i64_w, i32_w]
                rfl
               refine pure_ (i := 21) (N := some 3) (v := ?_) (a' := ?_) #[true, true, true, true, true, true, true, true, true, true, true, true, true, true, true, true, true, true, true, true, true, true] rfl rfl (any_of HT_.out (by kernel_rfl)) (fun _ _ _ h => h) (Or.inl ⟨by rfl, ?_⟩) ?_ ?_
               rotate_left
               ·intro w'
                go_simp
                with_reducible rfl
               rotate_left
               ·simp only [Act.put, List.setIfInBounds_toArray, List.set_cons_zero, List.set_cons_succ, i64_w, i32_w]
                rfl
               refine done_ (done_of HT_.out (by kernel_rfl)) ?_
               try go_wp2
               go_roundg k1
               case measure => have := HK1.out; omega
               case rel => exact ⟨((((x3_1 ++ (⟨#[32]⟩ : ByteArray)) ++ t147) ++ (⟨#[45]⟩ : ByteArray)) ++ t149), (wrap64 (x4_1 + 1)), (by first | rfl | (simp; done) | (simp [*]; done)), (by first | rfl | (simp; done) | (simp [*]; done)), H', ⟨by have := HK1.out; omega⟩, ⟨by (with_reducible repeat (first | refine blk_drewN ?_ _ | refine blk_drew ?_ | refine blk_alloc ?_ _)); exact BK143.out⟩, ⟨by repeat (first | (with_reducible first | exact HB.out | apply below_alloc | apply pw_below_drewN | apply below_drew1 | refine below_set ?_ GE143.out) | exact HB.out)⟩⟩
              ·rw [if_neg c33] at H
               exact absurd H (by simp)
             ·rw [if_neg c31] at H
              exact absurd H (by simp)
            ·rw [if_neg c30] at H
             exact absurd H (by simp)
           ·rw [if_neg c28] at H
            exact absurd H (by simp)
          ·rw [if_neg c27] at H
           exact absurd H (by simp)
         ·rw [if_neg c26] at H
          have c26b0 : decide (x4_1 < (l0_3.length : Int)) = false := decide_eq_false c26
          clear c26
          obtain rfl := Option.some.inj H
          have hcz38_0 : wr.cell? ⟨gb143, 0, none⟩ = some (.int .i64 a0_0) := (blk_cell BK143.out 0).trans rfl
          have hcz38_1 : wr.cell? ⟨gb143, 1, none⟩ = some (.string a0_1) := (blk_cell BK143.out 1).trans rfl
          have hcz38_2 : wr.cell? ⟨gb143, 2, none⟩ = some (.int .i64 a0_2) := (blk_cell BK143.out 2).trans rfl
          have hcz38_3 : wr.cell? ⟨gb143, 3, none⟩ = some (.slice A0_3 l0_3.length c0_3) := (blk_cell BK143.out 3).trans rfl
          have hcz38_4 : wr.cell? ⟨gb143, 4, none⟩ = some (.int .i64 a0_4) := (blk_cell BK143.out 4).trans rfl
          have hcz38_5 : wr.cell? ⟨gb143, 5, none⟩ = some (.int .i64 a0_5) := (blk_cell BK143.out 5).trans rfl
          have hcz38_6 : wr.cell? ⟨gb143, 6, none⟩ = some (.int .i64 a0_6) := (blk_cell BK143.out 6).trans rfl
          have hfz38_0 := blk_frozen BK143.out 0
          have hfz38_1 := blk_frozen BK143.out 1
          have hfz38_2 := blk_frozen BK143.out 2
          have hfz38_3 := blk_frozen BK143.out 3
          have hfz38_4 := blk_frozen BK143.out 4
          have hfz38_5 := blk_frozen BK143.out 5
          have hfz38_6 := blk_frozen BK143.out 6
          go_wp2
          go_ret
          exact ⟨by first | rfl | (simp [errW_none, errW_some] <;> rfl) | (simp [*, errW_none, errW_some] <;> rfl), by repeat (first | (with_reducible first | exact HB.out | apply below_alloc | apply pw_below_drewN | apply below_drew1 | refine below_set ?_ GE143.out) | exact HB.out)⟩
      ·rw [if_neg c21] at H
       exact absurd H (by simp)
     ·rw [if_neg c19] at H
      exact absurd H (by simp)
    ·rw [if_neg c18] at H
     exact absurd H (by simp)

end Go.Proofs.YtmdmdbiinngneaaDoor.Q
