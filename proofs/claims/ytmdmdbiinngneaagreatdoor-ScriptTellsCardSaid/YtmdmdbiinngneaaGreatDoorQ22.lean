-- Laid by prx.py (ours), out of the translation's print. Not trusted: Lean checks it.
import Derived.Test.YtmdmdbiinngneaaGreatDoorQ0
import Derived.Test.YtmdmdbiinngneaaGreatDoorQ1
import Derived.Test.YtmdmdbiinngneaaGreatDoorQ15
import Derived.Test.YtmdmdbiinngneaaGreatDoorQ21
namespace Go.Proofs.YtmdmdbiinngneaaGreatDoor.Q
open Go.RowKit Go.Proofs.YtmdmdbiinngneaaGreatDoorW.PrintWords Go.Proofs.YtmdmdbiinngneaaGreatDoorW.PrintLast Go.Proofs.YtmdmdbiinngneaaGreatDoorW.PrintMore
attribute [local go_sem] max2_int min2_int max_two min_two max_three min_three max_four min_four   -- for this text's walks alone
set_option linter.unusedVariables false
set_option linter.unusedSimpArgs false

attribute [local go_sem high] eqA64
/-! ### carcanetref25_Parse: function 6 -/
mutual
def carcanetref25_Parse.l0 : Nat → ByteArray → List (S50) → Int → Option ((List (S50)) × Int × Int)
 | 0, _, _, _ => none
 | k + 1, x0, x5, x6 => if x6 < (x0.size : Int) then (carcanetref25_Parse.l1 k x0 x5 x6 x6) else (some (x5, 0, 0))
def carcanetref25_Parse.j2 : Nat → ByteArray → List (S50) → Int → Int → Option ((List (S50)) × Int × Int)
 | 0, _, _, _, _ => none
 | k + 1, x0, x5, x6, x7 => if 0 ≤ x6 then (if x6 ≤ x7 then (if x7 ≤ (x0.size : Int) then ((carcanetref02_Lex.f k (x0.extract (x6 : Int).toNat (x7 : Int).toNat)).bind fun bt209 => (if bt209.2.2 = 0 then (if (bt209.1.length : Int) > 0 then (carcanetref25_Parse.j3 k x0 x5 x6 x7 bt209.1 (decide ((x5.length : Int) ≥ 1000))) else (carcanetref25_Parse.j3 k x0 x5 x6 x7 bt209.1 false)) else (some (x5, wrap64 (x6 + bt209.2.1), bt209.2.2)))) else (none)) else (none)) else (none)
def carcanetref25_Parse.j3 : Nat → ByteArray → List (S50) → Int → Int → List (S49) → Bool → Option ((List (S50)) × Int × Int)
 | 0, _, _, _, _, _, _ => none
 | k + 1, x0, x5, x6, x7, x8, x57 => if x57 = true then (if 0 < (x8.length : Int) then (some (x5, wrap64 (x6 + ((rd_T49 x8 0).f1)), 5)) else (none)) else (if (x8.length : Int) > 0 then ((carcanetref25_line.f k x8 (wrap64 (x7 - x6))).bind fun bt215 => (if bt215.2.2.2.2.2.2.2.2 = 0 then (if x5.length < 1759218604441 then (carcanetref25_Parse.l0 k x0 (x5 ++ [(⟨bt215.1, bt215.2.1, (⟨bt215.2.2.1, bt215.2.2.2.1⟩ : S34), bt215.2.2.2.2.1, wrap64 (bt215.2.2.2.2.2.1 + x6), wrap64 (bt215.2.2.2.2.2.2.1 + x6)⟩ : S50)]) (wrap64 (x7 + 1))) else (none)) else (some (x5, wrap64 (x6 + bt215.2.2.2.2.2.2.2.1), bt215.2.2.2.2.2.2.2.2)))) else (carcanetref25_Parse.l0 k x0 x5 (wrap64 (x7 + 1))))
def carcanetref25_Parse.l1 : Nat → ByteArray → List (S50) → Int → Int → Option ((List (S50)) × Int × Int)
 | 0, _, _, _, _ => none
 | k + 1, x0, x5, x6, x7 => if x7 < (x0.size : Int) then (if 0 ≤ x7 then (if (bt x0 x7) = 10 then (carcanetref25_Parse.j2 k x0 x5 x6 x7) else (carcanetref25_Parse.l1 k x0 x5 x6 (wrap64 (x7 + 1)))) else (none)) else (carcanetref25_Parse.j2 k x0 x5 x6 x7)
end
def carcanetref25_Parse.f (k : Nat) (a0 : ByteArray) : Option ((List (S50)) × Int × Int) := if (a0.size : Int) > 1048576 then (some (([] : List (S50)), 0, 5)) else (carcanetref25_Parse.l0 k a0 ([] : List (S50)) 0)
theorem carcanetref25_Parse.mono_l : ∀ k, (∀ y0 y1 y2, LeO (carcanetref25_Parse.l0 k y0 y1 y2) (carcanetref25_Parse.l0 (k + 1) y0 y1 y2)) ∧ (∀ y0 y1 y2 y3, LeO (carcanetref25_Parse.j2 k y0 y1 y2 y3) (carcanetref25_Parse.j2 (k + 1) y0 y1 y2 y3)) ∧ (∀ y0 y1 y2 y3 y4 y5, LeO (carcanetref25_Parse.j3 k y0 y1 y2 y3 y4 y5) (carcanetref25_Parse.j3 (k + 1) y0 y1 y2 y3 y4 y5)) ∧ (∀ y0 y1 y2 y3, LeO (carcanetref25_Parse.l1 k y0 y1 y2 y3) (carcanetref25_Parse.l1 (k + 1) y0 y1 y2 y3))
 | 0 => ⟨fun _ _ _ r h => by simp [carcanetref25_Parse.l0] at h, fun _ _ _ _ r h => by simp [carcanetref25_Parse.j2] at h, fun _ _ _ _ _ _ r h => by simp [carcanetref25_Parse.j3] at h, fun _ _ _ _ r h => by simp [carcanetref25_Parse.l1] at h⟩
 | k + 1 => by
  obtain ⟨ih0, ih1, ih2, ih3⟩ := carcanetref25_Parse.mono_l k
  refine ⟨?_, ?_, ?_, ?_⟩
  ·intro y0 y1 y2
   unfold carcanetref25_Parse.l0
   repeat' first
   | (with_reducible exact ih0 _ _ _)
   | (with_reducible exact ih1 _ _ _ _)
   | (with_reducible exact ih2 _ _ _ _ _ _)
   | (with_reducible exact ih3 _ _ _ _)
   | (with_reducible exact carcanetref02_Lex.mono _ _)
   | (with_reducible exact carcanetref25_line.mono _ _ _)
   | (with_reducible exact LeO.refl _)
   | (with_reducible exact LeO.none _)
   | (with_reducible refine LeO.ite ?_ ?_)
   | (with_reducible refine LeO.bind ?_ (fun _ => ?_))
   | exact ih0 _ _ _
   | exact ih1 _ _ _ _
   | exact ih2 _ _ _ _ _ _
   | exact ih3 _ _ _ _
   | exact carcanetref02_Lex.mono _ _
   | exact carcanetref25_line.mono _ _ _
   | exact LeO.none _
   | refine LeO.ite ?_ ?_
   | refine LeO.bind ?_ (fun _ => ?_)
  ·intro y0 y1 y2 y3
   unfold carcanetref25_Parse.j2
   repeat' first
   | (with_reducible exact ih0 _ _ _)
   | (with_reducible exact ih1 _ _ _ _)
   | (with_reducible exact ih2 _ _ _ _ _ _)
   | (with_reducible exact ih3 _ _ _ _)
   | (with_reducible exact carcanetref02_Lex.mono _ _)
   | (with_reducible exact carcanetref25_line.mono _ _ _)
   | (with_reducible exact LeO.refl _)
   | (with_reducible exact LeO.none _)
   | (with_reducible refine LeO.ite ?_ ?_)
   | (with_reducible refine LeO.bind ?_ (fun _ => ?_))
   | exact ih0 _ _ _
   | exact ih1 _ _ _ _
   | exact ih2 _ _ _ _ _ _
   | exact ih3 _ _ _ _
   | exact carcanetref02_Lex.mono _ _
   | exact carcanetref25_line.mono _ _ _
   | exact LeO.none _
   | refine LeO.ite ?_ ?_
   | refine LeO.bind ?_ (fun _ => ?_)
  ·intro y0 y1 y2 y3 y4 y5
   unfold carcanetref25_Parse.j3
   repeat' first
   | (with_reducible exact ih0 _ _ _)
   | (with_reducible exact ih1 _ _ _ _)
   | (with_reducible exact ih2 _ _ _ _ _ _)
   | (with_reducible exact ih3 _ _ _ _)
   | (with_reducible exact carcanetref02_Lex.mono _ _)
   | (with_reducible exact carcanetref25_line.mono _ _ _)
   | (with_reducible exact LeO.refl _)
   | (with_reducible exact LeO.none _)
   | (with_reducible refine LeO.ite ?_ ?_)
   | (with_reducible refine LeO.bind ?_ (fun _ => ?_))
   | exact ih0 _ _ _
   | exact ih1 _ _ _ _
   | exact ih2 _ _ _ _ _ _
   | exact ih3 _ _ _ _
   | exact carcanetref02_Lex.mono _ _
   | exact carcanetref25_line.mono _ _ _
   | exact LeO.none _
   | refine LeO.ite ?_ ?_
   | refine LeO.bind ?_ (fun _ => ?_)
  ·intro y0 y1 y2 y3
   unfold carcanetref25_Parse.l1
   repeat' first
   | (with_reducible exact ih0 _ _ _)
   | (with_reducible exact ih1 _ _ _ _)
   | (with_reducible exact ih2 _ _ _ _ _ _)
   | (with_reducible exact ih3 _ _ _ _)
   | (with_reducible exact carcanetref02_Lex.mono _ _)
   | (with_reducible exact carcanetref25_line.mono _ _ _)
   | (with_reducible exact LeO.refl _)
   | (with_reducible exact LeO.none _)
   | (with_reducible refine LeO.ite ?_ ?_)
   | (with_reducible refine LeO.bind ?_ (fun _ => ?_))
   | exact ih0 _ _ _
   | exact ih1 _ _ _ _
   | exact ih2 _ _ _ _ _ _
   | exact ih3 _ _ _ _
   | exact carcanetref02_Lex.mono _ _
   | exact carcanetref25_line.mono _ _ _
   | exact LeO.none _
   | refine LeO.ite ?_ ?_
   | refine LeO.bind ?_ (fun _ => ?_)
theorem carcanetref25_Parse.mono : ∀ a0 k, LeO (carcanetref25_Parse.f k a0) (carcanetref25_Parse.f (k + 1) a0) := by
 intro a0 k
 obtain ⟨ih0, ih1, ih2, ih3⟩ := carcanetref25_Parse.mono_l k
 unfold carcanetref25_Parse.f
 repeat' first
   | (with_reducible exact ih0 _ _ _)
   | (with_reducible exact ih1 _ _ _ _)
   | (with_reducible exact ih2 _ _ _ _ _ _)
   | (with_reducible exact ih3 _ _ _ _)
   | (with_reducible exact carcanetref02_Lex.mono _ _)
   | (with_reducible exact carcanetref25_line.mono _ _ _)
   | (with_reducible exact LeO.refl _)
   | (with_reducible exact LeO.none _)
   | (with_reducible refine LeO.ite ?_ ?_)
   | (with_reducible refine LeO.bind ?_ (fun _ => ?_))
   | exact ih0 _ _ _
   | exact ih1 _ _ _ _
   | exact ih2 _ _ _ _ _ _
   | exact ih3 _ _ _ _
   | exact carcanetref02_Lex.mono _ _
   | exact carcanetref25_line.mono _ _ _
   | exact LeO.none _
   | refine LeO.ite ?_ ?_
   | refine LeO.bind ?_ (fun _ => ?_)
set_option maxHeartbeats 8000000 in
set_option maxRecDepth 100000 in
theorem carcanetref25_Parse.calls (k : Nat) (a0 : ByteArray) (r1 : List (S50)) (r2 : Int) (r3 : Int) (w : World) (h : carcanetref25_Parse.f k a0 = some (r1, r2, r3)) :
  Calls Tryz.prog 6 #[.string a0] w fun e w' => ∃ v0_ : Value, e = .returned (.tuple #[v0_, .int .i64 r2, .int .i64 r3]) ∧ Kd.S k50 50 w' w.heap.size (fun _ => True) v0_ r1 ∧ Below w.heap.size w w' := by
 have hu50 := Tryz.underlying50
 have HB := Aside0.mk (Below.refl w.heap.size w)
 have H : (if (a0.size : Int) > 1048576 then (some (([] : List (S50)), 0, 5)) else (carcanetref25_Parse.l0 k a0 ([] : List (S50)) 0)) = some (r1, r2, r3) := h
 clear h
 by_cases c2 : (a0.size : Int) > 1048576
 ·rw [if_pos c2] at H
  have c2b0 : decide (1048576 < (a0.size : Int)) = true := decide_eq_true c2
  have c2b1 : decide (1048576 < a0.size) = true := decide_eq_true (by omega)
  clear c2
  simp only [Option.some.injEq, Prod.mk.injEq] at H
  obtain ⟨rfl, rfl, rfl⟩ := H
  go_enter Tryz.func6, Tryz.ntmps6
  go_wp2
  repeat (go_quiet (fail); try go_wp2)
  go_ret3
  exact ⟨_, by first | rfl | (simp [errW_none, errW_some] <;> rfl) | (simp [*, errW_none, errW_some] <;> rfl), by first | exact Kd.S_nil _ _ _ _ _ | exact Kd.N_nil _ _ _ _ _ | exact Kd.V_nil _ _ _ _ _ | exact Kd.Q_nil _ _ _ _ _ | exact Kd.R_nil _ _ _ _ _, by repeat (first | (with_reducible first | exact HB.out | apply below_alloc | apply pw_below_drewN | apply below_drew1) | exact HB.out)⟩
 ·rw [if_neg c2] at H
  have c2b0 : decide (1048576 < (a0.size : Int)) = false := decide_eq_false c2
  have c2b1 : decide (1048576 < a0.size) = false := decide_eq_false (by omega)
  clear c2
  have H' := Aside0.mk H
  clear H
  go_enter Tryz.func6, Tryz.ntmps6
  go_wp2
  repeat (go_quiet (fail); try go_wp2)
  go_loopg [5, 6] k (fun kq v5 v6 w' => ∃ (x5_1 : List (S50)) (x6_1 : Int), v6 = .int .i64 x6_1 ∧ Aside0 (carcanetref25_Parse.l0 kq a0 x5_1 x6_1 = some (r1, r2, r3)) ∧ Aside0 (kq ≤ k) ∧ Aside0 (Kd.S k50 50 w' w.heap.size (fun _ => True) v5 x5_1) ∧ Aside0 (Below w.heap.size w w'))
  case atStart => exact ⟨(([] : List (S50))), (0), (by first | rfl | (simp; done) | (simp [*]; done)), H', ⟨Nat.le_refl _⟩, ⟨by first | exact Kd.S_nil _ _ _ _ _ | exact Kd.N_nil _ _ _ _ _ | exact Kd.V_nil _ _ _ _ _ | exact Kd.Q_nil _ _ _ _ _ | exact Kd.R_nil _ _ _ _ _⟩, ⟨by repeat (first | (with_reducible first | exact HB.out | apply below_alloc | apply pw_below_drewN | apply below_drew1) | exact HB.out)⟩⟩
  case round =>
   clear H'
   try clear c2
   try clear c2b0
   try clear c2b1
   try clear p2
   obtain ⟨x5_1, x6_1, rfl, HA, HK1, HO_5, HB⟩ := hrel
   cases gk with
   | zero => exact absurd HA.out (by simp [carcanetref25_Parse.l0])
   | succ k1 =>
    have H := HA.out
    clear HA
    simp only [carcanetref25_Parse.l0] at H
    by_cases c3 : x6_1 < (a0.size : Int)
    ·rw [if_pos c3] at H
     have c3b0 : decide (x6_1 < (a0.size : Int)) = true := decide_eq_true c3
     clear c3
     have HC4 := Aside0.mk H
     clear H
     go_upto_block 2 with (fail)
     repeat (go_quiet (fail); go_upto_block 2 with (fail))
     go_cut [7] (fun v7 wc => ∃ (kq : Nat) (x7_3 : Int), v7 = .int .i64 x7_3 ∧ Aside0 (carcanetref25_Parse.j2 kq a0 x5_1 x6_1 x7_3 = some (r1, r2, r3)) ∧ Aside0 (kq ≤ k1) ∧ Aside0 (Kd.S k50 50 wc w.heap.size (fun _ => True) u5 x5_1) ∧ Aside0 (Below w.heap.size w wc))
     case first =>
      have H := HC4.out
      clear HC4
      have H' := Aside0.mk H
      clear H
      go_wp2
      repeat (go_quiet (fail); try go_wp2)
      go_loopg [7] k1 (fun kq v7 w' => ∃ (x7_2 : Int), v7 = .int .i64 x7_2 ∧ Aside0 (carcanetref25_Parse.l1 kq a0 x5_1 x6_1 x7_2 = some (r1, r2, r3)) ∧ Aside0 (kq ≤ k1) ∧ Aside0 (Kd.S k50 50 w' w.heap.size (fun _ => True) u5 x5_1) ∧ Aside0 (Below w.heap.size w w'))
      case atStart => exact ⟨(x6_1), (by first | rfl | (simp; done) | (simp [*]; done)), H', ⟨Nat.le_refl _⟩, ⟨by (with_reducible repeat (first | apply Kd.S_alloc | apply Kd.S_drewN | apply Kd.S_drew)); exact HO_5.out⟩, ⟨by repeat (first | (with_reducible first | exact HB.out | apply below_alloc | apply pw_below_drewN | apply below_drew1) | exact HB.out)⟩⟩
      case round =>
       clear H'
       try clear c2
       try clear c2b0
       try clear c2b1
       try clear p2
       try clear c3
       try clear c3b0
       try clear p2
       obtain ⟨x7_2, rfl, HA, HK2, HO_5, HB⟩ := hrel
       cases gk with
       | zero => exact absurd HA.out (by simp [carcanetref25_Parse.l1])
       | succ k2 =>
        have H := HA.out
        clear HA
        simp only [carcanetref25_Parse.l1] at H
        by_cases c5 : x7_2 < (a0.size : Int)
        ·rw [if_pos c5] at H
         have c5b0 : decide (x7_2 < (a0.size : Int)) = true := decide_eq_true c5
         clear c5
         (first | rw [c5b0] | (simp only [i64_w, i32_w]; rw [c5b0]) | skip)
         by_cases c6 : 0 ≤ x7_2
         ·rw [if_pos c6] at H
          have c6b0 : decide (0 ≤ x7_2) = true := decide_eq_true c6
          clear c6
          by_cases c8 : (bt a0 x7_2) = 10
          ·rw [if_pos c8] at H
           have c8b0 : ((bt a0 x7_2) == 10) = true := beq_iff_eq.mpr c8
           have c8b1 : ((bt a0 x7_2) != 10) = false := bne_eq_false_iff_eq.mpr c8
           clear c8
           have H' := Aside0.mk H
           clear H
           have p7 : 0 ≤ (x7_2 : Int) := of_decide_eq_true (by first | (with_reducible assumption) | assumption)
           have q7 : x7_2 < (a0.size : Int) := of_decide_eq_true (by first | (with_reducible assumption) | assumption)
           have hx7 := bt_at a0 x7_2
           replace p7 := eq_true p7
           replace q7 := eq_true q7
           go_wp2
           repeat (go_quiet (fail); try go_wp2)
           go_meet
           case rel => exact ⟨_, (x7_2), (by first | rfl | (simp; done) | (simp [*]; done)), H', ⟨by have := HK1.out; have := HK2.out; first | omega | exact Nat.le_refl _⟩, ⟨by (with_reducible repeat (first | apply Kd.S_alloc | apply Kd.S_drewN | apply Kd.S_drew)); exact HO_5.out⟩, ⟨by repeat (first | (with_reducible first | exact HB.out | apply below_alloc | apply pw_below_drewN | apply below_drew1) | exact HB.out)⟩⟩
          ·rw [if_neg c8] at H
           have c8b0 : ((bt a0 x7_2) == 10) = false := beq_eq_false_iff_ne.mpr c8
           have c8b1 : ((bt a0 x7_2) != 10) = true := bne_iff_ne.mpr c8
           have H' := Aside0.mk H
           clear H
           have p7 : 0 ≤ (x7_2 : Int) := of_decide_eq_true (by first | (with_reducible assumption) | assumption)
           have q7 : x7_2 < (a0.size : Int) := of_decide_eq_true (by first | (with_reducible assumption) | assumption)
           have hx7 := bt_at a0 x7_2
           replace p7 := eq_true p7
           replace q7 := eq_true q7
           go_wp2
           repeat (go_quiet (fail); try go_wp2)
           go_roundg k2
           case measure => have := HK1.out; have := HK2.out; omega
           case rel => exact ⟨(wrap64 (x7_2 + 1)), (by first | rfl | (simp; done) | (simp [*]; done)), H', ⟨by have := HK1.out; have := HK2.out; omega⟩, ⟨by (with_reducible repeat (first | apply Kd.S_alloc | apply Kd.S_drewN | apply Kd.S_drew)); exact HO_5.out⟩, ⟨by repeat (first | (with_reducible first | exact HB.out | apply below_alloc | apply pw_below_drewN | apply below_drew1) | exact HB.out)⟩⟩
         ·rw [if_neg c6] at H
          exact absurd H (by simp)
        ·rw [if_neg c5] at H
         have c5b0 : decide (x7_2 < (a0.size : Int)) = false := decide_eq_false c5
         clear c5
         (first | rw [c5b0] | (simp only [i64_w, i32_w]; rw [c5b0]) | skip)
         have H' := Aside0.mk H
         clear H
         go_wp2
         repeat (go_quiet (fail); try go_wp2)
         go_meet
         case rel => exact ⟨_, (x7_2), (by first | rfl | (simp; done) | (simp [*]; done)), H', ⟨by have := HK1.out; have := HK2.out; first | omega | exact Nat.le_refl _⟩, ⟨by (with_reducible repeat (first | apply Kd.S_alloc | apply Kd.S_drewN | apply Kd.S_drew)); exact HO_5.out⟩, ⟨by repeat (first | (with_reducible first | exact HB.out | apply below_alloc | apply pw_below_drewN | apply below_drew1) | exact HB.out)⟩⟩
     case rest =>
      clear HC4
      try clear c2
      try clear c2b0
      try clear c2b1
      try clear p2
      try clear c3
      try clear c3b0
      try clear c5
      try clear c5b0
      try clear c6
      try clear c6b0
      try clear p6
      try clear p7
      try clear q7
      try clear hx7
      try clear c8
      try clear c8b0
      try clear c8b1
      try clear p2
      try clear p7
      try clear q7
      obtain ⟨kq, x7_3, rfl, HA, HJ3, HO_5, HB⟩ := hcut
      cases kq with
      | zero => exact absurd HA.out (by simp [carcanetref25_Parse.j2])
      | succ kj3 =>
       have H := HA.out
       clear HA
       simp only [carcanetref25_Parse.j2] at H
       by_cases c9 : 0 ≤ x6_1
       ·rw [if_pos c9] at H
        have c9b0 := eq_true c9
        have c9b1 : decide (0 ≤ x6_1) = true := decide_eq_true c9
        clear c9
        by_cases c10 : x6_1 ≤ x7_3
        ·rw [if_pos c10] at H
         have c10b0 := eq_true c10
         have c10b1 : decide (x6_1 ≤ x7_3) = true := decide_eq_true c10
         clear c10
         by_cases c11 : x7_3 ≤ (a0.size : Int)
         ·rw [if_pos c11] at H
          have c11b0 := eq_true c11
          have c11b1 : decide (x7_3 ≤ (a0.size : Int)) = true := decide_eq_true c11
          clear c11
          replace H := Option.bind_eq_some_iff.mp H
          obtain ⟨⟨t209, t210, t211⟩, A120, H⟩ := H
          replace H : (if t211 = 0 then (if (t209.length : Int) > 0 then (carcanetref25_Parse.j3 kj3 a0 x5_1 x6_1 x7_3 t209 (decide ((x5_1.length : Int) ≥ 1000))) else (carcanetref25_Parse.j3 kj3 a0 x5_1 x6_1 x7_3 t209 false)) else (some (x5_1, wrap64 (x6_1 + t210), t211))) = some (r1, r2, r3) := H
          have A12 := Aside0.mk A120
          clear A120
          by_cases c13 : t211 = 0
          ·rw [if_pos c13] at H
           have c13b0 : (t211 == 0) = true := beq_iff_eq.mpr c13
           have c13b1 : (t211 != 0) = false := bne_eq_false_iff_eq.mpr c13
           clear c13
           have HC14 := Aside0.mk H
           clear H
           go_upto_region 12 with (first | (go_at_call 12; (with_reducible refine (carcanetref02_Lex.calls kj3 (a0.extract (x6_1 : Int).toNat (x7_3 : Int).toNat) t209 t210 t211 _ A12.out).mono ?_); rintro e w15 ⟨v212, rfl, ho0, hb⟩; have n0_ := Aside0.mk (Kd.S_below (by (with_reducible repeat (first | apply Kd.S_alloc | apply Kd.S_drewN | apply Kd.S_drew)); exact HO_5.out) hb); have n1_ := Aside0.mk (Kd.R_lower ho0 (below_size (by repeat (first | (with_reducible first | exact HB.out | apply below_alloc | apply pw_below_drewN | apply below_drew1) | exact HB.out)))); have n2_ := Aside0.mk (below_step (by repeat (first | (with_reducible first | exact HB.out | apply below_alloc | apply pw_below_drewN | apply below_drew1) | exact HB.out)) hb); clear HO_5; clear HB; have HO_5 := n0_; have HO213 := n1_; have HB := n2_; clear n0_ n1_ n2_; (try clear hb); (try clear hb2); (try clear hk); (try clear hi); (try clear ho0)))
           (try simp only [Act.put, List.setIfInBounds_toArray, List.set_cons_zero, List.set_cons_succ])
           go_cut [57] (fun v57 wc => ∃ (kq : Nat) (x57_13 : Bool), v57 = .bool x57_13 ∧ Aside0 (carcanetref25_Parse.j3 kq a0 x5_1 x6_1 x7_3 t209 x57_13 = some (r1, r2, r3)) ∧ Aside0 (kq ≤ kj3) ∧ Aside0 (Kd.S k50 50 wc w.heap.size (fun _ => True) u5 x5_1) ∧ Aside0 (Kd.R k49 49 wc w.heap.size (fun _ => True) v212 t209) ∧ Aside0 (Below w.heap.size w wc))
           case first =>
            have H := HC14.out
            clear HC14
            by_cases c16 : (t209.length : Int) > 0
            ·rw [if_pos c16] at H
             have c16b0 : decide (0 < (t209.length : Int)) = true := decide_eq_true c16
             have c16b1 : decide (0 < t209.length) = true := decide_eq_true (by omega)
             clear c16
             (first | rw [c16b0] | (simp only [i64_w, i32_w]; rw [c16b0]) | skip)
             have H' := Aside0.mk H
             clear H
             obtain ⟨Ao17, co17, eo17⟩ := Kd.R_slice HO213.out
             subst eo17
             obtain ⟨Ao18, co18, eo18⟩ := Kd.S_slice HO_5.out
             subst eo18
             go_wp2
             repeat (go_quiet (fail); try go_wp2)
             go_meet
             case rel => exact ⟨_, (decide ((x5_1.length : Int) ≥ 1000)), (by first | rfl | (simp; done) | (simp [*]; done)), H', ⟨by have := HK1.out; have := HJ3.out; first | omega | exact Nat.le_refl _⟩, ⟨by (with_reducible repeat (first | apply Kd.S_alloc | apply Kd.S_drewN | apply Kd.S_drew)); exact HO_5.out⟩, ⟨by (with_reducible repeat (first | apply Kd.R_alloc | apply Kd.R_drewN | apply Kd.R_drew)); exact HO213.out⟩, ⟨by repeat (first | (with_reducible first | exact HB.out | apply below_alloc | apply pw_below_drewN | apply below_drew1) | exact HB.out)⟩⟩
            ·rw [if_neg c16] at H
             have c16b0 : decide (0 < (t209.length : Int)) = false := decide_eq_false c16
             have c16b1 : decide (0 < t209.length) = false := decide_eq_false (by omega)
             clear c16
             (first | rw [c16b0] | (simp only [i64_w, i32_w]; rw [c16b0]) | skip)
             have H' := Aside0.mk H
             clear H
             obtain ⟨Ao19, co19, eo19⟩ := Kd.R_slice HO213.out
             subst eo19
             go_wp2
             repeat (go_quiet (fail); try go_wp2)
             go_meet
             case rel => exact ⟨_, (false), (by first | rfl | (simp; done) | (simp [*]; done)), H', ⟨by have := HK1.out; have := HJ3.out; first | omega | exact Nat.le_refl _⟩, ⟨by (with_reducible repeat (first | apply Kd.S_alloc | apply Kd.S_drewN | apply Kd.S_drew)); exact HO_5.out⟩, ⟨by (with_reducible repeat (first | apply Kd.R_alloc | apply Kd.R_drewN | apply Kd.R_drew)); exact HO213.out⟩, ⟨by repeat (first | (with_reducible first | exact HB.out | apply below_alloc | apply pw_below_drewN | apply below_drew1) | exact HB.out)⟩⟩
           case rest =>
            clear HC14
            try clear c1
            try clear c2
            try clear c2b0
            try clear c2b1
            try clear p2
            try clear c3
            try clear c3b0
            try clear c5
            try clear c5b0
            try clear c6
            try clear c6b0
            try clear p6
            try clear p7
            try clear q7
            try clear hx7
            try clear c8
            try clear c8b0
            try clear c8b1
            try clear c9
            try clear c9b0
            try clear c9b1
            try clear c10
            try clear c10b0
            try clear c10b1
            try clear c11
            try clear c11b0
            try clear c11b1
            try clear c13
            try clear c13b0
            try clear c13b1
            try clear c16
            try clear c16b0
            try clear c16b1
            try clear p2
            try clear p6
            try clear p7
            try clear q7
            obtain ⟨kq, x57_13, rfl, HA, HJ13, HO_5, HO_8, HB⟩ := hcut
            cases kq with
            | zero => exact absurd HA.out (by simp [carcanetref25_Parse.j3])
            | succ kj13 =>
             have H := HA.out
             clear HA
             simp only [carcanetref25_Parse.j3] at H
             by_cases c20 : x57_13 = true
             ·subst c20
              have H1 : (if 0 < (t209.length : Int) then (some (x5_1, wrap64 (x6_1 + ((rd_T49 t209 0).f1)), 5)) else (none)) = some (r1, r2, r3) := by rw [if_pos rfl] at H; exact H
              clear H
              have H := H1
              clear H1
              by_cases c21 : 0 < (t209.length : Int)
              ·rw [if_pos c21] at H
               have c21b0 : decide (0 < (t209.length : Int)) = true := decide_eq_true c21
               have c21b1 : decide (0 < t209.length) = true := decide_eq_true (by omega)
               clear c21
               simp only [Option.some.injEq, Prod.mk.injEq] at H
               obtain ⟨rfl, rfl, rfl⟩ := H
               obtain ⟨Ao22, co22, eo22⟩ := Kd.R_slice HO_8.out
               subst eo22
               have p214 : 0 ≤ (0 : Int) := (by omega)
               have q214 : 0 < (t209.length : Int) := of_decide_eq_true (by first | (with_reducible assumption) | assumption)
               obtain ⟨ad214, e214, hx214_0, hx214_1, hx214_2, hx214_3⟩ := at_T49 (Kd.R_reads' HO_8.out).2.2 0 p214 q214
               cases e214
               have qi214 : (0 < t209.length) = True := eq_true (by omega)
               (try rw [show ((0 : Int)).toNat = 0 from rfl] at hx214_0)
               (try rw [show 0 * 4 = 0 from rfl] at hx214_0)
               (try rw [Addr.add_zero'] at hx214_0)
               (try rw [show ((0 : Int)).toNat = 0 from rfl] at hx214_1)
               (try rw [show 0 * 4 = 0 from rfl] at hx214_1)
               (try rw [Addr.add_zero'] at hx214_1)
               (try rw [show ((0 : Int)).toNat = 0 from rfl] at hx214_2)
               (try rw [show 0 * 4 = 0 from rfl] at hx214_2)
               (try rw [Addr.add_zero'] at hx214_2)
               (try rw [show ((0 : Int)).toNat = 0 from rfl] at hx214_3)
               (try rw [show 0 * 4 = 0 from rfl] at hx214_3)
               (try rw [Addr.add_zero'] at hx214_3)
               replace p214 := eq_true p214
               replace q214 := eq_true q214
               go_wp2
               repeat (go_quiet (fail); try go_wp2)
               go_ret3
               exact ⟨_, by first | rfl | (simp [errW_none, errW_some] <;> rfl) | (simp [*, errW_none, errW_some] <;> rfl), by (with_reducible repeat (first | apply Kd.S_alloc | apply Kd.S_drewN | apply Kd.S_drew)); exact HO_5.out, by repeat (first | (with_reducible first | exact HB.out | apply below_alloc | apply pw_below_drewN | apply below_drew1) | exact HB.out)⟩
              ·rw [if_neg c21] at H
               exact absurd H (by simp)
             ·replace c20 := Bool.eq_false_iff.mpr c20
              subst c20
              have H1 : (if (t209.length : Int) > 0 then ((carcanetref25_line.f kj13 t209 (wrap64 (x7_3 - x6_1))).bind fun bt215 => (if bt215.2.2.2.2.2.2.2.2 = 0 then (if x5_1.length < 1759218604441 then (carcanetref25_Parse.l0 kj13 a0 (x5_1 ++ [(⟨bt215.1, bt215.2.1, (⟨bt215.2.2.1, bt215.2.2.2.1⟩ : S34), bt215.2.2.2.2.1, wrap64 (bt215.2.2.2.2.2.1 + x6_1), wrap64 (bt215.2.2.2.2.2.2.1 + x6_1)⟩ : S50)]) (wrap64 (x7_3 + 1))) else (none)) else (some (x5_1, wrap64 (x6_1 + bt215.2.2.2.2.2.2.2.1), bt215.2.2.2.2.2.2.2.2)))) else (carcanetref25_Parse.l0 kj13 a0 x5_1 (wrap64 (x7_3 + 1)))) = some (r1, r2, r3) := by rw [if_neg (show ¬ (false = true) by decide)] at H; exact H
              clear H
              have H := H1
              clear H1
              by_cases c23 : (t209.length : Int) > 0
              ·rw [if_pos c23] at H
               have c23b0 : decide (0 < (t209.length : Int)) = true := decide_eq_true c23
               have c23b1 : decide (0 < t209.length) = true := decide_eq_true (by omega)
               clear c23
               replace H := Option.bind_eq_some_iff.mp H
               obtain ⟨⟨t215, t216, t217, t218, t221, t222, t223, t224, t225⟩, A240, H⟩ := H
               replace H : (if t225 = 0 then (if x5_1.length < 1759218604441 then (carcanetref25_Parse.l0 kj13 a0 (x5_1 ++ [(⟨t215, t216, (⟨t217, t218⟩ : S34), t221, wrap64 (t222 + x6_1), wrap64 (t223 + x6_1)⟩ : S50)]) (wrap64 (x7_3 + 1))) else (none)) else (some (x5_1, wrap64 (x6_1 + t224), t225))) = some (r1, r2, r3) := H
               have A24 := Aside0.mk A240
               clear A240
               by_cases c25 : t225 = 0
               ·rw [if_pos c25] at H
                have c25b0 : (t225 == 0) = true := beq_iff_eq.mpr c25
                have c25b1 : (t225 != 0) = false := bne_eq_false_iff_eq.mpr c25
                clear c25
                by_cases c26 : x5_1.length < 1759218604441
                ·rw [if_pos c26] at H
                 have LMc26 := Aside0.mk c26
                 clear c26
                 obtain ⟨y227, hy227⟩ : ∃ y_ : List (S50), y_ = (x5_1 ++ [(⟨t215, t216, (⟨t217, t218⟩ : S34), t221, wrap64 (t222 + x6_1), wrap64 (t223 + x6_1)⟩ : S50)]) := ⟨_, rfl⟩
                 replace H : (carcanetref25_Parse.l0 kj13 a0 y227 (wrap64 (x7_3 + 1))) = some (r1, r2, r3) := by first | (rw [hy227]; with_reducible exact H) | (have H2_ := (Option.bind_some _ _).symm.trans H; rw [hy227]; with_reducible exact H2_) | (have H2_ := (Option.bind_some _ _).symm.trans H; with_reducible exact H2_) | with_reducible exact H | (rw [hy227]; exact H) | exact H
                 have Ny227 := Aside0.mk hy227
                 clear hy227
                 have H' := Aside0.mk H
                 clear H
                 obtain ⟨Ao27, co27, eo27⟩ := Kd.R_slice HO_8.out
                 subst eo27
                 go_wp2_with (first | (go_at_call 13; (with_reducible refine (carcanetref25_line.calls kj13 _ _ t209 (wrap64 (x7_3 - x6_1)) t215 t216 t217 t218 t221 t222 t223 t224 t225 _ ?side1 ?side2 A24.out).mono ?_); (case side1 => repeat (first | exact (Kd.R_reads' HO_8.out).2.2 | (with_reducible refine Kd.C_alloc ?_ _) | (with_reducible refine Kd.C_drewN ?_ _) | (with_reducible refine Kd.C_drew ?_))); (case side2 => exact (Kd.R_reads' HO_8.out).2.1); rintro e w28 ⟨v219, rfl, ho0, hb⟩; have n0_ := Aside0.mk (Kd.S_elder' (by (with_reducible repeat (first | apply Kd.S_alloc | apply Kd.S_drewN | apply Kd.S_drew)); exact HO_5.out) (Kd.R_base ho0) hb); have n1_ := Aside0.mk (Kd.R_below (by (with_reducible repeat (first | apply Kd.R_alloc | apply Kd.R_drewN | apply Kd.R_drew)); exact HO_8.out) hb); have n2_ := Aside0.mk (Kd.R_lower ho0 (below_size (by repeat (first | (with_reducible first | exact HB.out | apply below_alloc | apply pw_below_drewN | apply below_drew1) | exact HB.out)))); have n3_ := Aside0.mk (below_step (by repeat (first | (with_reducible first | exact HB.out | apply below_alloc | apply pw_below_drewN | apply below_drew1) | exact HB.out)) hb); clear HO_5; clear HO_8; clear HB; have HO_5 := n0_; have HO_8 := n1_; have HO220 := n2_; have HB := n3_; clear n0_ n1_ n2_ n3_; (try clear hb); (try clear hb2); (try clear hk); (try clear hi); (try clear ho0)) | ((with_reducible refine gate_dst (N := 11) rfl ?_); (try (refine gate_guard (by rfl) ?_; dsimp only)); refine box_event ?hg (N := 11) ?hd (cs := #[.int .i64 0, .string (⟨#[]⟩ : ByteArray), .int .i64 0, .slice none 0 0, .int .i64 0, .int .i64 0, .int .i64 0]) (t := 50) ?hr ?_; (case hd => rfl); (case hg => rfl); (case hr => first | (go_simp; done) | (go_simp; rfl)); intro gb226 hg w29 hbox hb; have n0_ := Aside0.mk (Kd.S_below (Kd.S_elderB (by (with_reducible repeat (first | apply Kd.S_alloc | apply Kd.S_drewN | apply Kd.S_drew)); exact HO_5.out) gb226 (Nat.le_of_eq hg.symm)) hb); have n1_ := Aside0.mk (Kd.R_below (by (with_reducible repeat (first | apply Kd.R_alloc | apply Kd.R_drewN | apply Kd.R_drew)); exact HO_8.out) hb); have n2_ := Aside0.mk (Kd.R_below (by (with_reducible repeat (first | apply Kd.R_alloc | apply Kd.R_drewN | apply Kd.R_drew)); exact HO220.out) hb); have n3_ := Aside0.mk (below_step (by repeat (first | (with_reducible first | exact HB.out | apply below_alloc | apply pw_below_drewN | apply below_drew1) | exact HB.out)) hb); have n4_ := Aside0.mk (hbox); have n5_ := Aside0.mk ((by rw [hg]; exact (below_size (by repeat (first | (with_reducible first | exact HB.out | apply below_alloc | apply pw_below_drewN | apply below_drew1) | exact HB.out))) : w.heap.size ≤ gb226)); have n6_ := Aside0.mk ((by rw [hg]; exact (below_size (by repeat (first | (with_reducible first | exact HB.out | apply below_alloc | apply pw_below_drewN | apply below_drew1) | exact HB.out))) : w.heap.size ≤ gb226)); clear HO_5; clear HO_8; clear HO220; clear HB; have HO_5 := n0_; have HO_8 := n1_; have HO220 := n2_; have HB := n3_; have BK226 := n4_; have GW226 := n5_; have GE226 := n6_; clear n0_ n1_ n2_ n3_ n4_ n5_ n6_; clear hb hbox hg; have hcz30_0 : w29.cell? ⟨gb226, 0, none⟩ = some (.int .i64 0) := (blk_cell BK226.out 0).trans rfl; have hcz30_1 : w29.cell? ⟨gb226, 1, none⟩ = some (.string (⟨#[]⟩ : ByteArray)) := (blk_cell BK226.out 1).trans rfl; have hcz30_2 : w29.cell? ⟨gb226, 2, none⟩ = some (.int .i64 0) := (blk_cell BK226.out 2).trans rfl; have hcz30_3 : w29.cell? ⟨gb226, 3, none⟩ = some (.slice none 0 0) := (blk_cell BK226.out 3).trans rfl; have hcz30_4 : w29.cell? ⟨gb226, 4, none⟩ = some (.int .i64 0) := (blk_cell BK226.out 4).trans rfl; have hcz30_5 : w29.cell? ⟨gb226, 5, none⟩ = some (.int .i64 0) := (blk_cell BK226.out 5).trans rfl; have hcz30_6 : w29.cell? ⟨gb226, 6, none⟩ = some (.int .i64 0) := (blk_cell BK226.out 6).trans rfl; have hfz30_0 := blk_frozen BK226.out 0; have hfz30_1 := blk_frozen BK226.out 1; have hfz30_2 := blk_frozen BK226.out 2; have hfz30_3 := blk_frozen BK226.out 3; have hfz30_4 := blk_frozen BK226.out 4; have hfz30_5 := blk_frozen BK226.out 5; have hfz30_6 := blk_frozen BK226.out 6; obtain ⟨Ao31, co31, eo31⟩ := Kd.R_slice HO220.out; subst eo31) | ((with_reducible refine gate_store (t := 50) (p := 11) rfl ?_); (try (rw [drewN_self w29]; generalize hq_ : World.drewN w29 _ = w29; have n0_ := Aside0.mk (Kd.S_at hq_ HO_5.out); have n1_ := Aside0.mk (Kd.R_at hq_ HO_8.out); have n2_ := Aside0.mk (Kd.R_at hq_ HO220.out); have n3_ := Aside0.mk (blk_at hq_ BK226.out); have n4_ := Aside0.mk (below_at hq_ HB.out); clear hq_ HO_5 HO_8 HO220 BK226 HB; have HO_5 := n0_; have HO_8 := n1_; have HO220 := n2_; have BK226 := n3_; have HB := n4_; clear n0_ n1_ n2_ n3_ n4_)); refine store_event (t := 50) (p := 11) (v := ?vo_w32) (w1 := (((((((w29.setCell ⟨gb226, 0, none⟩ (.int .i64 t215)).setCell ⟨gb226, 1, none⟩ (.string t216)).setCell ⟨gb226, 2, none⟩ (.int .i64 t217)).setCell ⟨gb226, 3, none⟩ (.slice Ao31 t218.length co31)).setCell ⟨gb226, 4, none⟩ (.int .i64 t221)).setCell ⟨gb226, 5, none⟩ (.int .i64 t222)).setCell ⟨gb226, 6, none⟩ (.int .i64 t223))) ?hg ?ho ?hn ?hr ?_; (case ho => rfl); (case hg => rfl); (case hn => rfl); (case hr => first | (go_simp; done) | (go_simp; rfl)); intro w32 hw; have n0_ : Aside0 (Kd.S k50 50 w32 w.heap.size (fun k_ => some k_ ≠ (.slice Ao31 t218.length co31 : Value).ownBlock ∧ k_ ≠ gb226) u5 x5_1) := ⟨(by rw [hw]; exact (by (with_reducible repeat (first | apply Kd.S_alloc | apply Kd.S_drewN | apply Kd.S_drew)); exact Kd.S_mono (Kd.S_far (p := ⟨gb226, 6, none⟩) (Kd.S_far (p := ⟨gb226, 5, none⟩) (Kd.S_far (p := ⟨gb226, 4, none⟩) (Kd.S_far (p := ⟨gb226, 3, none⟩) (Kd.S_far (p := ⟨gb226, 2, none⟩) (Kd.S_far (p := ⟨gb226, 1, none⟩) (Kd.S_far (p := ⟨gb226, 0, none⟩) (Kd.S_mono HO_5.out (fun k_ hk => (⟨hk, hk.2⟩ : _ ∧ k_ ≠ gb226))) (fun _ hk => hk.2) (.int .i64 t215)) (fun _ hk => hk.2) (.string t216)) (fun _ hk => hk.2) (.int .i64 t217)) (fun _ hk => hk.2) (.slice Ao31 t218.length co31)) (fun _ hk => hk.2) (.int .i64 t221)) (fun _ hk => hk.2) (.int .i64 t222)) (fun _ hk => hk.2) (.int .i64 t223)) (fun _ hk => ⟨hk.1.1.2, hk.1.2⟩)))⟩; have n1_ : Aside0 (Kd.R k49 49 w32 w.heap.size (fun _ => True) (.slice Ao27 t209.length co27) t209) := ⟨(by rw [hw]; exact (by (with_reducible repeat (first | apply Kd.R_alloc | apply Kd.R_drewN | apply Kd.R_drew)); exact Kd.R_mono (Kd.R_far (p := ⟨gb226, 6, none⟩) (Kd.R_far (p := ⟨gb226, 5, none⟩) (Kd.R_far (p := ⟨gb226, 4, none⟩) (Kd.R_far (p := ⟨gb226, 3, none⟩) (Kd.R_far (p := ⟨gb226, 2, none⟩) (Kd.R_far (p := ⟨gb226, 1, none⟩) (Kd.R_far (p := ⟨gb226, 0, none⟩) (Kd.R_types HO_8.out BK226.out (by decide)) (fun _ hk => hk.2) (.int .i64 t215)) (fun _ hk => hk.2) (.string t216)) (fun _ hk => hk.2) (.int .i64 t217)) (fun _ hk => hk.2) (.slice Ao31 t218.length co31)) (fun _ hk => hk.2) (.int .i64 t221)) (fun _ hk => hk.2) (.int .i64 t222)) (fun _ hk => hk.2) (.int .i64 t223)) (fun _ hk => trivial)))⟩; have n2_ : Aside0 (Kd.R k64 64 w32 w.heap.size (fun _ => True) (.slice Ao31 t218.length co31) t218) := ⟨(by rw [hw]; exact (by (with_reducible repeat (first | apply Kd.R_alloc | apply Kd.R_drewN | apply Kd.R_drew)); exact Kd.R_mono (Kd.R_far (p := ⟨gb226, 6, none⟩) (Kd.R_far (p := ⟨gb226, 5, none⟩) (Kd.R_far (p := ⟨gb226, 4, none⟩) (Kd.R_far (p := ⟨gb226, 3, none⟩) (Kd.R_far (p := ⟨gb226, 2, none⟩) (Kd.R_far (p := ⟨gb226, 1, none⟩) (Kd.R_far (p := ⟨gb226, 0, none⟩) (Kd.R_types HO220.out BK226.out (by decide)) (fun _ hk => hk.2) (.int .i64 t215)) (fun _ hk => hk.2) (.string t216)) (fun _ hk => hk.2) (.int .i64 t217)) (fun _ hk => hk.2) (.slice Ao31 t218.length co31)) (fun _ hk => hk.2) (.int .i64 t221)) (fun _ hk => hk.2) (.int .i64 t222)) (fun _ hk => hk.2) (.int .i64 t223)) (fun _ hk => trivial)))⟩; have n3_ : Aside0 (w32.heap[gb226]? = some (.cells #[.int .i64 t215, .string t216, .int .i64 t217, .slice Ao31 t218.length co31, .int .i64 t221, .int .i64 t222, .int .i64 t223] 50 (0, 0))) := ⟨(by rw [hw]; exact (by (with_reducible repeat (first | refine blk_drewN ?_ _ | refine blk_drew ?_ | refine blk_alloc ?_ _)); refine blk_put (cs := #[.int .i64 t215, .string t216, .int .i64 t217, .slice Ao31 t218.length co31, .int .i64 t221, .int .i64 t222, .int .i64 0]) ?_ 6 _ rfl; (with_reducible repeat (first | refine blk_drewN ?_ _ | refine blk_drew ?_ | refine blk_alloc ?_ _)); refine blk_put (cs := #[.int .i64 t215, .string t216, .int .i64 t217, .slice Ao31 t218.length co31, .int .i64 t221, .int .i64 0, .int .i64 0]) ?_ 5 _ rfl; (with_reducible repeat (first | refine blk_drewN ?_ _ | refine blk_drew ?_ | refine blk_alloc ?_ _)); refine blk_put (cs := #[.int .i64 t215, .string t216, .int .i64 t217, .slice Ao31 t218.length co31, .int .i64 0, .int .i64 0, .int .i64 0]) ?_ 4 _ rfl; (with_reducible repeat (first | refine blk_drewN ?_ _ | refine blk_drew ?_ | refine blk_alloc ?_ _)); refine blk_put (cs := #[.int .i64 t215, .string t216, .int .i64 t217, .slice none 0 0, .int .i64 0, .int .i64 0, .int .i64 0]) ?_ 3 _ rfl; (with_reducible repeat (first | refine blk_drewN ?_ _ | refine blk_drew ?_ | refine blk_alloc ?_ _)); refine blk_put (cs := #[.int .i64 t215, .string t216, .int .i64 0, .slice none 0 0, .int .i64 0, .int .i64 0, .int .i64 0]) ?_ 2 _ rfl; (with_reducible repeat (first | refine blk_drewN ?_ _ | refine blk_drew ?_ | refine blk_alloc ?_ _)); refine blk_put (cs := #[.int .i64 t215, .string (⟨#[]⟩ : ByteArray), .int .i64 0, .slice none 0 0, .int .i64 0, .int .i64 0, .int .i64 0]) ?_ 1 _ rfl; (with_reducible repeat (first | refine blk_drewN ?_ _ | refine blk_drew ?_ | refine blk_alloc ?_ _)); refine blk_put (cs := #[.int .i64 0, .string (⟨#[]⟩ : ByteArray), .int .i64 0, .slice none 0 0, .int .i64 0, .int .i64 0, .int .i64 0]) ?_ 0 _ rfl; (with_reducible repeat (first | refine blk_drewN ?_ _ | refine blk_drew ?_ | refine blk_alloc ?_ _)); exact BK226.out))⟩; have n4_ : Aside0 (Below w.heap.size w w32) := ⟨(by rw [hw]; exact (by repeat (first | (with_reducible first | exact HB.out | apply below_alloc | apply pw_below_drewN | apply below_drew1 | refine below_set ?_ GE226.out) | exact HB.out)))⟩; clear hw; clear HO_5; clear HO_8; clear HO220; clear BK226; clear HB; have HO_5 := n0_; have HO_8 := n1_; have HO220 := n2_; have BK226 := n3_; have HB := n4_; clear n0_ n1_ n2_ n3_ n4_; have hcz33_0 : w32.cell? ⟨gb226, 0, none⟩ = some (.int .i64 t215) := (blk_cell BK226.out 0).trans rfl; have hcz33_1 : w32.cell? ⟨gb226, 1, none⟩ = some (.string t216) := (blk_cell BK226.out 1).trans rfl; have hcz33_2 : w32.cell? ⟨gb226, 2, none⟩ = some (.int .i64 t217) := (blk_cell BK226.out 2).trans rfl; have hcz33_3 : w32.cell? ⟨gb226, 3, none⟩ = some (.slice Ao31 t218.length co31) := (blk_cell BK226.out 3).trans rfl; have hcz33_4 : w32.cell? ⟨gb226, 4, none⟩ = some (.int .i64 t221) := (blk_cell BK226.out 4).trans rfl; have hcz33_5 : w32.cell? ⟨gb226, 5, none⟩ = some (.int .i64 t222) := (blk_cell BK226.out 5).trans rfl; have hcz33_6 : w32.cell? ⟨gb226, 6, none⟩ = some (.int .i64 t223) := (blk_cell BK226.out 6).trans rfl; have hfz33_0 := blk_frozen BK226.out 0; have hfz33_1 := blk_frozen BK226.out 1; have hfz33_2 := blk_frozen BK226.out 2; have hfz33_3 := blk_frozen BK226.out 3; have hfz33_4 := blk_frozen BK226.out 4; have hfz33_5 := blk_frozen BK226.out 5; have hfz33_6 := blk_frozen BK226.out 6) | ((with_reducible refine gate_store (t := 3) (p := 88) rfl ?_); (try (rw [drewN_self w32]; generalize hq_ : World.drewN w32 _ = w32; have n0_ := Aside0.mk (Kd.S_at hq_ HO_5.out); have n1_ := Aside0.mk (Kd.R_at hq_ HO_8.out); have n2_ := Aside0.mk (Kd.R_at hq_ HO220.out); have n3_ := Aside0.mk (blk_at hq_ BK226.out); have n4_ := Aside0.mk (below_at hq_ HB.out); clear hq_ HO_5 HO_8 HO220 BK226 HB; have HO_5 := n0_; have HO_8 := n1_; have HO220 := n2_; have BK226 := n3_; have HB := n4_; clear n0_ n1_ n2_ n3_ n4_)); refine store_event (t := 3) (p := 88) (v := ?vo_w34) (w1 := (w32.setCell ⟨gb226, 5, none⟩ (.int .i64 (wrap64 (t222 + x6_1))))) ?hg ?ho ?hn ?hr ?_; (case ho => rfl); (case hg => rfl); (case hn => rfl); (case hr => first | (go_simp; done) | (go_simp; rfl)); intro w34 hw; have n0_ : Aside0 (Kd.S k50 50 w34 w.heap.size (fun k_ => some k_ ≠ (.slice Ao31 t218.length co31 : Value).ownBlock ∧ k_ ≠ gb226) u5 x5_1) := ⟨(by rw [hw]; exact (by (with_reducible repeat (first | apply Kd.S_alloc | apply Kd.S_drewN | apply Kd.S_drew)); exact Kd.S_mono (Kd.S_far (p := ⟨gb226, 5, none⟩) (Kd.S_mono HO_5.out (fun k_ hk => (⟨hk, hk.2⟩ : _ ∧ k_ ≠ gb226))) (fun _ hk => hk.2) (.int .i64 (wrap64 (t222 + x6_1)))) (fun _ hk => ⟨hk.1.1, hk.1.2⟩)))⟩; have n1_ : Aside0 (Kd.R k49 49 w34 w.heap.size (fun _ => True) (.slice Ao27 t209.length co27) t209) := ⟨(by rw [hw]; exact (by (with_reducible repeat (first | apply Kd.R_alloc | apply Kd.R_drewN | apply Kd.R_drew)); exact Kd.R_mono (Kd.R_far (p := ⟨gb226, 5, none⟩) (Kd.R_types HO_8.out BK226.out (by decide)) (fun _ hk => hk.2) (.int .i64 (wrap64 (t222 + x6_1)))) (fun _ hk => trivial)))⟩; have n2_ : Aside0 (Kd.R k64 64 w34 w.heap.size (fun _ => True) (.slice Ao31 t218.length co31) t218) := ⟨(by rw [hw]; exact (by (with_reducible repeat (first | apply Kd.R_alloc | apply Kd.R_drewN | apply Kd.R_drew)); exact Kd.R_mono (Kd.R_far (p := ⟨gb226, 5, none⟩) (Kd.R_types HO220.out BK226.out (by decide)) (fun _ hk => hk.2) (.int .i64 (wrap64 (t222 + x6_1)))) (fun _ hk => trivial)))⟩; have n3_ : Aside0 (w34.heap[gb226]? = some (.cells #[.int .i64 t215, .string t216, .int .i64 t217, .slice Ao31 t218.length co31, .int .i64 t221, .int .i64 (wrap64 (t222 + x6_1)), .int .i64 t223] 50 (0, 0))) := ⟨(by rw [hw]; exact (by (with_reducible repeat (first | refine blk_drewN ?_ _ | refine blk_drew ?_ | refine blk_alloc ?_ _)); refine blk_put (cs := #[.int .i64 t215, .string t216, .int .i64 t217, .slice Ao31 t218.length co31, .int .i64 t221, .int .i64 t222, .int .i64 t223]) ?_ 5 _ rfl; (with_reducible repeat (first | refine blk_drewN ?_ _ | refine blk_drew ?_ | refine blk_alloc ?_ _)); exact BK226.out))⟩; have n4_ : Aside0 (Below w.heap.size w w34) := ⟨(by rw [hw]; exact (by repeat (first | (with_reducible first | exact HB.out | apply below_alloc | apply pw_below_drewN | apply below_drew1 | refine below_set ?_ GE226.out) | exact HB.out)))⟩; clear hw; clear HO_5; clear HO_8; clear HO220; clear BK226; clear HB; have HO_5 := n0_; have HO_8 := n1_; have HO220 := n2_; have BK226 := n3_; have HB := n4_; clear n0_ n1_ n2_ n3_ n4_; have hcz35_0 : w34.cell? ⟨gb226, 0, none⟩ = some (.int .i64 t215) := (blk_cell BK226.out 0).trans rfl; have hcz35_1 : w34.cell? ⟨gb226, 1, none⟩ = some (.string t216) := (blk_cell BK226.out 1).trans rfl; have hcz35_2 : w34.cell? ⟨gb226, 2, none⟩ = some (.int .i64 t217) := (blk_cell BK226.out 2).trans rfl; have hcz35_3 : w34.cell? ⟨gb226, 3, none⟩ = some (.slice Ao31 t218.length co31) := (blk_cell BK226.out 3).trans rfl; have hcz35_4 : w34.cell? ⟨gb226, 4, none⟩ = some (.int .i64 t221) := (blk_cell BK226.out 4).trans rfl; have hcz35_5 : w34.cell? ⟨gb226, 5, none⟩ = some (.int .i64 (wrap64 (t222 + x6_1))) := (blk_cell BK226.out 5).trans rfl; have hcz35_6 : w34.cell? ⟨gb226, 6, none⟩ = some (.int .i64 t223) := (blk_cell BK226.out 6).trans rfl; have hfz35_0 := blk_frozen BK226.out 0; have hfz35_1 := blk_frozen BK226.out 1; have hfz35_2 := blk_frozen BK226.out 2; have hfz35_3 := blk_frozen BK226.out 3; have hfz35_4 := blk_frozen BK226.out 4; have hfz35_5 := blk_frozen BK226.out 5; have hfz35_6 := blk_frozen BK226.out 6) | ((with_reducible refine gate_store (t := 3) (p := 93) rfl ?_); (try (rw [drewN_self w34]; generalize hq_ : World.drewN w34 _ = w34; have n0_ := Aside0.mk (Kd.S_at hq_ HO_5.out); have n1_ := Aside0.mk (Kd.R_at hq_ HO_8.out); have n2_ := Aside0.mk (Kd.R_at hq_ HO220.out); have n3_ := Aside0.mk (blk_at hq_ BK226.out); have n4_ := Aside0.mk (below_at hq_ HB.out); clear hq_ HO_5 HO_8 HO220 BK226 HB; have HO_5 := n0_; have HO_8 := n1_; have HO220 := n2_; have BK226 := n3_; have HB := n4_; clear n0_ n1_ n2_ n3_ n4_)); refine store_event (t := 3) (p := 93) (v := ?vo_w36) (w1 := (w34.setCell ⟨gb226, 6, none⟩ (.int .i64 (wrap64 (t223 + x6_1))))) ?hg ?ho ?hn ?hr ?_; (case ho => rfl); (case hg => rfl); (case hn => rfl); (case hr => first | (go_simp; done) | (go_simp; rfl)); intro w36 hw; have n0_ : Aside0 (Kd.S k50 50 w36 w.heap.size (fun k_ => some k_ ≠ (.slice Ao31 t218.length co31 : Value).ownBlock ∧ k_ ≠ gb226) u5 x5_1) := ⟨(by rw [hw]; exact (by (with_reducible repeat (first | apply Kd.S_alloc | apply Kd.S_drewN | apply Kd.S_drew)); exact Kd.S_mono (Kd.S_far (p := ⟨gb226, 6, none⟩) (Kd.S_mono HO_5.out (fun k_ hk => (⟨hk, hk.2⟩ : _ ∧ k_ ≠ gb226))) (fun _ hk => hk.2) (.int .i64 (wrap64 (t223 + x6_1)))) (fun _ hk => ⟨hk.1.1, hk.1.2⟩)))⟩; have n1_ : Aside0 (Kd.R k49 49 w36 w.heap.size (fun _ => True) (.slice Ao27 t209.length co27) t209) := ⟨(by rw [hw]; exact (by (with_reducible repeat (first | apply Kd.R_alloc | apply Kd.R_drewN | apply Kd.R_drew)); exact Kd.R_mono (Kd.R_far (p := ⟨gb226, 6, none⟩) (Kd.R_types HO_8.out BK226.out (by decide)) (fun _ hk => hk.2) (.int .i64 (wrap64 (t223 + x6_1)))) (fun _ hk => trivial)))⟩; have n2_ : Aside0 (Kd.R k64 64 w36 w.heap.size (fun _ => True) (.slice Ao31 t218.length co31) t218) := ⟨(by rw [hw]; exact (by (with_reducible repeat (first | apply Kd.R_alloc | apply Kd.R_drewN | apply Kd.R_drew)); exact Kd.R_mono (Kd.R_far (p := ⟨gb226, 6, none⟩) (Kd.R_types HO220.out BK226.out (by decide)) (fun _ hk => hk.2) (.int .i64 (wrap64 (t223 + x6_1)))) (fun _ hk => trivial)))⟩; have n3_ : Aside0 (w36.heap[gb226]? = some (.cells #[.int .i64 t215, .string t216, .int .i64 t217, .slice Ao31 t218.length co31, .int .i64 t221, .int .i64 (wrap64 (t222 + x6_1)), .int .i64 (wrap64 (t223 + x6_1))] 50 (0, 0))) := ⟨(by rw [hw]; exact (by (with_reducible repeat (first | refine blk_drewN ?_ _ | refine blk_drew ?_ | refine blk_alloc ?_ _)); refine blk_put (cs := #[.int .i64 t215, .string t216, .int .i64 t217, .slice Ao31 t218.length co31, .int .i64 t221, .int .i64 (wrap64 (t222 + x6_1)), .int .i64 t223]) ?_ 6 _ rfl; (with_reducible repeat (first | refine blk_drewN ?_ _ | refine blk_drew ?_ | refine blk_alloc ?_ _)); exact BK226.out))⟩; have n4_ : Aside0 (Below w.heap.size w w36) := ⟨(by rw [hw]; exact (by repeat (first | (with_reducible first | exact HB.out | apply below_alloc | apply pw_below_drewN | apply below_drew1 | refine below_set ?_ GE226.out) | exact HB.out)))⟩; clear hw; clear HO_5; clear HO_8; clear HO220; clear BK226; clear HB; have HO_5 := n0_; have HO_8 := n1_; have HO220 := n2_; have BK226 := n3_; have HB := n4_; clear n0_ n1_ n2_ n3_ n4_; have hcz37_0 : w36.cell? ⟨gb226, 0, none⟩ = some (.int .i64 t215) := (blk_cell BK226.out 0).trans rfl; have hcz37_1 : w36.cell? ⟨gb226, 1, none⟩ = some (.string t216) := (blk_cell BK226.out 1).trans rfl; have hcz37_2 : w36.cell? ⟨gb226, 2, none⟩ = some (.int .i64 t217) := (blk_cell BK226.out 2).trans rfl; have hcz37_3 : w36.cell? ⟨gb226, 3, none⟩ = some (.slice Ao31 t218.length co31) := (blk_cell BK226.out 3).trans rfl; have hcz37_4 : w36.cell? ⟨gb226, 4, none⟩ = some (.int .i64 t221) := (blk_cell BK226.out 4).trans rfl; have hcz37_5 : w36.cell? ⟨gb226, 5, none⟩ = some (.int .i64 (wrap64 (t222 + x6_1))) := (blk_cell BK226.out 5).trans rfl; have hcz37_6 : w36.cell? ⟨gb226, 6, none⟩ = some (.int .i64 (wrap64 (t223 + x6_1))) := (blk_cell BK226.out 6).trans rfl; have hfz37_0 := blk_frozen BK226.out 0; have hfz37_1 := blk_frozen BK226.out 1; have hfz37_2 := blk_frozen BK226.out 2; have hfz37_3 := blk_frozen BK226.out 3; have hfz37_4 := blk_frozen BK226.out 4; have hfz37_5 := blk_frozen BK226.out 5; have hfz37_6 := blk_frozen BK226.out 6) | ((with_reducible refine gate_builtin (b := .append) (xs := #[.tmp 94, .tmp 96]) rfl ?_); (try (refine gate_guard (by rfl) ?_; dsimp only)); at_builtin; refine Kd.S_append k50 (w0 := w) w.heap.size rfl (.tmp 94) (.tmp 96) 27 50 (.agg #[(.int .i64 0), (.string ⟨#[]⟩), (.int .i64 0), (.slice none 0 0), (.int .i64 0), (.int .i64 0), (.int .i64 0)]) 80 rfl Tryz.underlying27 info50 rfl (by decide) (by omega) u5 x5_1 (⟨t215, t216, (⟨t217, t218⟩ : S34), t221, wrap64 (t222 + x6_1), wrap64 (t223 + x6_1)⟩ : S50) [.int .i64 t215, .string t216, .int .i64 t217, .slice Ao31 t218.length co31, .int .i64 t221, .int .i64 (wrap64 (t222 + x6_1)), .int .i64 (wrap64 (t223 + x6_1))] (fun k_ => k_ ≠ gb226) (fun k_ => some k_ = (.slice Ao31 t218.length co31 : Value).ownBlock) rfl rfl ?aP (fun k_ hk_ => ((Kd.R_mono (ok' := fun k_ => ((fun k_ => k_ ≠ gb226)) k_ ∧ some k_ ≠ (u5 : Value).ownBlock) (Kd.R_types (Kd.R_apart' (HO220.out) (Kd.S_typed HO_5.out) (by decide)) BK226.out (by decide)) (fun k_ hk => ⟨hk.2, hk.1.2⟩))).1 k_ hk_.symm) ?aF ?aO ?aB ?aS ?aL ?_; (case aP => exact k50_mkM _ _ _ (⟨t215, t216, (⟨t217, t218⟩ : S34), t221, wrap64 (t222 + x6_1), wrap64 (t223 + x6_1)⟩ : S50) (Kd.R_mono (Kd.R_tight rfl (Kd.R_mono (ok' := fun k_ => ((fun k_ => k_ ≠ gb226)) k_ ∧ some k_ ≠ (u5 : Value).ownBlock) (Kd.R_types (Kd.R_apart' (HO220.out) (Kd.S_typed HO_5.out) (by decide)) BK226.out (by decide)) (fun k_ hk => ⟨hk.2, hk.1.2⟩))) (fun _ h_ => h_))); (case aB => exact (by repeat (first | (with_reducible first | exact HB.out | apply below_alloc | apply pw_below_drewN | apply below_drew1 | refine below_set ?_ GE226.out) | exact HB.out))); (case aF => exact (fun k_ hk => Kd.freshB (g := gb226) (o := .cells #[.int .i64 t215, .string t216, .int .i64 t217, .slice Ao31 t218.length co31, .int .i64 t221, .int .i64 (wrap64 (t222 + x6_1)), .int .i64 (wrap64 (t223 + x6_1))] 50 (0, 0)) (by (with_reducible repeat (first | refine blk_drewN ?_ _ | refine blk_drew ?_ | refine blk_alloc ?_ _)); exact BK226.out) k_ hk)); (case aO => exact (by (with_reducible repeat (first | apply Kd.S_alloc | apply Kd.S_drewN | apply Kd.S_drew)); exact Kd.S_mono HO_5.out (fun k_ hk => ⟨hk.2, fun e_ => hk.1 e_⟩))); (case aS => exact (below_size (by repeat (first | (with_reducible first | exact HB.out | apply below_alloc | apply pw_below_drewN | apply below_drew1 | refine below_set ?_ GE226.out) | exact HB.out)))); (case aL => have := LMc26.out; omega); intro v228 w38 ho hb hg hat; rw [← Ny227.out] at ho; have n0_ := Aside0.mk (Kd.R_over' (by (with_reducible repeat (first | apply Kd.R_alloc | apply Kd.R_drewN | apply Kd.R_drew)); exact HO_8.out) (Kd.S_typed (by (with_reducible repeat (first | apply Kd.S_alloc | apply Kd.S_drewN | apply Kd.S_drew)); exact HO_5.out)) (by decide) hg); have n1_ := Aside0.mk (blk_grown (g := gb226) (o := .cells #[.int .i64 t215, .string t216, .int .i64 t217, .slice Ao31 t218.length co31, .int .i64 t221, .int .i64 (wrap64 (t222 + x6_1)), .int .i64 (wrap64 (t223 + x6_1))] 50 (0, 0)) (by (with_reducible repeat (first | refine blk_drewN ?_ _ | refine blk_drew ?_ | refine blk_alloc ?_ _)); exact BK226.out) hg (Kd.S_away HO_5.out (fun _ hk => hk.2))); have n2_ := Aside0.mk (hb); have n3_ := Aside0.mk (ho); clear HO_8; clear BK226; clear HB; clear HO_5; clear HO220; have HO_8 := n0_; have BK226 := n1_; have HB := n2_; have HO229 := n3_; clear n0_ n1_ n2_ n3_; clear ho hb hg hat))
                 go_roundg kj13
                 case measure => have := HK1.out; have := HJ3.out; have := HJ13.out; omega
                 case rel => exact ⟨(y227), (wrap64 (x7_3 + 1)), (by first | rfl | (simp; done) | (simp [*]; done)), H', ⟨by have := HK1.out; have := HJ3.out; have := HJ13.out; omega⟩, ⟨by (with_reducible repeat (first | apply Kd.S_alloc | apply Kd.S_drewN | apply Kd.S_drew)); exact Kd.S_mono HO229.out (fun _ hk => trivial)⟩, ⟨by repeat (first | (with_reducible first | exact HB.out | apply below_alloc | apply pw_below_drewN | apply below_drew1 | refine below_set ?_ GE226.out) | exact HB.out)⟩⟩
                ·rw [if_neg c26] at H
                 exact absurd H (by simp)
               ·rw [if_neg c25] at H
                have c25b0 : (t225 == 0) = false := beq_eq_false_iff_ne.mpr c25
                have c25b1 : (t225 != 0) = true := bne_iff_ne.mpr c25
                simp only [Option.some.injEq, Prod.mk.injEq] at H
                obtain ⟨rfl, rfl, rfl⟩ := H
                obtain ⟨Ao39, co39, eo39⟩ := Kd.R_slice HO_8.out
                subst eo39
                go_wp2_with (first | (go_at_call 13; (with_reducible refine (carcanetref25_line.calls kj13 _ _ t209 (wrap64 (x7_3 - x6_1)) t215 t216 t217 t218 t221 t222 t223 t224 t225 _ ?side1 ?side2 A24.out).mono ?_); (case side1 => repeat (first | exact (Kd.R_reads' HO_8.out).2.2 | (with_reducible refine Kd.C_alloc ?_ _) | (with_reducible refine Kd.C_drewN ?_ _) | (with_reducible refine Kd.C_drew ?_))); (case side2 => exact (Kd.R_reads' HO_8.out).2.1); rintro e w40 ⟨v219, rfl, ho0, hb⟩; have n0_ := Aside0.mk (Kd.S_elder' (by (with_reducible repeat (first | apply Kd.S_alloc | apply Kd.S_drewN | apply Kd.S_drew)); exact HO_5.out) (Kd.R_base ho0) hb); have n1_ := Aside0.mk (Kd.R_below (by (with_reducible repeat (first | apply Kd.R_alloc | apply Kd.R_drewN | apply Kd.R_drew)); exact HO_8.out) hb); have n2_ := Aside0.mk (Kd.R_lower ho0 (below_size (by repeat (first | (with_reducible first | exact HB.out | apply below_alloc | apply pw_below_drewN | apply below_drew1) | exact HB.out)))); have n3_ := Aside0.mk (below_step (by repeat (first | (with_reducible first | exact HB.out | apply below_alloc | apply pw_below_drewN | apply below_drew1) | exact HB.out)) hb); clear HO_5; clear HO_8; clear HB; have HO_5 := n0_; have HO_8 := n1_; have HO220 := n2_; have HB := n3_; clear n0_ n1_ n2_ n3_; (try clear hb); (try clear hb2); (try clear hk); (try clear hi); (try clear ho0)) | ((with_reducible refine gate_dst (N := 11) rfl ?_); (try (refine gate_guard (by rfl) ?_; dsimp only)); refine box_event ?hg (N := 11) ?hd (cs := #[.int .i64 0, .string (⟨#[]⟩ : ByteArray), .int .i64 0, .slice none 0 0, .int .i64 0, .int .i64 0, .int .i64 0]) (t := 50) ?hr ?_; (case hd => rfl); (case hg => rfl); (case hr => first | (go_simp; done) | (go_simp; rfl)); intro gb226 hg w41 hbox hb; have n0_ := Aside0.mk (Kd.S_below (Kd.S_elderB (by (with_reducible repeat (first | apply Kd.S_alloc | apply Kd.S_drewN | apply Kd.S_drew)); exact HO_5.out) gb226 (Nat.le_of_eq hg.symm)) hb); have n1_ := Aside0.mk (Kd.R_below (by (with_reducible repeat (first | apply Kd.R_alloc | apply Kd.R_drewN | apply Kd.R_drew)); exact HO_8.out) hb); have n2_ := Aside0.mk (Kd.R_below (by (with_reducible repeat (first | apply Kd.R_alloc | apply Kd.R_drewN | apply Kd.R_drew)); exact HO220.out) hb); have n3_ := Aside0.mk (below_step (by repeat (first | (with_reducible first | exact HB.out | apply below_alloc | apply pw_below_drewN | apply below_drew1) | exact HB.out)) hb); have n4_ := Aside0.mk (hbox); have n5_ := Aside0.mk ((by rw [hg]; exact (below_size (by repeat (first | (with_reducible first | exact HB.out | apply below_alloc | apply pw_below_drewN | apply below_drew1) | exact HB.out))) : w.heap.size ≤ gb226)); have n6_ := Aside0.mk ((by rw [hg]; exact (below_size (by repeat (first | (with_reducible first | exact HB.out | apply below_alloc | apply pw_below_drewN | apply below_drew1) | exact HB.out))) : w.heap.size ≤ gb226)); clear HO_5; clear HO_8; clear HO220; clear HB; have HO_5 := n0_; have HO_8 := n1_; have HO220 := n2_; have HB := n3_; have BK226 := n4_; have GW226 := n5_; have GE226 := n6_; clear n0_ n1_ n2_ n3_ n4_ n5_ n6_; clear hb hbox hg; have hcz42_0 : w41.cell? ⟨gb226, 0, none⟩ = some (.int .i64 0) := (blk_cell BK226.out 0).trans rfl; have hcz42_1 : w41.cell? ⟨gb226, 1, none⟩ = some (.string (⟨#[]⟩ : ByteArray)) := (blk_cell BK226.out 1).trans rfl; have hcz42_2 : w41.cell? ⟨gb226, 2, none⟩ = some (.int .i64 0) := (blk_cell BK226.out 2).trans rfl; have hcz42_3 : w41.cell? ⟨gb226, 3, none⟩ = some (.slice none 0 0) := (blk_cell BK226.out 3).trans rfl; have hcz42_4 : w41.cell? ⟨gb226, 4, none⟩ = some (.int .i64 0) := (blk_cell BK226.out 4).trans rfl; have hcz42_5 : w41.cell? ⟨gb226, 5, none⟩ = some (.int .i64 0) := (blk_cell BK226.out 5).trans rfl; have hcz42_6 : w41.cell? ⟨gb226, 6, none⟩ = some (.int .i64 0) := (blk_cell BK226.out 6).trans rfl; have hfz42_0 := blk_frozen BK226.out 0; have hfz42_1 := blk_frozen BK226.out 1; have hfz42_2 := blk_frozen BK226.out 2; have hfz42_3 := blk_frozen BK226.out 3; have hfz42_4 := blk_frozen BK226.out 4; have hfz42_5 := blk_frozen BK226.out 5; have hfz42_6 := blk_frozen BK226.out 6; obtain ⟨Ao43, co43, eo43⟩ := Kd.R_slice HO220.out; subst eo43))
                go_ret3
                exact ⟨_, by first | rfl | (simp [errW_none, errW_some] <;> rfl) | (simp [*, errW_none, errW_some] <;> rfl), by (with_reducible repeat (first | apply Kd.S_alloc | apply Kd.S_drewN | apply Kd.S_drew)); exact Kd.S_mono (Kd.S_far (p := ⟨gb226, 6, none⟩) (Kd.S_far (p := ⟨gb226, 5, none⟩) (Kd.S_far (p := ⟨gb226, 4, none⟩) (Kd.S_far (p := ⟨gb226, 3, none⟩) (Kd.S_far (p := ⟨gb226, 2, none⟩) (Kd.S_far (p := ⟨gb226, 1, none⟩) (Kd.S_far (p := ⟨gb226, 0, none⟩) (Kd.S_mono HO_5.out (fun k_ hk => (⟨hk, hk.2⟩ : _ ∧ k_ ≠ gb226))) (fun _ hk => hk.2) (.int .i64 t215)) (fun _ hk => hk.2) (.string t216)) (fun _ hk => hk.2) (.int .i64 t217)) (fun _ hk => hk.2) (.slice Ao43 t218.length co43)) (fun _ hk => hk.2) (.int .i64 t221)) (fun _ hk => hk.2) (.int .i64 t222)) (fun _ hk => hk.2) (.int .i64 t223)) (fun _ hk => trivial), by repeat (first | (with_reducible first | exact HB.out | apply below_alloc | apply pw_below_drewN | apply below_drew1 | refine below_set ?_ GE226.out) | exact HB.out)⟩
              ·rw [if_neg c23] at H
               have c23b0 : decide (0 < (t209.length : Int)) = false := decide_eq_false c23
               have c23b1 : decide (0 < t209.length) = false := decide_eq_false (by omega)
               clear c23
               have H' := Aside0.mk H
               clear H
               obtain ⟨Ao44, co44, eo44⟩ := Kd.R_slice HO_8.out
               subst eo44
               go_wp2
               repeat (go_quiet (fail); try go_wp2)
               go_roundg kj13
               case measure => have := HK1.out; have := HJ3.out; have := HJ13.out; omega
               case rel => exact ⟨(x5_1), (wrap64 (x7_3 + 1)), (by first | rfl | (simp; done) | (simp [*]; done)), H', ⟨by have := HK1.out; have := HJ3.out; have := HJ13.out; omega⟩, ⟨by (with_reducible repeat (first | apply Kd.S_alloc | apply Kd.S_drewN | apply Kd.S_drew)); exact HO_5.out⟩, ⟨by repeat (first | (with_reducible first | exact HB.out | apply below_alloc | apply pw_below_drewN | apply below_drew1) | exact HB.out)⟩⟩
          ·rw [if_neg c13] at H
           have c13b0 : (t211 == 0) = false := beq_eq_false_iff_ne.mpr c13
           have c13b1 : (t211 != 0) = true := bne_iff_ne.mpr c13
           simp only [Option.some.injEq, Prod.mk.injEq] at H
           obtain ⟨rfl, rfl, rfl⟩ := H
           go_wp2_with (first | (go_at_call 12; (with_reducible refine (carcanetref02_Lex.calls kj3 (a0.extract (x6_1 : Int).toNat (x7_3 : Int).toNat) t209 t210 t211 _ A12.out).mono ?_); rintro e w45 ⟨v212, rfl, ho0, hb⟩; have n0_ := Aside0.mk (Kd.S_below (by (with_reducible repeat (first | apply Kd.S_alloc | apply Kd.S_drewN | apply Kd.S_drew)); exact HO_5.out) hb); have n1_ := Aside0.mk (Kd.R_lower ho0 (below_size (by repeat (first | (with_reducible first | exact HB.out | apply below_alloc | apply pw_below_drewN | apply below_drew1) | exact HB.out)))); have n2_ := Aside0.mk (below_step (by repeat (first | (with_reducible first | exact HB.out | apply below_alloc | apply pw_below_drewN | apply below_drew1) | exact HB.out)) hb); clear HO_5; clear HB; have HO_5 := n0_; have HO213 := n1_; have HB := n2_; clear n0_ n1_ n2_; (try clear hb); (try clear hb2); (try clear hk); (try clear hi); (try clear ho0)))
           go_ret3
           exact ⟨_, by first | rfl | (simp [errW_none, errW_some] <;> rfl) | (simp [*, errW_none, errW_some] <;> rfl), by (with_reducible repeat (first | apply Kd.S_alloc | apply Kd.S_drewN | apply Kd.S_drew)); exact HO_5.out, by repeat (first | (with_reducible first | exact HB.out | apply below_alloc | apply pw_below_drewN | apply below_drew1) | exact HB.out)⟩
         ·rw [if_neg c11] at H
          exact absurd H (by simp)
        ·rw [if_neg c10] at H
         exact absurd H (by simp)
       ·rw [if_neg c9] at H
        exact absurd H (by simp)
    ·rw [if_neg c3] at H
     have c3b0 : decide (x6_1 < (a0.size : Int)) = false := decide_eq_false c3
     clear c3
     simp only [Option.some.injEq, Prod.mk.injEq] at H
     obtain ⟨rfl, rfl, rfl⟩ := H
     go_wp2
     repeat (go_quiet (fail); try go_wp2)
     go_ret3
     exact ⟨_, by first | rfl | (simp [errW_none, errW_some] <;> rfl) | (simp [*, errW_none, errW_some] <;> rfl), by (with_reducible repeat (first | apply Kd.S_alloc | apply Kd.S_drewN | apply Kd.S_drew)); exact HO_5.out, by repeat (first | (with_reducible first | exact HB.out | apply below_alloc | apply pw_below_drewN | apply below_drew1) | exact HB.out)⟩

/-! ### carcanetref03_SameEdges: function 58 -/
def carcanetref03_SameEdges.l0 : Nat → List (S64) → List (S64) → Int → Option (Bool)
 | 0, _, _, _ => none
 | k + 1, x0, x1, x5 => if x5 < (x0.length : Int) then (if 0 ≤ x5 then (if x5 < (x1.length : Int) then (if (!(((rd_T64 x0 x5).f0) == ((rd_T64 x1 x5).f0)) || (!(((rd_T64 x0 x5).f1) == ((rd_T64 x1 x5).f1)))) = true then (some false) else (carcanetref03_SameEdges.l0 k x0 x1 (wrap64 (x5 + 1)))) else (none)) else (none)) else (some true)
def carcanetref03_SameEdges.f (k : Nat) (l0 : List (S64)) (l1 : List (S64)) : Option (Bool) := if (l0.length : Int) = (l1.length : Int) then (carcanetref03_SameEdges.l0 k l0 l1 0) else (some false)
theorem carcanetref03_SameEdges.mono_l : ∀ k, (∀ y0 y1 y2, LeO (carcanetref03_SameEdges.l0 k y0 y1 y2) (carcanetref03_SameEdges.l0 (k + 1) y0 y1 y2))
 | 0 => fun _ _ _ r h => by simp [carcanetref03_SameEdges.l0] at h
 | k + 1 => by
  have ih0 := carcanetref03_SameEdges.mono_l k
  ·intro y0 y1 y2
   unfold carcanetref03_SameEdges.l0
   repeat' first
   | (with_reducible exact ih0 _ _ _)
   | (with_reducible exact LeO.refl _)
   | (with_reducible exact LeO.none _)
   | (with_reducible refine LeO.ite ?_ ?_)
   | (with_reducible refine LeO.bind ?_ (fun _ => ?_))
   | exact ih0 _ _ _
   | exact LeO.none _
   | refine LeO.ite ?_ ?_
   | refine LeO.bind ?_ (fun _ => ?_)
theorem carcanetref03_SameEdges.mono : ∀ a0 a1 k, LeO (carcanetref03_SameEdges.f k a0 a1) (carcanetref03_SameEdges.f (k + 1) a0 a1) := by
 intro a0 a1 k
 have ih0 := carcanetref03_SameEdges.mono_l k
 unfold carcanetref03_SameEdges.f
 repeat' first
   | (with_reducible exact ih0 _ _ _)
   | (with_reducible exact LeO.refl _)
   | (with_reducible exact LeO.none _)
   | (with_reducible refine LeO.ite ?_ ?_)
   | (with_reducible refine LeO.bind ?_ (fun _ => ?_))
   | exact ih0 _ _ _
   | exact LeO.none _
   | refine LeO.ite ?_ ?_
   | refine LeO.bind ?_ (fun _ => ?_)
set_option maxHeartbeats 8000000 in
set_option maxRecDepth 100000 in
theorem carcanetref03_SameEdges.calls (k : Nat) (A0 : Option Addr) (c0 : Nat) (l0 : List (S64)) (A1 : Option Addr) (c1 : Nat) (l1 : List (S64)) (r : Bool) (w : World) (hr0 : Kd.C k64 w A0 l0.length l0) (hc0 : l0.length ≤ c0) (hr1 : Kd.C k64 w A1 l1.length l1) (hc1 : l1.length ≤ c1) (h : carcanetref03_SameEdges.f k l0 l1 = some r) :
  Calls Tryz.prog 58 #[.slice A0 l0.length c0, .slice A1 l1.length c1] w fun e w' => e = .returned (.bool r) ∧ Drawn0 w w' := by
 have hu64 := Tryz.underlying64
 have HR0 := Aside0.mk hr0
 have HC0 := Aside0.mk hc0
 clear hr0 hc0
 have HR1 := Aside0.mk hr1
 have HC1 := Aside0.mk hc1
 clear hr1 hc1
 have H : (if (l0.length : Int) = (l1.length : Int) then (carcanetref03_SameEdges.l0 k l0 l1 0) else (some false)) = some r := h
 clear h
 by_cases c3 : (l0.length : Int) = (l1.length : Int)
 ·rw [if_pos c3] at H
  have c3b0 : ((l0.length : Int) == (l1.length : Int)) = true := beq_iff_eq.mpr c3
  have c3b1 : ((l0.length : Int) != (l1.length : Int)) = false := bne_eq_false_iff_eq.mpr c3
  have c3b2 : (l0.length == l1.length) = true := by first | simpa using c3 | (simp at c3 ⊢; omega)
  clear c3
  have H' := Aside0.mk H
  clear H
  go_enter Tryz.func58, Tryz.ntmps58
  go_wp2
  repeat (go_quiet (fail); try go_wp2)
  go_loopg [5] k (fun kq v5 w' => ∃ (x5_1 : Int), v5 = .int .i64 x5_1 ∧ Aside0 (carcanetref03_SameEdges.l0 kq l0 l1 x5_1 = some r) ∧ Aside0 (kq ≤ k) ∧ Drawn0 w w')
  case atStart => exact ⟨(0), (by first | rfl | (simp; done) | (simp [*]; done)), H', ⟨Nat.le_refl _⟩, by repeat (first | exact Drawn0.refl _ | apply Drawn0.step)⟩
  case round =>
   clear H'
   try clear c1
   try clear p2
   try clear c3
   try clear c3b0
   try clear c3b1
   try clear c3b2
   obtain ⟨x5_1, rfl, HA, HK1, ⟨m1, rfl⟩⟩ := hrel
   cases gk with
   | zero => exact absurd HA.out (by simp [carcanetref03_SameEdges.l0])
   | succ k1 =>
    have H := HA.out
    clear HA
    simp only [carcanetref03_SameEdges.l0] at H
    by_cases c4 : x5_1 < (l0.length : Int)
    ·rw [if_pos c4] at H
     have c4b0 : decide (x5_1 < (l0.length : Int)) = true := decide_eq_true c4
     clear c4
     by_cases c5 : 0 ≤ x5_1
     ·rw [if_pos c5] at H
      have c5b0 : decide (0 ≤ x5_1) = true := decide_eq_true c5
      clear c5
      by_cases c6 : x5_1 < (l1.length : Int)
      ·rw [if_pos c6] at H
       have c6b0 : decide (x5_1 < (l1.length : Int)) = true := decide_eq_true c6
       clear c6
       by_cases c7 : (!(((rd_T64 l0 x5_1).f0) == ((rd_T64 l1 x5_1).f0)) || (!(((rd_T64 l0 x5_1).f1) == ((rd_T64 l1 x5_1).f1)))) = true
       ·rw [if_pos c7] at H
        have c7b0 : (!(((rd_T64 l0 x5_1).f0) == ((rd_T64 l1 x5_1).f0)) || (!(((rd_T64 l0 x5_1).f1) == ((rd_T64 l1 x5_1).f1)))) = true := c7
        clear c7
        obtain rfl := Option.some.inj H
        have p230 : 0 ≤ (x5_1 : Int) := of_decide_eq_true (by first | (with_reducible assumption) | assumption)
        have q230 : x5_1 < (l0.length : Int) := of_decide_eq_true (by first | (with_reducible assumption) | assumption)
        obtain ⟨ad230, e230, hx230_0, hx230_1⟩ := at_T64 HR0.out x5_1 p230 q230
        cases e230
        replace p230 := eq_true p230
        replace q230 := eq_true q230
        have p231 : 0 ≤ (x5_1 : Int) := of_decide_eq_true (by first | (with_reducible assumption) | assumption)
        have q231 : x5_1 < (l1.length : Int) := of_decide_eq_true (by first | (with_reducible assumption) | assumption)
        obtain ⟨ad231, e231, hx231_0, hx231_1⟩ := at_T64 HR1.out x5_1 p231 q231
        cases e231
        replace p231 := eq_true p231
        replace q231 := eq_true q231
        go_wp2
        repeat (go_quiet (fail); try go_wp2)
        go_ret
        exact ⟨by first | rfl | (simp; done) | (simp [*]; done), by repeat (first | exact Drawn0.refl _ | apply Drawn0.step)⟩
       ·rw [if_neg c7] at H
        have c7b0 : (!(((rd_T64 l0 x5_1).f0) == ((rd_T64 l1 x5_1).f0)) || (!(((rd_T64 l0 x5_1).f1) == ((rd_T64 l1 x5_1).f1)))) = false := by simpa using c7
        clear c7
        have H' := Aside0.mk H
        clear H
        have p230 : 0 ≤ (x5_1 : Int) := of_decide_eq_true (by first | (with_reducible assumption) | assumption)
        have q230 : x5_1 < (l0.length : Int) := of_decide_eq_true (by first | (with_reducible assumption) | assumption)
        obtain ⟨ad230, e230, hx230_0, hx230_1⟩ := at_T64 HR0.out x5_1 p230 q230
        cases e230
        replace p230 := eq_true p230
        replace q230 := eq_true q230
        have p231 : 0 ≤ (x5_1 : Int) := of_decide_eq_true (by first | (with_reducible assumption) | assumption)
        have q231 : x5_1 < (l1.length : Int) := of_decide_eq_true (by first | (with_reducible assumption) | assumption)
        obtain ⟨ad231, e231, hx231_0, hx231_1⟩ := at_T64 HR1.out x5_1 p231 q231
        cases e231
        replace p231 := eq_true p231
        replace q231 := eq_true q231
        go_wp2
        repeat (go_quiet (fail); try go_wp2)
        go_roundg k1
        case measure => have := HK1.out; omega
        case rel => exact ⟨(wrap64 (x5_1 + 1)), (by first | rfl | (simp; done) | (simp [*]; done)), H', ⟨by have := HK1.out; omega⟩, by repeat (first | exact Drawn0.refl _ | apply Drawn0.step)⟩
      ·rw [if_neg c6] at H
       exact absurd H (by simp)
     ·rw [if_neg c5] at H
      exact absurd H (by simp)
    ·rw [if_neg c4] at H
     have c4b0 : decide (x5_1 < (l0.length : Int)) = false := decide_eq_false c4
     clear c4
     obtain rfl := Option.some.inj H
     go_wp2
     repeat (go_quiet (fail); try go_wp2)
     go_ret
     exact ⟨by first | rfl | (simp; done) | (simp [*]; done), by repeat (first | exact Drawn0.refl _ | apply Drawn0.step)⟩
 ·rw [if_neg c3] at H
  have c3b0 : ((l0.length : Int) == (l1.length : Int)) = false := beq_eq_false_iff_ne.mpr c3
  have c3b1 : ((l0.length : Int) != (l1.length : Int)) = true := bne_iff_ne.mpr c3
  have c3b2 : (l0.length == l1.length) = false := by first | simpa using c3 | (simp at c3 ⊢; omega)
  obtain rfl := Option.some.inj H
  go_enter Tryz.func58, Tryz.ntmps58
  go_wp2
  repeat (go_quiet (fail); try go_wp2)
  go_ret
  exact ⟨by first | rfl | (simp; done) | (simp [*]; done), by repeat (first | exact Drawn0.refl _ | apply Drawn0.step)⟩

/-! ### carcanetref03_SameGraph: function 41 -/
def carcanetref03_SameGraph.f (k : Nat) (a0_0 : Int) (l0_1 : List (S64)) (a1_0 : Int) (l1_1 : List (S64)) : Option (Bool) := if a0_0 = a1_0 then ((carcanetref03_SameEdges.f k l0_1 l1_1).bind fun t234 => (some t234)) else (some false)
theorem carcanetref03_SameGraph.mono : ∀ a0 a1 a2 a3 k, LeO (carcanetref03_SameGraph.f k a0 a1 a2 a3) (carcanetref03_SameGraph.f (k + 1) a0 a1 a2 a3) := by
 intro a0 a1 a2 a3 k
 unfold carcanetref03_SameGraph.f
 repeat' first
   | (with_reducible exact carcanetref03_SameEdges.mono _ _ _)
   | (with_reducible exact LeO.refl _)
   | (with_reducible exact LeO.none _)
   | (with_reducible refine LeO.ite ?_ ?_)
   | (with_reducible refine LeO.bind ?_ (fun _ => ?_))
   | exact carcanetref03_SameEdges.mono _ _ _
   | exact LeO.none _
   | refine LeO.ite ?_ ?_
   | refine LeO.bind ?_ (fun _ => ?_)
set_option maxHeartbeats 8000000 in
set_option maxRecDepth 100000 in
theorem carcanetref03_SameGraph.calls (k : Nat) (a0_0 : Int) (A0_1 : Option Addr) (c0_1 : Nat) (l0_1 : List (S64)) (a1_0 : Int) (A1_1 : Option Addr) (c1_1 : Nat) (l1_1 : List (S64)) (r : Bool) (w : World) (hr0_1 : Kd.C k64 w A0_1 l0_1.length l0_1) (hc0_1 : l0_1.length ≤ c0_1) (hr1_1 : Kd.C k64 w A1_1 l1_1.length l1_1) (hc1_1 : l1_1.length ≤ c1_1) (h : carcanetref03_SameGraph.f k a0_0 l0_1 a1_0 l1_1 = some r) :
  Calls Tryz.prog 41 #[.agg #[.int .i64 a0_0, .slice A0_1 l0_1.length c0_1], .agg #[.int .i64 a1_0, .slice A1_1 l1_1.length c1_1]] w fun e w' => e = .returned (.bool r) ∧ Below w.heap.size w w' := by
 have hu34 := Tryz.underlying34
 have HR0_1 := Aside0.mk hr0_1
 have HC0_1 := Aside0.mk hc0_1
 clear hr0_1 hc0_1
 have HR1_1 := Aside0.mk hr1_1
 have HC1_1 := Aside0.mk hc1_1
 clear hr1_1 hc1_1
 have HB := Aside0.mk (Below.refl w.heap.size w)
 have H : (if a0_0 = a1_0 then ((carcanetref03_SameEdges.f k l0_1 l1_1).bind fun t234 => (some t234)) else (some false)) = some r := h
 clear h
 by_cases c3 : a0_0 = a1_0
 ·rw [if_pos c3] at H
  have c3b0 : (a0_0 == a1_0) = true := beq_iff_eq.mpr c3
  have c3b1 : (a0_0 != a1_0) = false := bne_eq_false_iff_eq.mpr c3
  clear c3
  replace H := Option.bind_eq_some_iff.mp H
  obtain ⟨t234, A40, H⟩ := H
  replace H : (some t234) = some r := H
  have A4 := Aside0.mk A40
  clear A40
  obtain rfl := Option.some.inj H
  go_enter Tryz.func41, Tryz.ntmps41
  go_wp2_with (first | ((with_reducible refine gate_dst (N := 2) rfl ?_); refine box_event ?hg (N := 2) ?hd (cs := #[.int .i64 a0_0, .slice A0_1 l0_1.length c0_1]) (t := 34) ?hr ?_; (case hd => rfl); (case hg => rfl); (case hr => first | (go_simp; done) | (go_simp; rfl)); intro gb232 hg w5 hbox hb; have n0_ := Aside0.mk (below_step (by repeat (first | (with_reducible first | exact HB.out | apply below_alloc | apply pw_below_drewN | apply below_drew1) | exact HB.out)) hb); have n1_ := Aside0.mk (hbox); have n2_ := Aside0.mk ((by rw [hg]; exact (below_size (by repeat (first | (with_reducible first | exact HB.out | apply below_alloc | apply pw_below_drewN | apply below_drew1) | exact HB.out))) : w.heap.size ≤ gb232)); have n3_ := Aside0.mk ((by rw [hg]; exact (below_size (by repeat (first | (with_reducible first | exact HB.out | apply below_alloc | apply pw_below_drewN | apply below_drew1) | exact HB.out))) : w.heap.size ≤ gb232)); clear HB; have HB := n0_; have BK232 := n1_; have GW232 := n2_; have GE232 := n3_; clear n0_ n1_ n2_ n3_; clear hb hbox hg) | ((with_reducible refine gate_dst (N := 3) rfl ?_); refine box_event ?hg (N := 3) ?hd (cs := #[.int .i64 a1_0, .slice A1_1 l1_1.length c1_1]) (t := 34) ?hr ?_; (case hd => rfl); (case hg => rfl); (case hr => first | (go_simp; done) | (go_simp; rfl)); intro gb233 hg w6 hbox hb; have n0_ := Aside0.mk (blk_below (g := gb232) (o := .cells #[.int .i64 a0_0, .slice A0_1 l0_1.length c0_1] 34 (0, 0)) (by (with_reducible repeat (first | refine blk_drewN ?_ _ | refine blk_drew ?_ | refine blk_alloc ?_ _)); exact BK232.out) hb); have n1_ := Aside0.mk (below_step (by repeat (first | (with_reducible first | exact HB.out | apply below_alloc | apply pw_below_drewN | apply below_drew1 | refine below_set ?_ GE232.out) | exact HB.out)) hb); have n2_ := Aside0.mk (hbox); have n3_ := Aside0.mk ((by rw [hg]; exact (below_size (by repeat (first | (with_reducible first | exact HB.out | apply below_alloc | apply pw_below_drewN | apply below_drew1 | refine below_set ?_ GE232.out) | exact HB.out))) : w.heap.size ≤ gb233)); have n4_ := Aside0.mk ((by rw [hg]; exact (below_size (by repeat (first | (with_reducible first | exact HB.out | apply below_alloc | apply pw_below_drewN | apply below_drew1 | refine below_set ?_ GE232.out) | exact HB.out))) : w.heap.size ≤ gb233)); have n5_ := Aside0.mk ((by rw [hg]; exact Nat.ne_of_lt (blk_lt (g := gb232) (o := .cells #[.int .i64 a0_0, .slice A0_1 l0_1.length c0_1] 34 (0, 0)) (by (with_reducible repeat (first | refine blk_drewN ?_ _ | refine blk_drew ?_ | refine blk_alloc ?_ _)); exact BK232.out)) : gb232 ≠ gb233)); have n6_ := Aside0.mk ((by rw [hg]; exact Nat.ne_of_gt (blk_lt (g := gb232) (o := .cells #[.int .i64 a0_0, .slice A0_1 l0_1.length c0_1] 34 (0, 0)) (by (with_reducible repeat (first | refine blk_drewN ?_ _ | refine blk_drew ?_ | refine blk_alloc ?_ _)); exact BK232.out)) : gb233 ≠ gb232)); clear BK232; clear HB; have BK232 := n0_; have HB := n1_; have BK233 := n2_; have GW233 := n3_; have GE233 := n4_; have NB232_233 := n5_; have NB233_232 := n6_; clear n0_ n1_ n2_ n3_ n4_ n5_ n6_; clear hb hbox hg; have hnb7 := NB232_233.out; have hnc7 := NB233_232.out; have hcz8_0 : w6.cell? ⟨gb232, 0, none⟩ = some (.int .i64 a0_0) := (blk_cell BK232.out 0).trans rfl; have hcz8_1 : w6.cell? ⟨gb232, 1, none⟩ = some (.slice A0_1 l0_1.length c0_1) := (blk_cell BK232.out 1).trans rfl; have hfz8_0 := blk_frozen BK232.out 0; have hfz8_1 := blk_frozen BK232.out 1; have hcz9_0 : w6.cell? ⟨gb233, 0, none⟩ = some (.int .i64 a1_0) := (blk_cell BK233.out 0).trans rfl; have hcz9_1 : w6.cell? ⟨gb233, 1, none⟩ = some (.slice A1_1 l1_1.length c1_1) := (blk_cell BK233.out 1).trans rfl; have hfz9_0 := blk_frozen BK233.out 0; have hfz9_1 := blk_frozen BK233.out 1) | (go_at_call 58; (with_reducible refine (carcanetref03_SameEdges.calls k _ _ l0_1 _ _ l1_1 t234 _ ?side1 ?side2 ?side3 ?side4 A4.out).mono ?_); (case side1 => repeat (first | exact (Kd.C_below HR0_1.out HB.out) | (with_reducible refine Kd.C_alloc ?_ _) | (with_reducible refine Kd.C_drewN ?_ _) | (with_reducible refine Kd.C_drew ?_))); (case side2 => exact HC0_1.out); (case side3 => repeat (first | exact (Kd.C_below HR1_1.out HB.out) | (with_reducible refine Kd.C_alloc ?_ _) | (with_reducible refine Kd.C_drewN ?_ _) | (with_reducible refine Kd.C_drew ?_))); (case side4 => exact HC1_1.out); rintro e w' ⟨rfl, ⟨nd, rfl⟩⟩))
  go_ret
  exact ⟨by first | rfl | (simp [errW_none, errW_some] <;> rfl) | (simp [*, errW_none, errW_some] <;> rfl), by repeat (first | (with_reducible first | exact HB.out | apply below_alloc | apply pw_below_drewN | apply below_drew1 | refine below_set ?_ GE232.out | refine below_set ?_ GE233.out) | exact HB.out)⟩
 ·rw [if_neg c3] at H
  have c3b0 : (a0_0 == a1_0) = false := beq_eq_false_iff_ne.mpr c3
  have c3b1 : (a0_0 != a1_0) = true := bne_iff_ne.mpr c3
  obtain rfl := Option.some.inj H
  go_enter Tryz.func41, Tryz.ntmps41
  go_wp2_with (first | ((with_reducible refine gate_dst (N := 2) rfl ?_); refine box_event ?hg (N := 2) ?hd (cs := #[.int .i64 a0_0, .slice A0_1 l0_1.length c0_1]) (t := 34) ?hr ?_; (case hd => rfl); (case hg => rfl); (case hr => first | (go_simp; done) | (go_simp; rfl)); intro gb232 hg w10 hbox hb; have n0_ := Aside0.mk (below_step (by repeat (first | (with_reducible first | exact HB.out | apply below_alloc | apply pw_below_drewN | apply below_drew1) | exact HB.out)) hb); have n1_ := Aside0.mk (hbox); have n2_ := Aside0.mk ((by rw [hg]; exact (below_size (by repeat (first | (with_reducible first | exact HB.out | apply below_alloc | apply pw_below_drewN | apply below_drew1) | exact HB.out))) : w.heap.size ≤ gb232)); have n3_ := Aside0.mk ((by rw [hg]; exact (below_size (by repeat (first | (with_reducible first | exact HB.out | apply below_alloc | apply pw_below_drewN | apply below_drew1) | exact HB.out))) : w.heap.size ≤ gb232)); clear HB; have HB := n0_; have BK232 := n1_; have GW232 := n2_; have GE232 := n3_; clear n0_ n1_ n2_ n3_; clear hb hbox hg) | ((with_reducible refine gate_dst (N := 3) rfl ?_); refine box_event ?hg (N := 3) ?hd (cs := #[.int .i64 a1_0, .slice A1_1 l1_1.length c1_1]) (t := 34) ?hr ?_; (case hd => rfl); (case hg => rfl); (case hr => first | (go_simp; done) | (go_simp; rfl)); intro gb233 hg w11 hbox hb; have n0_ := Aside0.mk (blk_below (g := gb232) (o := .cells #[.int .i64 a0_0, .slice A0_1 l0_1.length c0_1] 34 (0, 0)) (by (with_reducible repeat (first | refine blk_drewN ?_ _ | refine blk_drew ?_ | refine blk_alloc ?_ _)); exact BK232.out) hb); have n1_ := Aside0.mk (below_step (by repeat (first | (with_reducible first | exact HB.out | apply below_alloc | apply pw_below_drewN | apply below_drew1 | refine below_set ?_ GE232.out) | exact HB.out)) hb); have n2_ := Aside0.mk (hbox); have n3_ := Aside0.mk ((by rw [hg]; exact (below_size (by repeat (first | (with_reducible first | exact HB.out | apply below_alloc | apply pw_below_drewN | apply below_drew1 | refine below_set ?_ GE232.out) | exact HB.out))) : w.heap.size ≤ gb233)); have n4_ := Aside0.mk ((by rw [hg]; exact (below_size (by repeat (first | (with_reducible first | exact HB.out | apply below_alloc | apply pw_below_drewN | apply below_drew1 | refine below_set ?_ GE232.out) | exact HB.out))) : w.heap.size ≤ gb233)); have n5_ := Aside0.mk ((by rw [hg]; exact Nat.ne_of_lt (blk_lt (g := gb232) (o := .cells #[.int .i64 a0_0, .slice A0_1 l0_1.length c0_1] 34 (0, 0)) (by (with_reducible repeat (first | refine blk_drewN ?_ _ | refine blk_drew ?_ | refine blk_alloc ?_ _)); exact BK232.out)) : gb232 ≠ gb233)); have n6_ := Aside0.mk ((by rw [hg]; exact Nat.ne_of_gt (blk_lt (g := gb232) (o := .cells #[.int .i64 a0_0, .slice A0_1 l0_1.length c0_1] 34 (0, 0)) (by (with_reducible repeat (first | refine blk_drewN ?_ _ | refine blk_drew ?_ | refine blk_alloc ?_ _)); exact BK232.out)) : gb233 ≠ gb232)); clear BK232; clear HB; have BK232 := n0_; have HB := n1_; have BK233 := n2_; have GW233 := n3_; have GE233 := n4_; have NB232_233 := n5_; have NB233_232 := n6_; clear n0_ n1_ n2_ n3_ n4_ n5_ n6_; clear hb hbox hg; have hnb12 := NB232_233.out; have hnc12 := NB233_232.out; have hcz13_0 : w11.cell? ⟨gb232, 0, none⟩ = some (.int .i64 a0_0) := (blk_cell BK232.out 0).trans rfl; have hcz13_1 : w11.cell? ⟨gb232, 1, none⟩ = some (.slice A0_1 l0_1.length c0_1) := (blk_cell BK232.out 1).trans rfl; have hfz13_0 := blk_frozen BK232.out 0; have hfz13_1 := blk_frozen BK232.out 1; have hcz14_0 : w11.cell? ⟨gb233, 0, none⟩ = some (.int .i64 a1_0) := (blk_cell BK233.out 0).trans rfl; have hcz14_1 : w11.cell? ⟨gb233, 1, none⟩ = some (.slice A1_1 l1_1.length c1_1) := (blk_cell BK233.out 1).trans rfl; have hfz14_0 := blk_frozen BK233.out 0; have hfz14_1 := blk_frozen BK233.out 1))
  go_ret
  exact ⟨by first | rfl | (simp [errW_none, errW_some] <;> rfl) | (simp [*, errW_none, errW_some] <;> rfl), by repeat (first | (with_reducible first | exact HB.out | apply below_alloc | apply pw_below_drewN | apply below_drew1 | refine below_set ?_ GE232.out | refine below_set ?_ GE233.out) | exact HB.out)⟩

/-! ### carcanetref25_Same: function 14 -/
def carcanetref25_Same.f (k : Nat) (a0_0 : Int) (a0_1 : ByteArray) (a0_2 : Int) (l0_3 : List (S64)) (a0_4 : Int) (a0_5 : Int) (a0_6 : Int) (a1_0 : Int) (a1_1 : ByteArray) (a1_2 : Int) (l1_3 : List (S64)) (a1_4 : Int) (a1_5 : Int) (a1_6 : Int) : Option (Bool) := if a0_0 = a1_0 then (if a0_1.toList = a1_1.toList then (if a0_4 = a1_4 then (if a0_5 = a1_5 then (if a0_6 = a1_6 then ((carcanetref03_SameGraph.f k a0_2 l0_3 a1_2 l1_3).bind fun t237 => (some t237)) else (some false)) else (some false)) else (some false)) else (some false)) else (some false)
theorem carcanetref25_Same.mono : ∀ a0 a1 a2 a3 a4 a5 a6 a7 a8 a9 a10 a11 a12 a13 k, LeO (carcanetref25_Same.f k a0 a1 a2 a3 a4 a5 a6 a7 a8 a9 a10 a11 a12 a13) (carcanetref25_Same.f (k + 1) a0 a1 a2 a3 a4 a5 a6 a7 a8 a9 a10 a11 a12 a13) := by
 intro a0 a1 a2 a3 a4 a5 a6 a7 a8 a9 a10 a11 a12 a13 k
 unfold carcanetref25_Same.f
 repeat' first
   | (with_reducible exact carcanetref03_SameGraph.mono _ _ _ _ _)
   | (with_reducible exact LeO.refl _)
   | (with_reducible exact LeO.none _)
   | (with_reducible refine LeO.ite ?_ ?_)
   | (with_reducible refine LeO.bind ?_ (fun _ => ?_))
   | exact carcanetref03_SameGraph.mono _ _ _ _ _
   | exact LeO.none _
   | refine LeO.ite ?_ ?_
   | refine LeO.bind ?_ (fun _ => ?_)
set_option maxHeartbeats 8000000 in
set_option maxRecDepth 100000 in
theorem carcanetref25_Same.calls (k : Nat) (a0_0 : Int) (a0_1 : ByteArray) (a0_2 : Int) (A0_3 : Option Addr) (c0_3 : Nat) (l0_3 : List (S64)) (a0_4 : Int) (a0_5 : Int) (a0_6 : Int) (a1_0 : Int) (a1_1 : ByteArray) (a1_2 : Int) (A1_3 : Option Addr) (c1_3 : Nat) (l1_3 : List (S64)) (a1_4 : Int) (a1_5 : Int) (a1_6 : Int) (r : Bool) (w : World) (hr0_3 : Kd.C k64 w A0_3 l0_3.length l0_3) (hc0_3 : l0_3.length ≤ c0_3) (hr1_3 : Kd.C k64 w A1_3 l1_3.length l1_3) (hc1_3 : l1_3.length ≤ c1_3) (h : carcanetref25_Same.f k a0_0 a0_1 a0_2 l0_3 a0_4 a0_5 a0_6 a1_0 a1_1 a1_2 l1_3 a1_4 a1_5 a1_6 = some r) :
  Calls Tryz.prog 14 #[.agg #[.int .i64 a0_0, .string a0_1, .int .i64 a0_2, .slice A0_3 l0_3.length c0_3, .int .i64 a0_4, .int .i64 a0_5, .int .i64 a0_6], .agg #[.int .i64 a1_0, .string a1_1, .int .i64 a1_2, .slice A1_3 l1_3.length c1_3, .int .i64 a1_4, .int .i64 a1_5, .int .i64 a1_6]] w fun e w' => e = .returned (.bool r) ∧ Below w.heap.size w w' := by
 have hu50 := Tryz.underlying50
 have hu34 := Tryz.underlying34
 have HR0_3 := Aside0.mk hr0_3
 have HC0_3 := Aside0.mk hc0_3
 clear hr0_3 hc0_3
 have HR1_3 := Aside0.mk hr1_3
 have HC1_3 := Aside0.mk hc1_3
 clear hr1_3 hc1_3
 have HB := Aside0.mk (Below.refl w.heap.size w)
 have H : (if a0_0 = a1_0 then (if a0_1.toList = a1_1.toList then (if a0_4 = a1_4 then (if a0_5 = a1_5 then (if a0_6 = a1_6 then ((carcanetref03_SameGraph.f k a0_2 l0_3 a1_2 l1_3).bind fun t237 => (some t237)) else (some false)) else (some false)) else (some false)) else (some false)) else (some false)) = some r := h
 clear h
 by_cases c3 : a0_0 = a1_0
 ·rw [if_pos c3] at H
  have c3b0 : (a0_0 == a1_0) = true := beq_iff_eq.mpr c3
  have c3b1 : (a0_0 != a1_0) = false := bne_eq_false_iff_eq.mpr c3
  clear c3
  by_cases c4 : a0_1.toList = a1_1.toList
  ·rw [if_pos c4] at H
   have c4b0 : (a0_1.toList == a1_1.toList) = true := beq_iff_eq.mpr c4
   have c4b1 : (a0_1.toList != a1_1.toList) = false := bne_eq_false_iff_eq.mpr c4
   clear c4
   by_cases c5 : a0_4 = a1_4
   ·rw [if_pos c5] at H
    have c5b0 : (a0_4 == a1_4) = true := beq_iff_eq.mpr c5
    have c5b1 : (a0_4 != a1_4) = false := bne_eq_false_iff_eq.mpr c5
    clear c5
    by_cases c6 : a0_5 = a1_5
    ·rw [if_pos c6] at H
     have c6b0 : (a0_5 == a1_5) = true := beq_iff_eq.mpr c6
     have c6b1 : (a0_5 != a1_5) = false := bne_eq_false_iff_eq.mpr c6
     clear c6
     by_cases c7 : a0_6 = a1_6
     ·rw [if_pos c7] at H
      have c7b0 : (a0_6 == a1_6) = true := beq_iff_eq.mpr c7
      have c7b1 : (a0_6 != a1_6) = false := bne_eq_false_iff_eq.mpr c7
      clear c7
      replace H := Option.bind_eq_some_iff.mp H
      obtain ⟨t237, A80, H⟩ := H
      replace H : (some t237) = some r := H
      have A8 := Aside0.mk A80
      clear A80
      obtain rfl := Option.some.inj H
      go_enter Tryz.func14, Tryz.ntmps14
      go_wp2_with (first | ((with_reducible refine gate_dst (N := 2) rfl ?_); refine box_event ?hg (N := 2) ?hd (cs := #[.int .i64 a0_0, .string a0_1, .int .i64 a0_2, .slice A0_3 l0_3.length c0_3, .int .i64 a0_4, .int .i64 a0_5, .int .i64 a0_6]) (t := 50) ?hr ?_; (case hd => rfl); (case hg => rfl); (case hr => first | (go_simp; done) | (go_simp; rfl)); intro gb235 hg w9 hbox hb; have n0_ := Aside0.mk (below_step (by repeat (first | (with_reducible first | exact HB.out | apply below_alloc | apply pw_below_drewN | apply below_drew1) | exact HB.out)) hb); have n1_ := Aside0.mk (hbox); have n2_ := Aside0.mk ((by rw [hg]; exact (below_size (by repeat (first | (with_reducible first | exact HB.out | apply below_alloc | apply pw_below_drewN | apply below_drew1) | exact HB.out))) : w.heap.size ≤ gb235)); have n3_ := Aside0.mk ((by rw [hg]; exact (below_size (by repeat (first | (with_reducible first | exact HB.out | apply below_alloc | apply pw_below_drewN | apply below_drew1) | exact HB.out))) : w.heap.size ≤ gb235)); clear HB; have HB := n0_; have BK235 := n1_; have GW235 := n2_; have GE235 := n3_; clear n0_ n1_ n2_ n3_; clear hb hbox hg) | ((with_reducible refine gate_dst (N := 3) rfl ?_); refine box_event ?hg (N := 3) ?hd (cs := #[.int .i64 a1_0, .string a1_1, .int .i64 a1_2, .slice A1_3 l1_3.length c1_3, .int .i64 a1_4, .int .i64 a1_5, .int .i64 a1_6]) (t := 50) ?hr ?_; (case hd => rfl); (case hg => rfl); (case hr => first | (go_simp; done) | (go_simp; rfl)); intro gb236 hg w10 hbox hb; have n0_ := Aside0.mk (blk_below (g := gb235) (o := .cells #[.int .i64 a0_0, .string a0_1, .int .i64 a0_2, .slice A0_3 l0_3.length c0_3, .int .i64 a0_4, .int .i64 a0_5, .int .i64 a0_6] 50 (0, 0)) (by (with_reducible repeat (first | refine blk_drewN ?_ _ | refine blk_drew ?_ | refine blk_alloc ?_ _)); exact BK235.out) hb); have n1_ := Aside0.mk (below_step (by repeat (first | (with_reducible first | exact HB.out | apply below_alloc | apply pw_below_drewN | apply below_drew1 | refine below_set ?_ GE235.out) | exact HB.out)) hb); have n2_ := Aside0.mk (hbox); have n3_ := Aside0.mk ((by rw [hg]; exact (below_size (by repeat (first | (with_reducible first | exact HB.out | apply below_alloc | apply pw_below_drewN | apply below_drew1 | refine below_set ?_ GE235.out) | exact HB.out))) : w.heap.size ≤ gb236)); have n4_ := Aside0.mk ((by rw [hg]; exact (below_size (by repeat (first | (with_reducible first | exact HB.out | apply below_alloc | apply pw_below_drewN | apply below_drew1 | refine below_set ?_ GE235.out) | exact HB.out))) : w.heap.size ≤ gb236)); have n5_ := Aside0.mk ((by rw [hg]; exact Nat.ne_of_lt (blk_lt (g := gb235) (o := .cells #[.int .i64 a0_0, .string a0_1, .int .i64 a0_2, .slice A0_3 l0_3.length c0_3, .int .i64 a0_4, .int .i64 a0_5, .int .i64 a0_6] 50 (0, 0)) (by (with_reducible repeat (first | refine blk_drewN ?_ _ | refine blk_drew ?_ | refine blk_alloc ?_ _)); exact BK235.out)) : gb235 ≠ gb236)); have n6_ := Aside0.mk ((by rw [hg]; exact Nat.ne_of_gt (blk_lt (g := gb235) (o := .cells #[.int .i64 a0_0, .string a0_1, .int .i64 a0_2, .slice A0_3 l0_3.length c0_3, .int .i64 a0_4, .int .i64 a0_5, .int .i64 a0_6] 50 (0, 0)) (by (with_reducible repeat (first | refine blk_drewN ?_ _ | refine blk_drew ?_ | refine blk_alloc ?_ _)); exact BK235.out)) : gb236 ≠ gb235)); clear BK235; clear HB; have BK235 := n0_; have HB := n1_; have BK236 := n2_; have GW236 := n3_; have GE236 := n4_; have NB235_236 := n5_; have NB236_235 := n6_; clear n0_ n1_ n2_ n3_ n4_ n5_ n6_; clear hb hbox hg; have hnb11 := NB235_236.out; have hnc11 := NB236_235.out; have hcz12_0 : w10.cell? ⟨gb235, 0, none⟩ = some (.int .i64 a0_0) := (blk_cell BK235.out 0).trans rfl; have hcz12_1 : w10.cell? ⟨gb235, 1, none⟩ = some (.string a0_1) := (blk_cell BK235.out 1).trans rfl; have hcz12_2 : w10.cell? ⟨gb235, 2, none⟩ = some (.int .i64 a0_2) := (blk_cell BK235.out 2).trans rfl; have hcz12_3 : w10.cell? ⟨gb235, 3, none⟩ = some (.slice A0_3 l0_3.length c0_3) := (blk_cell BK235.out 3).trans rfl; have hcz12_4 : w10.cell? ⟨gb235, 4, none⟩ = some (.int .i64 a0_4) := (blk_cell BK235.out 4).trans rfl; have hcz12_5 : w10.cell? ⟨gb235, 5, none⟩ = some (.int .i64 a0_5) := (blk_cell BK235.out 5).trans rfl; have hcz12_6 : w10.cell? ⟨gb235, 6, none⟩ = some (.int .i64 a0_6) := (blk_cell BK235.out 6).trans rfl; have hfz12_0 := blk_frozen BK235.out 0; have hfz12_1 := blk_frozen BK235.out 1; have hfz12_2 := blk_frozen BK235.out 2; have hfz12_3 := blk_frozen BK235.out 3; have hfz12_4 := blk_frozen BK235.out 4; have hfz12_5 := blk_frozen BK235.out 5; have hfz12_6 := blk_frozen BK235.out 6; have hcz13_0 : w10.cell? ⟨gb236, 0, none⟩ = some (.int .i64 a1_0) := (blk_cell BK236.out 0).trans rfl; have hcz13_1 : w10.cell? ⟨gb236, 1, none⟩ = some (.string a1_1) := (blk_cell BK236.out 1).trans rfl; have hcz13_2 : w10.cell? ⟨gb236, 2, none⟩ = some (.int .i64 a1_2) := (blk_cell BK236.out 2).trans rfl; have hcz13_3 : w10.cell? ⟨gb236, 3, none⟩ = some (.slice A1_3 l1_3.length c1_3) := (blk_cell BK236.out 3).trans rfl; have hcz13_4 : w10.cell? ⟨gb236, 4, none⟩ = some (.int .i64 a1_4) := (blk_cell BK236.out 4).trans rfl; have hcz13_5 : w10.cell? ⟨gb236, 5, none⟩ = some (.int .i64 a1_5) := (blk_cell BK236.out 5).trans rfl; have hcz13_6 : w10.cell? ⟨gb236, 6, none⟩ = some (.int .i64 a1_6) := (blk_cell BK236.out 6).trans rfl; have hfz13_0 := blk_frozen BK236.out 0; have hfz13_1 := blk_frozen BK236.out 1; have hfz13_2 := blk_frozen BK236.out 2; have hfz13_3 := blk_frozen BK236.out 3; have hfz13_4 := blk_frozen BK236.out 4; have hfz13_5 := blk_frozen BK236.out 5; have hfz13_6 := blk_frozen BK236.out 6) | (go_at_call 41; (with_reducible refine (carcanetref03_SameGraph.calls k a0_2 _ _ l0_3 a1_2 _ _ l1_3 t237 _ ?side1 ?side2 ?side3 ?side4 A8.out).mono ?_); (case side1 => repeat (first | exact (Kd.C_below HR0_3.out HB.out) | (with_reducible refine Kd.C_alloc ?_ _) | (with_reducible refine Kd.C_drewN ?_ _) | (with_reducible refine Kd.C_drew ?_))); (case side2 => exact HC0_3.out); (case side3 => repeat (first | exact (Kd.C_below HR1_3.out HB.out) | (with_reducible refine Kd.C_alloc ?_ _) | (with_reducible refine Kd.C_drewN ?_ _) | (with_reducible refine Kd.C_drew ?_))); (case side4 => exact HC1_3.out); rintro e w14 ⟨rfl, hb⟩; have n0_ := Aside0.mk (blk_below (g := gb235) (o := .cells #[.int .i64 a0_0, .string a0_1, .int .i64 a0_2, .slice A0_3 l0_3.length c0_3, .int .i64 a0_4, .int .i64 a0_5, .int .i64 a0_6] 50 (0, 0)) (by (with_reducible repeat (first | refine blk_drewN ?_ _ | refine blk_drew ?_ | refine blk_alloc ?_ _)); exact BK235.out) hb); have n1_ := Aside0.mk (blk_below (g := gb236) (o := .cells #[.int .i64 a1_0, .string a1_1, .int .i64 a1_2, .slice A1_3 l1_3.length c1_3, .int .i64 a1_4, .int .i64 a1_5, .int .i64 a1_6] 50 (0, 0)) (by (with_reducible repeat (first | refine blk_drewN ?_ _ | refine blk_drew ?_ | refine blk_alloc ?_ _)); exact BK236.out) hb); have n2_ := Aside0.mk (below_step (by repeat (first | (with_reducible first | exact HB.out | apply below_alloc | apply pw_below_drewN | apply below_drew1 | refine below_set ?_ GE235.out | refine below_set ?_ GE236.out) | exact HB.out)) hb); clear BK235; clear BK236; clear HB; have BK235 := n0_; have BK236 := n1_; have HB := n2_; clear n0_ n1_ n2_; (try clear hb); (try clear hb2); (try clear hk); (try clear hi)))
      go_ret
      exact ⟨by first | rfl | (simp [errW_none, errW_some] <;> rfl) | (simp [*, errW_none, errW_some] <;> rfl), by repeat (first | (with_reducible first | exact HB.out | apply below_alloc | apply pw_below_drewN | apply below_drew1 | refine below_set ?_ GE235.out | refine below_set ?_ GE236.out) | exact HB.out)⟩
     ·rw [if_neg c7] at H
      have c7b0 : (a0_6 == a1_6) = false := beq_eq_false_iff_ne.mpr c7
      have c7b1 : (a0_6 != a1_6) = true := bne_iff_ne.mpr c7
      obtain rfl := Option.some.inj H
      go_enter Tryz.func14, Tryz.ntmps14
      go_wp2_with (first | ((with_reducible refine gate_dst (N := 2) rfl ?_); refine box_event ?hg (N := 2) ?hd (cs := #[.int .i64 a0_0, .string a0_1, .int .i64 a0_2, .slice A0_3 l0_3.length c0_3, .int .i64 a0_4, .int .i64 a0_5, .int .i64 a0_6]) (t := 50) ?hr ?_; (case hd => rfl); (case hg => rfl); (case hr => first | (go_simp; done) | (go_simp; rfl)); intro gb235 hg w15 hbox hb; have n0_ := Aside0.mk (below_step (by repeat (first | (with_reducible first | exact HB.out | apply below_alloc | apply pw_below_drewN | apply below_drew1) | exact HB.out)) hb); have n1_ := Aside0.mk (hbox); have n2_ := Aside0.mk ((by rw [hg]; exact (below_size (by repeat (first | (with_reducible first | exact HB.out | apply below_alloc | apply pw_below_drewN | apply below_drew1) | exact HB.out))) : w.heap.size ≤ gb235)); have n3_ := Aside0.mk ((by rw [hg]; exact (below_size (by repeat (first | (with_reducible first | exact HB.out | apply below_alloc | apply pw_below_drewN | apply below_drew1) | exact HB.out))) : w.heap.size ≤ gb235)); clear HB; have HB := n0_; have BK235 := n1_; have GW235 := n2_; have GE235 := n3_; clear n0_ n1_ n2_ n3_; clear hb hbox hg) | ((with_reducible refine gate_dst (N := 3) rfl ?_); refine box_event ?hg (N := 3) ?hd (cs := #[.int .i64 a1_0, .string a1_1, .int .i64 a1_2, .slice A1_3 l1_3.length c1_3, .int .i64 a1_4, .int .i64 a1_5, .int .i64 a1_6]) (t := 50) ?hr ?_; (case hd => rfl); (case hg => rfl); (case hr => first | (go_simp; done) | (go_simp; rfl)); intro gb236 hg w16 hbox hb; have n0_ := Aside0.mk (blk_below (g := gb235) (o := .cells #[.int .i64 a0_0, .string a0_1, .int .i64 a0_2, .slice A0_3 l0_3.length c0_3, .int .i64 a0_4, .int .i64 a0_5, .int .i64 a0_6] 50 (0, 0)) (by (with_reducible repeat (first | refine blk_drewN ?_ _ | refine blk_drew ?_ | refine blk_alloc ?_ _)); exact BK235.out) hb); have n1_ := Aside0.mk (below_step (by repeat (first | (with_reducible first | exact HB.out | apply below_alloc | apply pw_below_drewN | apply below_drew1 | refine below_set ?_ GE235.out) | exact HB.out)) hb); have n2_ := Aside0.mk (hbox); have n3_ := Aside0.mk ((by rw [hg]; exact (below_size (by repeat (first | (with_reducible first | exact HB.out | apply below_alloc | apply pw_below_drewN | apply below_drew1 | refine below_set ?_ GE235.out) | exact HB.out))) : w.heap.size ≤ gb236)); have n4_ := Aside0.mk ((by rw [hg]; exact (below_size (by repeat (first | (with_reducible first | exact HB.out | apply below_alloc | apply pw_below_drewN | apply below_drew1 | refine below_set ?_ GE235.out) | exact HB.out))) : w.heap.size ≤ gb236)); have n5_ := Aside0.mk ((by rw [hg]; exact Nat.ne_of_lt (blk_lt (g := gb235) (o := .cells #[.int .i64 a0_0, .string a0_1, .int .i64 a0_2, .slice A0_3 l0_3.length c0_3, .int .i64 a0_4, .int .i64 a0_5, .int .i64 a0_6] 50 (0, 0)) (by (with_reducible repeat (first | refine blk_drewN ?_ _ | refine blk_drew ?_ | refine blk_alloc ?_ _)); exact BK235.out)) : gb235 ≠ gb236)); have n6_ := Aside0.mk ((by rw [hg]; exact Nat.ne_of_gt (blk_lt (g := gb235) (o := .cells #[.int .i64 a0_0, .string a0_1, .int .i64 a0_2, .slice A0_3 l0_3.length c0_3, .int .i64 a0_4, .int .i64 a0_5, .int .i64 a0_6] 50 (0, 0)) (by (with_reducible repeat (first | refine blk_drewN ?_ _ | refine blk_drew ?_ | refine blk_alloc ?_ _)); exact BK235.out)) : gb236 ≠ gb235)); clear BK235; clear HB; have BK235 := n0_; have HB := n1_; have BK236 := n2_; have GW236 := n3_; have GE236 := n4_; have NB235_236 := n5_; have NB236_235 := n6_; clear n0_ n1_ n2_ n3_ n4_ n5_ n6_; clear hb hbox hg; have hnb17 := NB235_236.out; have hnc17 := NB236_235.out; have hcz18_0 : w16.cell? ⟨gb235, 0, none⟩ = some (.int .i64 a0_0) := (blk_cell BK235.out 0).trans rfl; have hcz18_1 : w16.cell? ⟨gb235, 1, none⟩ = some (.string a0_1) := (blk_cell BK235.out 1).trans rfl; have hcz18_2 : w16.cell? ⟨gb235, 2, none⟩ = some (.int .i64 a0_2) := (blk_cell BK235.out 2).trans rfl; have hcz18_3 : w16.cell? ⟨gb235, 3, none⟩ = some (.slice A0_3 l0_3.length c0_3) := (blk_cell BK235.out 3).trans rfl; have hcz18_4 : w16.cell? ⟨gb235, 4, none⟩ = some (.int .i64 a0_4) := (blk_cell BK235.out 4).trans rfl; have hcz18_5 : w16.cell? ⟨gb235, 5, none⟩ = some (.int .i64 a0_5) := (blk_cell BK235.out 5).trans rfl; have hcz18_6 : w16.cell? ⟨gb235, 6, none⟩ = some (.int .i64 a0_6) := (blk_cell BK235.out 6).trans rfl; have hfz18_0 := blk_frozen BK235.out 0; have hfz18_1 := blk_frozen BK235.out 1; have hfz18_2 := blk_frozen BK235.out 2; have hfz18_3 := blk_frozen BK235.out 3; have hfz18_4 := blk_frozen BK235.out 4; have hfz18_5 := blk_frozen BK235.out 5; have hfz18_6 := blk_frozen BK235.out 6; have hcz19_0 : w16.cell? ⟨gb236, 0, none⟩ = some (.int .i64 a1_0) := (blk_cell BK236.out 0).trans rfl; have hcz19_1 : w16.cell? ⟨gb236, 1, none⟩ = some (.string a1_1) := (blk_cell BK236.out 1).trans rfl; have hcz19_2 : w16.cell? ⟨gb236, 2, none⟩ = some (.int .i64 a1_2) := (blk_cell BK236.out 2).trans rfl; have hcz19_3 : w16.cell? ⟨gb236, 3, none⟩ = some (.slice A1_3 l1_3.length c1_3) := (blk_cell BK236.out 3).trans rfl; have hcz19_4 : w16.cell? ⟨gb236, 4, none⟩ = some (.int .i64 a1_4) := (blk_cell BK236.out 4).trans rfl; have hcz19_5 : w16.cell? ⟨gb236, 5, none⟩ = some (.int .i64 a1_5) := (blk_cell BK236.out 5).trans rfl; have hcz19_6 : w16.cell? ⟨gb236, 6, none⟩ = some (.int .i64 a1_6) := (blk_cell BK236.out 6).trans rfl; have hfz19_0 := blk_frozen BK236.out 0; have hfz19_1 := blk_frozen BK236.out 1; have hfz19_2 := blk_frozen BK236.out 2; have hfz19_3 := blk_frozen BK236.out 3; have hfz19_4 := blk_frozen BK236.out 4; have hfz19_5 := blk_frozen BK236.out 5; have hfz19_6 := blk_frozen BK236.out 6))
      go_ret
      exact ⟨by first | rfl | (simp [errW_none, errW_some] <;> rfl) | (simp [*, errW_none, errW_some] <;> rfl), by repeat (first | (with_reducible first | exact HB.out | apply below_alloc | apply pw_below_drewN | apply below_drew1 | refine below_set ?_ GE235.out | refine below_set ?_ GE236.out) | exact HB.out)⟩
    ·rw [if_neg c6] at H
     have c6b0 : (a0_5 == a1_5) = false := beq_eq_false_iff_ne.mpr c6
     have c6b1 : (a0_5 != a1_5) = true := bne_iff_ne.mpr c6
     obtain rfl := Option.some.inj H
     go_enter Tryz.func14, Tryz.ntmps14
     go_wp2_with (first | ((with_reducible refine gate_dst (N := 2) rfl ?_); refine box_event ?hg (N := 2) ?hd (cs := #[.int .i64 a0_0, .string a0_1, .int .i64 a0_2, .slice A0_3 l0_3.length c0_3, .int .i64 a0_4, .int .i64 a0_5, .int .i64 a0_6]) (t := 50) ?hr ?_; (case hd => rfl); (case hg => rfl); (case hr => first | (go_simp; done) | (go_simp; rfl)); intro gb235 hg w20 hbox hb; have n0_ := Aside0.mk (below_step (by repeat (first | (with_reducible first | exact HB.out | apply below_alloc | apply pw_below_drewN | apply below_drew1) | exact HB.out)) hb); have n1_ := Aside0.mk (hbox); have n2_ := Aside0.mk ((by rw [hg]; exact (below_size (by repeat (first | (with_reducible first | exact HB.out | apply below_alloc | apply pw_below_drewN | apply below_drew1) | exact HB.out))) : w.heap.size ≤ gb235)); have n3_ := Aside0.mk ((by rw [hg]; exact (below_size (by repeat (first | (with_reducible first | exact HB.out | apply below_alloc | apply pw_below_drewN | apply below_drew1) | exact HB.out))) : w.heap.size ≤ gb235)); clear HB; have HB := n0_; have BK235 := n1_; have GW235 := n2_; have GE235 := n3_; clear n0_ n1_ n2_ n3_; clear hb hbox hg) | ((with_reducible refine gate_dst (N := 3) rfl ?_); refine box_event ?hg (N := 3) ?hd (cs := #[.int .i64 a1_0, .string a1_1, .int .i64 a1_2, .slice A1_3 l1_3.length c1_3, .int .i64 a1_4, .int .i64 a1_5, .int .i64 a1_6]) (t := 50) ?hr ?_; (case hd => rfl); (case hg => rfl); (case hr => first | (go_simp; done) | (go_simp; rfl)); intro gb236 hg w21 hbox hb; have n0_ := Aside0.mk (blk_below (g := gb235) (o := .cells #[.int .i64 a0_0, .string a0_1, .int .i64 a0_2, .slice A0_3 l0_3.length c0_3, .int .i64 a0_4, .int .i64 a0_5, .int .i64 a0_6] 50 (0, 0)) (by (with_reducible repeat (first | refine blk_drewN ?_ _ | refine blk_drew ?_ | refine blk_alloc ?_ _)); exact BK235.out) hb); have n1_ := Aside0.mk (below_step (by repeat (first | (with_reducible first | exact HB.out | apply below_alloc | apply pw_below_drewN | apply below_drew1 | refine below_set ?_ GE235.out) | exact HB.out)) hb); have n2_ := Aside0.mk (hbox); have n3_ := Aside0.mk ((by rw [hg]; exact (below_size (by repeat (first | (with_reducible first | exact HB.out | apply below_alloc | apply pw_below_drewN | apply below_drew1 | refine below_set ?_ GE235.out) | exact HB.out))) : w.heap.size ≤ gb236)); have n4_ := Aside0.mk ((by rw [hg]; exact (below_size (by repeat (first | (with_reducible first | exact HB.out | apply below_alloc | apply pw_below_drewN | apply below_drew1 | refine below_set ?_ GE235.out) | exact HB.out))) : w.heap.size ≤ gb236)); have n5_ := Aside0.mk ((by rw [hg]; exact Nat.ne_of_lt (blk_lt (g := gb235) (o := .cells #[.int .i64 a0_0, .string a0_1, .int .i64 a0_2, .slice A0_3 l0_3.length c0_3, .int .i64 a0_4, .int .i64 a0_5, .int .i64 a0_6] 50 (0, 0)) (by (with_reducible repeat (first | refine blk_drewN ?_ _ | refine blk_drew ?_ | refine blk_alloc ?_ _)); exact BK235.out)) : gb235 ≠ gb236)); have n6_ := Aside0.mk ((by rw [hg]; exact Nat.ne_of_gt (blk_lt (g := gb235) (o := .cells #[.int .i64 a0_0, .string a0_1, .int .i64 a0_2, .slice A0_3 l0_3.length c0_3, .int .i64 a0_4, .int .i64 a0_5, .int .i64 a0_6] 50 (0, 0)) (by (with_reducible repeat (first | refine blk_drewN ?_ _ | refine blk_drew ?_ | refine blk_alloc ?_ _)); exact BK235.out)) : gb236 ≠ gb235)); clear BK235; clear HB; have BK235 := n0_; have HB := n1_; have BK236 := n2_; have GW236 := n3_; have GE236 := n4_; have NB235_236 := n5_; have NB236_235 := n6_; clear n0_ n1_ n2_ n3_ n4_ n5_ n6_; clear hb hbox hg; have hnb22 := NB235_236.out; have hnc22 := NB236_235.out; have hcz23_0 : w21.cell? ⟨gb235, 0, none⟩ = some (.int .i64 a0_0) := (blk_cell BK235.out 0).trans rfl; have hcz23_1 : w21.cell? ⟨gb235, 1, none⟩ = some (.string a0_1) := (blk_cell BK235.out 1).trans rfl; have hcz23_2 : w21.cell? ⟨gb235, 2, none⟩ = some (.int .i64 a0_2) := (blk_cell BK235.out 2).trans rfl; have hcz23_3 : w21.cell? ⟨gb235, 3, none⟩ = some (.slice A0_3 l0_3.length c0_3) := (blk_cell BK235.out 3).trans rfl; have hcz23_4 : w21.cell? ⟨gb235, 4, none⟩ = some (.int .i64 a0_4) := (blk_cell BK235.out 4).trans rfl; have hcz23_5 : w21.cell? ⟨gb235, 5, none⟩ = some (.int .i64 a0_5) := (blk_cell BK235.out 5).trans rfl; have hcz23_6 : w21.cell? ⟨gb235, 6, none⟩ = some (.int .i64 a0_6) := (blk_cell BK235.out 6).trans rfl; have hfz23_0 := blk_frozen BK235.out 0; have hfz23_1 := blk_frozen BK235.out 1; have hfz23_2 := blk_frozen BK235.out 2; have hfz23_3 := blk_frozen BK235.out 3; have hfz23_4 := blk_frozen BK235.out 4; have hfz23_5 := blk_frozen BK235.out 5; have hfz23_6 := blk_frozen BK235.out 6; have hcz24_0 : w21.cell? ⟨gb236, 0, none⟩ = some (.int .i64 a1_0) := (blk_cell BK236.out 0).trans rfl; have hcz24_1 : w21.cell? ⟨gb236, 1, none⟩ = some (.string a1_1) := (blk_cell BK236.out 1).trans rfl; have hcz24_2 : w21.cell? ⟨gb236, 2, none⟩ = some (.int .i64 a1_2) := (blk_cell BK236.out 2).trans rfl; have hcz24_3 : w21.cell? ⟨gb236, 3, none⟩ = some (.slice A1_3 l1_3.length c1_3) := (blk_cell BK236.out 3).trans rfl; have hcz24_4 : w21.cell? ⟨gb236, 4, none⟩ = some (.int .i64 a1_4) := (blk_cell BK236.out 4).trans rfl; have hcz24_5 : w21.cell? ⟨gb236, 5, none⟩ = some (.int .i64 a1_5) := (blk_cell BK236.out 5).trans rfl; have hcz24_6 : w21.cell? ⟨gb236, 6, none⟩ = some (.int .i64 a1_6) := (blk_cell BK236.out 6).trans rfl; have hfz24_0 := blk_frozen BK236.out 0; have hfz24_1 := blk_frozen BK236.out 1; have hfz24_2 := blk_frozen BK236.out 2; have hfz24_3 := blk_frozen BK236.out 3; have hfz24_4 := blk_frozen BK236.out 4; have hfz24_5 := blk_frozen BK236.out 5; have hfz24_6 := blk_frozen BK236.out 6))
     go_ret
     exact ⟨by first | rfl | (simp [errW_none, errW_some] <;> rfl) | (simp [*, errW_none, errW_some] <;> rfl), by repeat (first | (with_reducible first | exact HB.out | apply below_alloc | apply pw_below_drewN | apply below_drew1 | refine below_set ?_ GE235.out | refine below_set ?_ GE236.out) | exact HB.out)⟩
   ·rw [if_neg c5] at H
    have c5b0 : (a0_4 == a1_4) = false := beq_eq_false_iff_ne.mpr c5
    have c5b1 : (a0_4 != a1_4) = true := bne_iff_ne.mpr c5
    obtain rfl := Option.some.inj H
    go_enter Tryz.func14, Tryz.ntmps14
    go_wp2_with (first | ((with_reducible refine gate_dst (N := 2) rfl ?_); refine box_event ?hg (N := 2) ?hd (cs := #[.int .i64 a0_0, .string a0_1, .int .i64 a0_2, .slice A0_3 l0_3.length c0_3, .int .i64 a0_4, .int .i64 a0_5, .int .i64 a0_6]) (t := 50) ?hr ?_; (case hd => rfl); (case hg => rfl); (case hr => first | (go_simp; done) | (go_simp; rfl)); intro gb235 hg w25 hbox hb; have n0_ := Aside0.mk (below_step (by repeat (first | (with_reducible first | exact HB.out | apply below_alloc | apply pw_below_drewN | apply below_drew1) | exact HB.out)) hb); have n1_ := Aside0.mk (hbox); have n2_ := Aside0.mk ((by rw [hg]; exact (below_size (by repeat (first | (with_reducible first | exact HB.out | apply below_alloc | apply pw_below_drewN | apply below_drew1) | exact HB.out))) : w.heap.size ≤ gb235)); have n3_ := Aside0.mk ((by rw [hg]; exact (below_size (by repeat (first | (with_reducible first | exact HB.out | apply below_alloc | apply pw_below_drewN | apply below_drew1) | exact HB.out))) : w.heap.size ≤ gb235)); clear HB; have HB := n0_; have BK235 := n1_; have GW235 := n2_; have GE235 := n3_; clear n0_ n1_ n2_ n3_; clear hb hbox hg) | ((with_reducible refine gate_dst (N := 3) rfl ?_); refine box_event ?hg (N := 3) ?hd (cs := #[.int .i64 a1_0, .string a1_1, .int .i64 a1_2, .slice A1_3 l1_3.length c1_3, .int .i64 a1_4, .int .i64 a1_5, .int .i64 a1_6]) (t := 50) ?hr ?_; (case hd => rfl); (case hg => rfl); (case hr => first | (go_simp; done) | (go_simp; rfl)); intro gb236 hg w26 hbox hb; have n0_ := Aside0.mk (blk_below (g := gb235) (o := .cells #[.int .i64 a0_0, .string a0_1, .int .i64 a0_2, .slice A0_3 l0_3.length c0_3, .int .i64 a0_4, .int .i64 a0_5, .int .i64 a0_6] 50 (0, 0)) (by (with_reducible repeat (first | refine blk_drewN ?_ _ | refine blk_drew ?_ | refine blk_alloc ?_ _)); exact BK235.out) hb); have n1_ := Aside0.mk (below_step (by repeat (first | (with_reducible first | exact HB.out | apply below_alloc | apply pw_below_drewN | apply below_drew1 | refine below_set ?_ GE235.out) | exact HB.out)) hb); have n2_ := Aside0.mk (hbox); have n3_ := Aside0.mk ((by rw [hg]; exact (below_size (by repeat (first | (with_reducible first | exact HB.out | apply below_alloc | apply pw_below_drewN | apply below_drew1 | refine below_set ?_ GE235.out) | exact HB.out))) : w.heap.size ≤ gb236)); have n4_ := Aside0.mk ((by rw [hg]; exact (below_size (by repeat (first | (with_reducible first | exact HB.out | apply below_alloc | apply pw_below_drewN | apply below_drew1 | refine below_set ?_ GE235.out) | exact HB.out))) : w.heap.size ≤ gb236)); have n5_ := Aside0.mk ((by rw [hg]; exact Nat.ne_of_lt (blk_lt (g := gb235) (o := .cells #[.int .i64 a0_0, .string a0_1, .int .i64 a0_2, .slice A0_3 l0_3.length c0_3, .int .i64 a0_4, .int .i64 a0_5, .int .i64 a0_6] 50 (0, 0)) (by (with_reducible repeat (first | refine blk_drewN ?_ _ | refine blk_drew ?_ | refine blk_alloc ?_ _)); exact BK235.out)) : gb235 ≠ gb236)); have n6_ := Aside0.mk ((by rw [hg]; exact Nat.ne_of_gt (blk_lt (g := gb235) (o := .cells #[.int .i64 a0_0, .string a0_1, .int .i64 a0_2, .slice A0_3 l0_3.length c0_3, .int .i64 a0_4, .int .i64 a0_5, .int .i64 a0_6] 50 (0, 0)) (by (with_reducible repeat (first | refine blk_drewN ?_ _ | refine blk_drew ?_ | refine blk_alloc ?_ _)); exact BK235.out)) : gb236 ≠ gb235)); clear BK235; clear HB; have BK235 := n0_; have HB := n1_; have BK236 := n2_; have GW236 := n3_; have GE236 := n4_; have NB235_236 := n5_; have NB236_235 := n6_; clear n0_ n1_ n2_ n3_ n4_ n5_ n6_; clear hb hbox hg; have hnb27 := NB235_236.out; have hnc27 := NB236_235.out; have hcz28_0 : w26.cell? ⟨gb235, 0, none⟩ = some (.int .i64 a0_0) := (blk_cell BK235.out 0).trans rfl; have hcz28_1 : w26.cell? ⟨gb235, 1, none⟩ = some (.string a0_1) := (blk_cell BK235.out 1).trans rfl; have hcz28_2 : w26.cell? ⟨gb235, 2, none⟩ = some (.int .i64 a0_2) := (blk_cell BK235.out 2).trans rfl; have hcz28_3 : w26.cell? ⟨gb235, 3, none⟩ = some (.slice A0_3 l0_3.length c0_3) := (blk_cell BK235.out 3).trans rfl; have hcz28_4 : w26.cell? ⟨gb235, 4, none⟩ = some (.int .i64 a0_4) := (blk_cell BK235.out 4).trans rfl; have hcz28_5 : w26.cell? ⟨gb235, 5, none⟩ = some (.int .i64 a0_5) := (blk_cell BK235.out 5).trans rfl; have hcz28_6 : w26.cell? ⟨gb235, 6, none⟩ = some (.int .i64 a0_6) := (blk_cell BK235.out 6).trans rfl; have hfz28_0 := blk_frozen BK235.out 0; have hfz28_1 := blk_frozen BK235.out 1; have hfz28_2 := blk_frozen BK235.out 2; have hfz28_3 := blk_frozen BK235.out 3; have hfz28_4 := blk_frozen BK235.out 4; have hfz28_5 := blk_frozen BK235.out 5; have hfz28_6 := blk_frozen BK235.out 6; have hcz29_0 : w26.cell? ⟨gb236, 0, none⟩ = some (.int .i64 a1_0) := (blk_cell BK236.out 0).trans rfl; have hcz29_1 : w26.cell? ⟨gb236, 1, none⟩ = some (.string a1_1) := (blk_cell BK236.out 1).trans rfl; have hcz29_2 : w26.cell? ⟨gb236, 2, none⟩ = some (.int .i64 a1_2) := (blk_cell BK236.out 2).trans rfl; have hcz29_3 : w26.cell? ⟨gb236, 3, none⟩ = some (.slice A1_3 l1_3.length c1_3) := (blk_cell BK236.out 3).trans rfl; have hcz29_4 : w26.cell? ⟨gb236, 4, none⟩ = some (.int .i64 a1_4) := (blk_cell BK236.out 4).trans rfl; have hcz29_5 : w26.cell? ⟨gb236, 5, none⟩ = some (.int .i64 a1_5) := (blk_cell BK236.out 5).trans rfl; have hcz29_6 : w26.cell? ⟨gb236, 6, none⟩ = some (.int .i64 a1_6) := (blk_cell BK236.out 6).trans rfl; have hfz29_0 := blk_frozen BK236.out 0; have hfz29_1 := blk_frozen BK236.out 1; have hfz29_2 := blk_frozen BK236.out 2; have hfz29_3 := blk_frozen BK236.out 3; have hfz29_4 := blk_frozen BK236.out 4; have hfz29_5 := blk_frozen BK236.out 5; have hfz29_6 := blk_frozen BK236.out 6))
    go_ret
    exact ⟨by first | rfl | (simp [errW_none, errW_some] <;> rfl) | (simp [*, errW_none, errW_some] <;> rfl), by repeat (first | (with_reducible first | exact HB.out | apply below_alloc | apply pw_below_drewN | apply below_drew1 | refine below_set ?_ GE235.out | refine below_set ?_ GE236.out) | exact HB.out)⟩
  ·rw [if_neg c4] at H
   have c4b0 : (a0_1.toList == a1_1.toList) = false := beq_eq_false_iff_ne.mpr c4
   have c4b1 : (a0_1.toList != a1_1.toList) = true := bne_iff_ne.mpr c4
   obtain rfl := Option.some.inj H
   go_enter Tryz.func14, Tryz.ntmps14
   go_wp2_with (first | ((with_reducible refine gate_dst (N := 2) rfl ?_); refine box_event ?hg (N := 2) ?hd (cs := #[.int .i64 a0_0, .string a0_1, .int .i64 a0_2, .slice A0_3 l0_3.length c0_3, .int .i64 a0_4, .int .i64 a0_5, .int .i64 a0_6]) (t := 50) ?hr ?_; (case hd => rfl); (case hg => rfl); (case hr => first | (go_simp; done) | (go_simp; rfl)); intro gb235 hg w30 hbox hb; have n0_ := Aside0.mk (below_step (by repeat (first | (with_reducible first | exact HB.out | apply below_alloc | apply pw_below_drewN | apply below_drew1) | exact HB.out)) hb); have n1_ := Aside0.mk (hbox); have n2_ := Aside0.mk ((by rw [hg]; exact (below_size (by repeat (first | (with_reducible first | exact HB.out | apply below_alloc | apply pw_below_drewN | apply below_drew1) | exact HB.out))) : w.heap.size ≤ gb235)); have n3_ := Aside0.mk ((by rw [hg]; exact (below_size (by repeat (first | (with_reducible first | exact HB.out | apply below_alloc | apply pw_below_drewN | apply below_drew1) | exact HB.out))) : w.heap.size ≤ gb235)); clear HB; have HB := n0_; have BK235 := n1_; have GW235 := n2_; have GE235 := n3_; clear n0_ n1_ n2_ n3_; clear hb hbox hg) | ((with_reducible refine gate_dst (N := 3) rfl ?_); refine box_event ?hg (N := 3) ?hd (cs := #[.int .i64 a1_0, .string a1_1, .int .i64 a1_2, .slice A1_3 l1_3.length c1_3, .int .i64 a1_4, .int .i64 a1_5, .int .i64 a1_6]) (t := 50) ?hr ?_; (case hd => rfl); (case hg => rfl); (case hr => first | (go_simp; done) | (go_simp; rfl)); intro gb236 hg w31 hbox hb; have n0_ := Aside0.mk (blk_below (g := gb235) (o := .cells #[.int .i64 a0_0, .string a0_1, .int .i64 a0_2, .slice A0_3 l0_3.length c0_3, .int .i64 a0_4, .int .i64 a0_5, .int .i64 a0_6] 50 (0, 0)) (by (with_reducible repeat (first | refine blk_drewN ?_ _ | refine blk_drew ?_ | refine blk_alloc ?_ _)); exact BK235.out) hb); have n1_ := Aside0.mk (below_step (by repeat (first | (with_reducible first | exact HB.out | apply below_alloc | apply pw_below_drewN | apply below_drew1 | refine below_set ?_ GE235.out) | exact HB.out)) hb); have n2_ := Aside0.mk (hbox); have n3_ := Aside0.mk ((by rw [hg]; exact (below_size (by repeat (first | (with_reducible first | exact HB.out | apply below_alloc | apply pw_below_drewN | apply below_drew1 | refine below_set ?_ GE235.out) | exact HB.out))) : w.heap.size ≤ gb236)); have n4_ := Aside0.mk ((by rw [hg]; exact (below_size (by repeat (first | (with_reducible first | exact HB.out | apply below_alloc | apply pw_below_drewN | apply below_drew1 | refine below_set ?_ GE235.out) | exact HB.out))) : w.heap.size ≤ gb236)); have n5_ := Aside0.mk ((by rw [hg]; exact Nat.ne_of_lt (blk_lt (g := gb235) (o := .cells #[.int .i64 a0_0, .string a0_1, .int .i64 a0_2, .slice A0_3 l0_3.length c0_3, .int .i64 a0_4, .int .i64 a0_5, .int .i64 a0_6] 50 (0, 0)) (by (with_reducible repeat (first | refine blk_drewN ?_ _ | refine blk_drew ?_ | refine blk_alloc ?_ _)); exact BK235.out)) : gb235 ≠ gb236)); have n6_ := Aside0.mk ((by rw [hg]; exact Nat.ne_of_gt (blk_lt (g := gb235) (o := .cells #[.int .i64 a0_0, .string a0_1, .int .i64 a0_2, .slice A0_3 l0_3.length c0_3, .int .i64 a0_4, .int .i64 a0_5, .int .i64 a0_6] 50 (0, 0)) (by (with_reducible repeat (first | refine blk_drewN ?_ _ | refine blk_drew ?_ | refine blk_alloc ?_ _)); exact BK235.out)) : gb236 ≠ gb235)); clear BK235; clear HB; have BK235 := n0_; have HB := n1_; have BK236 := n2_; have GW236 := n3_; have GE236 := n4_; have NB235_236 := n5_; have NB236_235 := n6_; clear n0_ n1_ n2_ n3_ n4_ n5_ n6_; clear hb hbox hg; have hnb32 := NB235_236.out; have hnc32 := NB236_235.out; have hcz33_0 : w31.cell? ⟨gb235, 0, none⟩ = some (.int .i64 a0_0) := (blk_cell BK235.out 0).trans rfl; have hcz33_1 : w31.cell? ⟨gb235, 1, none⟩ = some (.string a0_1) := (blk_cell BK235.out 1).trans rfl; have hcz33_2 : w31.cell? ⟨gb235, 2, none⟩ = some (.int .i64 a0_2) := (blk_cell BK235.out 2).trans rfl; have hcz33_3 : w31.cell? ⟨gb235, 3, none⟩ = some (.slice A0_3 l0_3.length c0_3) := (blk_cell BK235.out 3).trans rfl; have hcz33_4 : w31.cell? ⟨gb235, 4, none⟩ = some (.int .i64 a0_4) := (blk_cell BK235.out 4).trans rfl; have hcz33_5 : w31.cell? ⟨gb235, 5, none⟩ = some (.int .i64 a0_5) := (blk_cell BK235.out 5).trans rfl; have hcz33_6 : w31.cell? ⟨gb235, 6, none⟩ = some (.int .i64 a0_6) := (blk_cell BK235.out 6).trans rfl; have hfz33_0 := blk_frozen BK235.out 0; have hfz33_1 := blk_frozen BK235.out 1; have hfz33_2 := blk_frozen BK235.out 2; have hfz33_3 := blk_frozen BK235.out 3; have hfz33_4 := blk_frozen BK235.out 4; have hfz33_5 := blk_frozen BK235.out 5; have hfz33_6 := blk_frozen BK235.out 6; have hcz34_0 : w31.cell? ⟨gb236, 0, none⟩ = some (.int .i64 a1_0) := (blk_cell BK236.out 0).trans rfl; have hcz34_1 : w31.cell? ⟨gb236, 1, none⟩ = some (.string a1_1) := (blk_cell BK236.out 1).trans rfl; have hcz34_2 : w31.cell? ⟨gb236, 2, none⟩ = some (.int .i64 a1_2) := (blk_cell BK236.out 2).trans rfl; have hcz34_3 : w31.cell? ⟨gb236, 3, none⟩ = some (.slice A1_3 l1_3.length c1_3) := (blk_cell BK236.out 3).trans rfl; have hcz34_4 : w31.cell? ⟨gb236, 4, none⟩ = some (.int .i64 a1_4) := (blk_cell BK236.out 4).trans rfl; have hcz34_5 : w31.cell? ⟨gb236, 5, none⟩ = some (.int .i64 a1_5) := (blk_cell BK236.out 5).trans rfl; have hcz34_6 : w31.cell? ⟨gb236, 6, none⟩ = some (.int .i64 a1_6) := (blk_cell BK236.out 6).trans rfl; have hfz34_0 := blk_frozen BK236.out 0; have hfz34_1 := blk_frozen BK236.out 1; have hfz34_2 := blk_frozen BK236.out 2; have hfz34_3 := blk_frozen BK236.out 3; have hfz34_4 := blk_frozen BK236.out 4; have hfz34_5 := blk_frozen BK236.out 5; have hfz34_6 := blk_frozen BK236.out 6))
   go_ret
   exact ⟨by first | rfl | (simp [errW_none, errW_some] <;> rfl) | (simp [*, errW_none, errW_some] <;> rfl), by repeat (first | (with_reducible first | exact HB.out | apply below_alloc | apply pw_below_drewN | apply below_drew1 | refine below_set ?_ GE235.out | refine below_set ?_ GE236.out) | exact HB.out)⟩
 ·rw [if_neg c3] at H
  have c3b0 : (a0_0 == a1_0) = false := beq_eq_false_iff_ne.mpr c3
  have c3b1 : (a0_0 != a1_0) = true := bne_iff_ne.mpr c3
  obtain rfl := Option.some.inj H
  go_enter Tryz.func14, Tryz.ntmps14
  go_wp2_with (first | ((with_reducible refine gate_dst (N := 2) rfl ?_); refine box_event ?hg (N := 2) ?hd (cs := #[.int .i64 a0_0, .string a0_1, .int .i64 a0_2, .slice A0_3 l0_3.length c0_3, .int .i64 a0_4, .int .i64 a0_5, .int .i64 a0_6]) (t := 50) ?hr ?_; (case hd => rfl); (case hg => rfl); (case hr => first | (go_simp; done) | (go_simp; rfl)); intro gb235 hg w35 hbox hb; have n0_ := Aside0.mk (below_step (by repeat (first | (with_reducible first | exact HB.out | apply below_alloc | apply pw_below_drewN | apply below_drew1) | exact HB.out)) hb); have n1_ := Aside0.mk (hbox); have n2_ := Aside0.mk ((by rw [hg]; exact (below_size (by repeat (first | (with_reducible first | exact HB.out | apply below_alloc | apply pw_below_drewN | apply below_drew1) | exact HB.out))) : w.heap.size ≤ gb235)); have n3_ := Aside0.mk ((by rw [hg]; exact (below_size (by repeat (first | (with_reducible first | exact HB.out | apply below_alloc | apply pw_below_drewN | apply below_drew1) | exact HB.out))) : w.heap.size ≤ gb235)); clear HB; have HB := n0_; have BK235 := n1_; have GW235 := n2_; have GE235 := n3_; clear n0_ n1_ n2_ n3_; clear hb hbox hg) | ((with_reducible refine gate_dst (N := 3) rfl ?_); refine box_event ?hg (N := 3) ?hd (cs := #[.int .i64 a1_0, .string a1_1, .int .i64 a1_2, .slice A1_3 l1_3.length c1_3, .int .i64 a1_4, .int .i64 a1_5, .int .i64 a1_6]) (t := 50) ?hr ?_; (case hd => rfl); (case hg => rfl); (case hr => first | (go_simp; done) | (go_simp; rfl)); intro gb236 hg w36 hbox hb; have n0_ := Aside0.mk (blk_below (g := gb235) (o := .cells #[.int .i64 a0_0, .string a0_1, .int .i64 a0_2, .slice A0_3 l0_3.length c0_3, .int .i64 a0_4, .int .i64 a0_5, .int .i64 a0_6] 50 (0, 0)) (by (with_reducible repeat (first | refine blk_drewN ?_ _ | refine blk_drew ?_ | refine blk_alloc ?_ _)); exact BK235.out) hb); have n1_ := Aside0.mk (below_step (by repeat (first | (with_reducible first | exact HB.out | apply below_alloc | apply pw_below_drewN | apply below_drew1 | refine below_set ?_ GE235.out) | exact HB.out)) hb); have n2_ := Aside0.mk (hbox); have n3_ := Aside0.mk ((by rw [hg]; exact (below_size (by repeat (first | (with_reducible first | exact HB.out | apply below_alloc | apply pw_below_drewN | apply below_drew1 | refine below_set ?_ GE235.out) | exact HB.out))) : w.heap.size ≤ gb236)); have n4_ := Aside0.mk ((by rw [hg]; exact (below_size (by repeat (first | (with_reducible first | exact HB.out | apply below_alloc | apply pw_below_drewN | apply below_drew1 | refine below_set ?_ GE235.out) | exact HB.out))) : w.heap.size ≤ gb236)); have n5_ := Aside0.mk ((by rw [hg]; exact Nat.ne_of_lt (blk_lt (g := gb235) (o := .cells #[.int .i64 a0_0, .string a0_1, .int .i64 a0_2, .slice A0_3 l0_3.length c0_3, .int .i64 a0_4, .int .i64 a0_5, .int .i64 a0_6] 50 (0, 0)) (by (with_reducible repeat (first | refine blk_drewN ?_ _ | refine blk_drew ?_ | refine blk_alloc ?_ _)); exact BK235.out)) : gb235 ≠ gb236)); have n6_ := Aside0.mk ((by rw [hg]; exact Nat.ne_of_gt (blk_lt (g := gb235) (o := .cells #[.int .i64 a0_0, .string a0_1, .int .i64 a0_2, .slice A0_3 l0_3.length c0_3, .int .i64 a0_4, .int .i64 a0_5, .int .i64 a0_6] 50 (0, 0)) (by (with_reducible repeat (first | refine blk_drewN ?_ _ | refine blk_drew ?_ | refine blk_alloc ?_ _)); exact BK235.out)) : gb236 ≠ gb235)); clear BK235; clear HB; have BK235 := n0_; have HB := n1_; have BK236 := n2_; have GW236 := n3_; have GE236 := n4_; have NB235_236 := n5_; have NB236_235 := n6_; clear n0_ n1_ n2_ n3_ n4_ n5_ n6_; clear hb hbox hg; have hnb37 := NB235_236.out; have hnc37 := NB236_235.out; have hcz38_0 : w36.cell? ⟨gb235, 0, none⟩ = some (.int .i64 a0_0) := (blk_cell BK235.out 0).trans rfl; have hcz38_1 : w36.cell? ⟨gb235, 1, none⟩ = some (.string a0_1) := (blk_cell BK235.out 1).trans rfl; have hcz38_2 : w36.cell? ⟨gb235, 2, none⟩ = some (.int .i64 a0_2) := (blk_cell BK235.out 2).trans rfl; have hcz38_3 : w36.cell? ⟨gb235, 3, none⟩ = some (.slice A0_3 l0_3.length c0_3) := (blk_cell BK235.out 3).trans rfl; have hcz38_4 : w36.cell? ⟨gb235, 4, none⟩ = some (.int .i64 a0_4) := (blk_cell BK235.out 4).trans rfl; have hcz38_5 : w36.cell? ⟨gb235, 5, none⟩ = some (.int .i64 a0_5) := (blk_cell BK235.out 5).trans rfl; have hcz38_6 : w36.cell? ⟨gb235, 6, none⟩ = some (.int .i64 a0_6) := (blk_cell BK235.out 6).trans rfl; have hfz38_0 := blk_frozen BK235.out 0; have hfz38_1 := blk_frozen BK235.out 1; have hfz38_2 := blk_frozen BK235.out 2; have hfz38_3 := blk_frozen BK235.out 3; have hfz38_4 := blk_frozen BK235.out 4; have hfz38_5 := blk_frozen BK235.out 5; have hfz38_6 := blk_frozen BK235.out 6; have hcz39_0 : w36.cell? ⟨gb236, 0, none⟩ = some (.int .i64 a1_0) := (blk_cell BK236.out 0).trans rfl; have hcz39_1 : w36.cell? ⟨gb236, 1, none⟩ = some (.string a1_1) := (blk_cell BK236.out 1).trans rfl; have hcz39_2 : w36.cell? ⟨gb236, 2, none⟩ = some (.int .i64 a1_2) := (blk_cell BK236.out 2).trans rfl; have hcz39_3 : w36.cell? ⟨gb236, 3, none⟩ = some (.slice A1_3 l1_3.length c1_3) := (blk_cell BK236.out 3).trans rfl; have hcz39_4 : w36.cell? ⟨gb236, 4, none⟩ = some (.int .i64 a1_4) := (blk_cell BK236.out 4).trans rfl; have hcz39_5 : w36.cell? ⟨gb236, 5, none⟩ = some (.int .i64 a1_5) := (blk_cell BK236.out 5).trans rfl; have hcz39_6 : w36.cell? ⟨gb236, 6, none⟩ = some (.int .i64 a1_6) := (blk_cell BK236.out 6).trans rfl; have hfz39_0 := blk_frozen BK236.out 0; have hfz39_1 := blk_frozen BK236.out 1; have hfz39_2 := blk_frozen BK236.out 2; have hfz39_3 := blk_frozen BK236.out 3; have hfz39_4 := blk_frozen BK236.out 4; have hfz39_5 := blk_frozen BK236.out 5; have hfz39_6 := blk_frozen BK236.out 6))
  go_ret
  exact ⟨by first | rfl | (simp [errW_none, errW_some] <;> rfl) | (simp [*, errW_none, errW_some] <;> rfl), by repeat (first | (with_reducible first | exact HB.out | apply below_alloc | apply pw_below_drewN | apply below_drew1 | refine below_set ?_ GE235.out | refine below_set ?_ GE236.out) | exact HB.out)⟩

end Go.Proofs.YtmdmdbiinngneaaGreatDoor.Q
