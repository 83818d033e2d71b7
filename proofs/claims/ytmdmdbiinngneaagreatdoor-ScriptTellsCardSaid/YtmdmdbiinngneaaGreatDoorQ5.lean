-- Laid by prx.py (ours), out of the translation's print. Not trusted: Lean checks it.
import Derived.Test.YtmdmdbiinngneaaGreatDoorQ0
namespace Go.Proofs.YtmdmdbiinngneaaGreatDoor.Q
open Go.RowKit Go.Proofs.YtmdmdbiinngneaaGreatDoorW.PrintWords Go.Proofs.YtmdmdbiinngneaaGreatDoorW.PrintLast Go.Proofs.YtmdmdbiinngneaaGreatDoorW.PrintMore
attribute [local go_sem] max2_int min2_int max_two min_two max_three min_three max_four min_four   -- for this text's walks alone
set_option linter.unusedVariables false
set_option linter.unusedSimpArgs false

/-! ### runes_Width: function 46 -/
def runes_Width.j0 : Nat → Int → Bool → Option (Int)
 | 0, _, _ => none
 | k + 1, x0, x3 => if x3 = true then (some 0) else (if x0 < 128 then (some 1) else (if x0 < 2048 then (some 2) else (if x0 < 65536 then (some 3) else (some 4))))
def runes_Width.f (k : Nat) (a0 : Int) : Option (Int) := if a0 < 0 then (runes_Width.j0 k a0 true) else (if a0 > 1114111 then (runes_Width.j0 k a0 true) else (if a0 ≥ 55296 then (runes_Width.j0 k a0 (decide (a0 ≤ 57343))) else (runes_Width.j0 k a0 false)))
theorem runes_Width.mono_l : ∀ k, (∀ y0 y1, LeO (runes_Width.j0 k y0 y1) (runes_Width.j0 (k + 1) y0 y1))
 | 0 => fun _ _ r h => by simp [runes_Width.j0] at h
 | k + 1 => by
  have ih0 := runes_Width.mono_l k
  ·intro y0 y1
   unfold runes_Width.j0
   repeat' first
   | (with_reducible exact ih0 _ _)
   | (with_reducible exact LeO.refl _)
   | (with_reducible exact LeO.none _)
   | (with_reducible refine LeO.ite ?_ ?_)
   | (with_reducible refine LeO.bind ?_ (fun _ => ?_))
   | exact ih0 _ _
   | exact LeO.none _
   | refine LeO.ite ?_ ?_
   | refine LeO.bind ?_ (fun _ => ?_)
theorem runes_Width.mono : ∀ a0 k, LeO (runes_Width.f k a0) (runes_Width.f (k + 1) a0) := by
 intro a0 k
 have ih0 := runes_Width.mono_l k
 unfold runes_Width.f
 repeat' first
   | (with_reducible exact ih0 _ _)
   | (with_reducible exact LeO.refl _)
   | (with_reducible exact LeO.none _)
   | (with_reducible refine LeO.ite ?_ ?_)
   | (with_reducible refine LeO.bind ?_ (fun _ => ?_))
   | exact ih0 _ _
   | exact LeO.none _
   | refine LeO.ite ?_ ?_
   | refine LeO.bind ?_ (fun _ => ?_)
set_option maxHeartbeats 8000000 in
set_option maxRecDepth 100000 in
theorem runes_Width.calls (k : Nat) (a0 : Int) (r : Int) (w : World) (h : runes_Width.f k a0 = some r) :
  Calls Tryz.prog 46 #[.int .i32 a0] w fun e w' => e = .returned (.int .i64 r) ∧ Drawn0 w w' := by
 have H : (if a0 < 0 then (runes_Width.j0 k a0 true) else (if a0 > 1114111 then (runes_Width.j0 k a0 true) else (if a0 ≥ 55296 then (runes_Width.j0 k a0 (decide (a0 ≤ 57343))) else (runes_Width.j0 k a0 false)))) = some r := h
 clear h
 have HC2 := Aside0.mk H
 clear H
 go_enter Tryz.func46, Tryz.ntmps46
 go_upto_region 1 with (fail)
 go_cut [3] (fun v3 wc => ∃ (kq : Nat) (x3_1 : Bool), v3 = .bool x3_1 ∧ Aside0 (runes_Width.j0 kq a0 x3_1 = some r) ∧ Aside0 (kq ≤ k) ∧ Drawn0 w wc)
 case first =>
  have H := HC2.out
  clear HC2
  by_cases c3 : a0 < 0
  ·rw [if_pos c3] at H
   have c3b0 : decide (a0 < 0) = true := decide_eq_true c3
   clear c3
   (first | rw [c3b0] | (simp only [i64_w, i32_w]; rw [c3b0]) | skip)
   have H' := Aside0.mk H
   clear H
   go_wp2
   go_meet
   case rel => exact ⟨_, (true), (by first | rfl | (simp; done) | (simp [*]; done)), H', ⟨by first | omega | exact Nat.le_refl _⟩, by repeat (first | exact Drawn0.refl _ | apply Drawn0.step)⟩
  ·rw [if_neg c3] at H
   have c3b0 : decide (a0 < 0) = false := decide_eq_false c3
   clear c3
   (first | rw [c3b0] | (simp only [i64_w, i32_w]; rw [c3b0]) | skip)
   by_cases c4 : a0 > 1114111
   ·rw [if_pos c4] at H
    have c4b0 : decide (1114111 < a0) = true := decide_eq_true c4
    clear c4
    have H' := Aside0.mk H
    clear H
    go_wp2
    go_meet
    case rel => exact ⟨_, (true), (by first | rfl | (simp; done) | (simp [*]; done)), H', ⟨by first | omega | exact Nat.le_refl _⟩, by repeat (first | exact Drawn0.refl _ | apply Drawn0.step)⟩
   ·rw [if_neg c4] at H
    have c4b0 : decide (1114111 < a0) = false := decide_eq_false c4
    clear c4
    by_cases c5 : a0 ≥ 55296
    ·rw [if_pos c5] at H
     have c5b0 : decide (55296 ≤ a0) = true := decide_eq_true c5
     clear c5
     have H' := Aside0.mk H
     clear H
     go_wp2
     go_meet
     case rel => exact ⟨_, (decide (a0 ≤ 57343)), (by first | rfl | (simp; done) | (simp [*]; done)), H', ⟨by first | omega | exact Nat.le_refl _⟩, by repeat (first | exact Drawn0.refl _ | apply Drawn0.step)⟩
    ·rw [if_neg c5] at H
     have c5b0 : decide (55296 ≤ a0) = false := decide_eq_false c5
     clear c5
     have H' := Aside0.mk H
     clear H
     go_wp2
     go_meet
     case rel => exact ⟨_, (false), (by first | rfl | (simp; done) | (simp [*]; done)), H', ⟨by first | omega | exact Nat.le_refl _⟩, by repeat (first | exact Drawn0.refl _ | apply Drawn0.step)⟩
 case rest =>
  clear HC2
  try clear p2
  try clear c3
  try clear c3b0
  try clear c4
  try clear c4b0
  try clear c5
  try clear c5b0
  obtain ⟨kq, x3_1, rfl, HA, HJ1, ⟨mc1, rfl⟩⟩ := hcut
  cases kq with
  | zero => exact absurd HA.out (by simp [runes_Width.j0])
  | succ kj1 =>
   have H := HA.out
   clear HA
   simp only [runes_Width.j0] at H
   by_cases c6 : x3_1 = true
   ·subst c6
    have H1 : (some 0) = some r := by rw [if_pos rfl] at H; exact H
    clear H
    have H := H1
    clear H1
    obtain rfl := Option.some.inj H
    go_wp2
    go_ret
    exact ⟨by first | rfl | (simp; done) | (simp [*]; done), by repeat (first | exact Drawn0.refl _ | apply Drawn0.step)⟩
   ·replace c6 := Bool.eq_false_iff.mpr c6
    subst c6
    have H1 : (if a0 < 128 then (some 1) else (if a0 < 2048 then (some 2) else (if a0 < 65536 then (some 3) else (some 4)))) = some r := by rw [if_neg (show ¬ (false = true) by decide)] at H; exact H
    clear H
    have H := H1
    clear H1
    by_cases c7 : a0 < 128
    ·rw [if_pos c7] at H
     have c7b0 : decide (a0 < 128) = true := decide_eq_true c7
     clear c7
     obtain rfl := Option.some.inj H
     go_wp2
     go_ret
     exact ⟨by first | rfl | (simp; done) | (simp [*]; done), by repeat (first | exact Drawn0.refl _ | apply Drawn0.step)⟩
    ·rw [if_neg c7] at H
     have c7b0 : decide (a0 < 128) = false := decide_eq_false c7
     clear c7
     by_cases c8 : a0 < 2048
     ·rw [if_pos c8] at H
      have c8b0 : decide (a0 < 2048) = true := decide_eq_true c8
      clear c8
      obtain rfl := Option.some.inj H
      go_wp2
      go_ret
      exact ⟨by first | rfl | (simp; done) | (simp [*]; done), by repeat (first | exact Drawn0.refl _ | apply Drawn0.step)⟩
     ·rw [if_neg c8] at H
      have c8b0 : decide (a0 < 2048) = false := decide_eq_false c8
      clear c8
      by_cases c9 : a0 < 65536
      ·rw [if_pos c9] at H
       have c9b0 : decide (a0 < 65536) = true := decide_eq_true c9
       clear c9
       obtain rfl := Option.some.inj H
       go_wp2
       go_ret
       exact ⟨by first | rfl | (simp; done) | (simp [*]; done), by repeat (first | exact Drawn0.refl _ | apply Drawn0.step)⟩
      ·rw [if_neg c9] at H
       have c9b0 : decide (a0 < 65536) = false := decide_eq_false c9
       clear c9
       obtain rfl := Option.some.inj H
       go_wp2
       go_ret
       exact ⟨by first | rfl | (simp; done) | (simp [*]; done), by repeat (first | exact Drawn0.refl _ | apply Drawn0.step)⟩

/-! ### runes_Kind: function 23 -/
mutual
def runes_Kind.j0 : Nat → Int → Bool → Option (Int)
 | 0, _, _ => none
 | k + 1, x0, x7 => if x7 = true then (some 1) else (if x0 = 10 then (some 2) else (if x0 ≥ 48 then (runes_Kind.j1 k x0 (decide (x0 ≤ 57))) else (runes_Kind.j1 k x0 false)))
def runes_Kind.j1 : Nat → Int → Bool → Option (Int)
 | 0, _, _ => none
 | k + 1, x0, x17 => if x17 = true then (some 3) else (if x0 ≥ 65 then (if x0 ≤ 90 then (runes_Kind.j2 k x0 true) else (if x0 ≥ 97 then (if x0 ≤ 122 then (runes_Kind.j2 k x0 true) else (if x0 = 95 then (runes_Kind.j2 k x0 true) else (runes_Kind.j2 k x0 (decide (x0 ≥ 128))))) else (if x0 = 95 then (runes_Kind.j2 k x0 true) else (runes_Kind.j2 k x0 (decide (x0 ≥ 128)))))) else (if x0 ≥ 97 then (if x0 ≤ 122 then (runes_Kind.j2 k x0 true) else (if x0 = 95 then (runes_Kind.j2 k x0 true) else (runes_Kind.j2 k x0 (decide (x0 ≥ 128))))) else (if x0 = 95 then (runes_Kind.j2 k x0 true) else (runes_Kind.j2 k x0 (decide (x0 ≥ 128))))))
def runes_Kind.j2 : Nat → Int → Bool → Option (Int)
 | 0, _, _ => none
 | k + 1, x0, x24 => if x24 = true then (some 4) else (if x0 > 32 then (if x0 < 127 then (some 5) else (some 0)) else (some 0))
end
def runes_Kind.f (k : Nat) (a0 : Int) : Option (Int) := (runes_Width.f k a0).bind fun t102 => (if t102 = 0 then (some 0) else (if a0 = 32 then (runes_Kind.j0 k a0 true) else (runes_Kind.j0 k a0 (a0 == 9))))
theorem runes_Kind.mono_l : ∀ k, (∀ y0 y1, LeO (runes_Kind.j0 k y0 y1) (runes_Kind.j0 (k + 1) y0 y1)) ∧ (∀ y0 y1, LeO (runes_Kind.j1 k y0 y1) (runes_Kind.j1 (k + 1) y0 y1)) ∧ (∀ y0 y1, LeO (runes_Kind.j2 k y0 y1) (runes_Kind.j2 (k + 1) y0 y1))
 | 0 => ⟨fun _ _ r h => by simp [runes_Kind.j0] at h, fun _ _ r h => by simp [runes_Kind.j1] at h, fun _ _ r h => by simp [runes_Kind.j2] at h⟩
 | k + 1 => by
  obtain ⟨ih0, ih1, ih2⟩ := runes_Kind.mono_l k
  refine ⟨?_, ?_, ?_⟩
  ·intro y0 y1
   unfold runes_Kind.j0
   repeat' first
   | (with_reducible exact ih0 _ _)
   | (with_reducible exact ih1 _ _)
   | (with_reducible exact ih2 _ _)
   | (with_reducible exact runes_Width.mono _ _)
   | (with_reducible exact LeO.refl _)
   | (with_reducible exact LeO.none _)
   | (with_reducible refine LeO.ite ?_ ?_)
   | (with_reducible refine LeO.bind ?_ (fun _ => ?_))
   | exact ih0 _ _
   | exact ih1 _ _
   | exact ih2 _ _
   | exact runes_Width.mono _ _
   | exact LeO.none _
   | refine LeO.ite ?_ ?_
   | refine LeO.bind ?_ (fun _ => ?_)
  ·intro y0 y1
   unfold runes_Kind.j1
   repeat' first
   | (with_reducible exact ih0 _ _)
   | (with_reducible exact ih1 _ _)
   | (with_reducible exact ih2 _ _)
   | (with_reducible exact runes_Width.mono _ _)
   | (with_reducible exact LeO.refl _)
   | (with_reducible exact LeO.none _)
   | (with_reducible refine LeO.ite ?_ ?_)
   | (with_reducible refine LeO.bind ?_ (fun _ => ?_))
   | exact ih0 _ _
   | exact ih1 _ _
   | exact ih2 _ _
   | exact runes_Width.mono _ _
   | exact LeO.none _
   | refine LeO.ite ?_ ?_
   | refine LeO.bind ?_ (fun _ => ?_)
  ·intro y0 y1
   unfold runes_Kind.j2
   repeat' first
   | (with_reducible exact ih0 _ _)
   | (with_reducible exact ih1 _ _)
   | (with_reducible exact ih2 _ _)
   | (with_reducible exact runes_Width.mono _ _)
   | (with_reducible exact LeO.refl _)
   | (with_reducible exact LeO.none _)
   | (with_reducible refine LeO.ite ?_ ?_)
   | (with_reducible refine LeO.bind ?_ (fun _ => ?_))
   | exact ih0 _ _
   | exact ih1 _ _
   | exact ih2 _ _
   | exact runes_Width.mono _ _
   | exact LeO.none _
   | refine LeO.ite ?_ ?_
   | refine LeO.bind ?_ (fun _ => ?_)
theorem runes_Kind.mono : ∀ a0 k, LeO (runes_Kind.f k a0) (runes_Kind.f (k + 1) a0) := by
 intro a0 k
 obtain ⟨ih0, ih1, ih2⟩ := runes_Kind.mono_l k
 unfold runes_Kind.f
 repeat' first
   | (with_reducible exact ih0 _ _)
   | (with_reducible exact ih1 _ _)
   | (with_reducible exact ih2 _ _)
   | (with_reducible exact runes_Width.mono _ _)
   | (with_reducible exact LeO.refl _)
   | (with_reducible exact LeO.none _)
   | (with_reducible refine LeO.ite ?_ ?_)
   | (with_reducible refine LeO.bind ?_ (fun _ => ?_))
   | exact ih0 _ _
   | exact ih1 _ _
   | exact ih2 _ _
   | exact runes_Width.mono _ _
   | exact LeO.none _
   | refine LeO.ite ?_ ?_
   | refine LeO.bind ?_ (fun _ => ?_)
set_option maxHeartbeats 8000000 in
set_option maxRecDepth 100000 in
theorem runes_Kind.calls (k : Nat) (a0 : Int) (r : Int) (w : World) (h : runes_Kind.f k a0 = some r) :
  Calls Tryz.prog 23 #[.int .i32 a0] w fun e w' => e = .returned (.int .i64 r) ∧ Drawn0 w w' := by
 have H : ((runes_Width.f k a0).bind fun t102 => (if t102 = 0 then (some 0) else (if a0 = 32 then (runes_Kind.j0 k a0 true) else (runes_Kind.j0 k a0 (a0 == 9))))) = some r := h
 clear h
 replace H := Option.bind_eq_some_iff.mp H
 obtain ⟨t102, A20, H⟩ := H
 replace H : (if t102 = 0 then (some 0) else (if a0 = 32 then (runes_Kind.j0 k a0 true) else (runes_Kind.j0 k a0 (a0 == 9)))) = some r := H
 have A2 := Aside0.mk A20
 clear A20
 by_cases c3 : t102 = 0
 ·rw [if_pos c3] at H
  have c3b0 : (t102 == 0) = true := beq_iff_eq.mpr c3
  have c3b1 : (t102 != 0) = false := bne_eq_false_iff_eq.mpr c3
  clear c3
  obtain rfl := Option.some.inj H
  go_enter Tryz.func23, Tryz.ntmps23
  go_wp2_with (first | ((with_reducible refine gate_callee (f := 46) rfl ?_); refine goesL_ (some 5) rfl rfl Tryz.func46 (by kernel_rfl) rfl #[.int .i32 a0] rfl (by (try simp only [List.map_toArray, List.map_cons, List.map_nil]); first | done | rfl | (simp only [List.length_drop, List.length_take]; rfl)) ?_; (with_reducible refine (runes_Width.calls k a0 t102 _ A2.out).mono ?_); rintro e w' ⟨rfl, ⟨nd, rfl⟩⟩; refine ⟨_, rfl, ?_⟩))
  go_ret
  exact ⟨by first | rfl | (simp; done) | (simp [*]; done), by repeat (first | exact Drawn0.refl _ | apply Drawn0.step)⟩
 ·rw [if_neg c3] at H
  have c3b0 : (t102 == 0) = false := beq_eq_false_iff_ne.mpr c3
  have c3b1 : (t102 != 0) = true := bne_iff_ne.mpr c3
  have HC4 := Aside0.mk H
  clear H
  go_enter Tryz.func23, Tryz.ntmps23
  go_upto_region 3 with (first | ((with_reducible refine gate_callee (f := 46) rfl ?_); refine goesL_ (some 5) rfl rfl Tryz.func46 (by kernel_rfl) rfl #[.int .i32 a0] rfl (by (try simp only [List.map_toArray, List.map_cons, List.map_nil]); first | done | rfl | (simp only [List.length_drop, List.length_take]; rfl)) ?_; (with_reducible refine (runes_Width.calls k a0 t102 _ A2.out).mono ?_); rintro e w' ⟨rfl, ⟨nd, rfl⟩⟩; refine ⟨_, rfl, ?_⟩))
  (try simp only [Act.put, List.setIfInBounds_toArray, List.set_cons_zero, List.set_cons_succ])
  go_cut [7] (fun v7 wc => ∃ (kq : Nat) (x7_3 : Bool), v7 = .bool x7_3 ∧ Aside0 (runes_Kind.j0 kq a0 x7_3 = some r) ∧ Aside0 (kq ≤ k) ∧ Drawn0 w wc)
  case first =>
   have H := HC4.out
   clear HC4
   by_cases c5 : a0 = 32
   ·rw [if_pos c5] at H
    have c5b0 : (a0 == 32) = true := beq_iff_eq.mpr c5
    have c5b1 : (a0 != 32) = false := bne_eq_false_iff_eq.mpr c5
    clear c5
    (first | rw [c5b0] | (simp only [i64_w, i32_w]; rw [c5b0]) | skip)
    have H' := Aside0.mk H
    clear H
    go_wp2
    go_meet
    case rel => exact ⟨_, (true), (by first | rfl | (simp; done) | (simp [*]; done)), H', ⟨by first | omega | exact Nat.le_refl _⟩, by repeat (first | exact Drawn0.refl _ | apply Drawn0.step)⟩
   ·rw [if_neg c5] at H
    have c5b0 : (a0 == 32) = false := beq_eq_false_iff_ne.mpr c5
    have c5b1 : (a0 != 32) = true := bne_iff_ne.mpr c5
    (first | rw [c5b0] | (simp only [i64_w, i32_w]; rw [c5b0]) | skip)
    have H' := Aside0.mk H
    clear H
    go_wp2
    go_meet
    case rel => exact ⟨_, ((a0 == 9)), (by first | rfl | (simp; done) | (simp [*]; done)), H', ⟨by first | omega | exact Nat.le_refl _⟩, by repeat (first | exact Drawn0.refl _ | apply Drawn0.step)⟩
  case rest =>
   clear HC4
   try clear c2
   try clear p2
   try clear c3
   try clear c3b0
   try clear c3b1
   try clear c4
   try clear c5
   try clear c5b0
   try clear c5b1
   obtain ⟨kq, x7_3, rfl, HA, HJ3, ⟨mc3, rfl⟩⟩ := hcut
   cases kq with
   | zero => exact absurd HA.out (by simp [runes_Kind.j0])
   | succ kj3 =>
    have H := HA.out
    clear HA
    simp only [runes_Kind.j0] at H
    by_cases c6 : x7_3 = true
    ·subst c6
     have H1 : (some 1) = some r := by rw [if_pos rfl] at H; exact H
     clear H
     have H := H1
     clear H1
     obtain rfl := Option.some.inj H
     go_wp2
     go_ret
     exact ⟨by first | rfl | (simp; done) | (simp [*]; done), by repeat (first | exact Drawn0.refl _ | apply Drawn0.step)⟩
    ·replace c6 := Bool.eq_false_iff.mpr c6
     subst c6
     have H1 : (if a0 = 10 then (some 2) else (if a0 ≥ 48 then (runes_Kind.j1 kj3 a0 (decide (a0 ≤ 57))) else (runes_Kind.j1 kj3 a0 false))) = some r := by rw [if_neg (show ¬ (false = true) by decide)] at H; exact H
     clear H
     have H := H1
     clear H1
     by_cases c7 : a0 = 10
     ·rw [if_pos c7] at H
      have c7b0 : (a0 == 10) = true := beq_iff_eq.mpr c7
      have c7b1 : (a0 != 10) = false := bne_eq_false_iff_eq.mpr c7
      clear c7
      obtain rfl := Option.some.inj H
      go_wp2
      go_ret
      exact ⟨by first | rfl | (simp; done) | (simp [*]; done), by repeat (first | exact Drawn0.refl _ | apply Drawn0.step)⟩
     ·rw [if_neg c7] at H
      have c7b0 : (a0 == 10) = false := beq_eq_false_iff_ne.mpr c7
      have c7b1 : (a0 != 10) = true := bne_iff_ne.mpr c7
      have HC8 := Aside0.mk H
      clear H
      go_upto_region 7 with (fail)
      go_cut [17] (fun v17 wc => ∃ (kq : Nat) (x17_7 : Bool), v17 = .bool x17_7 ∧ Aside0 (runes_Kind.j1 kq a0 x17_7 = some r) ∧ Aside0 (kq ≤ kj3) ∧ Drawn0 w wc)
      case first =>
       have H := HC8.out
       clear HC8
       by_cases c9 : a0 ≥ 48
       ·rw [if_pos c9] at H
        have c9b0 : decide (48 ≤ a0) = true := decide_eq_true c9
        clear c9
        (first | rw [c9b0] | (simp only [i64_w, i32_w]; rw [c9b0]) | skip)
        have H' := Aside0.mk H
        clear H
        go_wp2
        go_meet
        case rel => exact ⟨_, (decide (a0 ≤ 57)), (by first | rfl | (simp; done) | (simp [*]; done)), H', ⟨by have := HJ3.out; first | omega | exact Nat.le_refl _⟩, by repeat (first | exact Drawn0.refl _ | apply Drawn0.step)⟩
       ·rw [if_neg c9] at H
        have c9b0 : decide (48 ≤ a0) = false := decide_eq_false c9
        clear c9
        (first | rw [c9b0] | (simp only [i64_w, i32_w]; rw [c9b0]) | skip)
        have H' := Aside0.mk H
        clear H
        go_wp2
        go_meet
        case rel => exact ⟨_, (false), (by first | rfl | (simp; done) | (simp [*]; done)), H', ⟨by have := HJ3.out; first | omega | exact Nat.le_refl _⟩, by repeat (first | exact Drawn0.refl _ | apply Drawn0.step)⟩
      case rest =>
       clear HC8
       try clear c2
       try clear p2
       try clear c3
       try clear c3b0
       try clear c3b1
       try clear c4
       try clear c5
       try clear c5b0
       try clear c5b1
       try clear c6
       try clear c7
       try clear c7b0
       try clear c7b1
       try clear c9
       try clear c9b0
       try clear p2
       obtain ⟨kq, x17_7, rfl, HA, HJ7, ⟨mc7, rfl⟩⟩ := hcut
       cases kq with
       | zero => exact absurd HA.out (by simp [runes_Kind.j1])
       | succ kj7 =>
        have H := HA.out
        clear HA
        simp only [runes_Kind.j1] at H
        by_cases c10 : x17_7 = true
        ·subst c10
         have H1 : (some 3) = some r := by rw [if_pos rfl] at H; exact H
         clear H
         have H := H1
         clear H1
         obtain rfl := Option.some.inj H
         go_wp2
         go_ret
         exact ⟨by first | rfl | (simp; done) | (simp [*]; done), by repeat (first | exact Drawn0.refl _ | apply Drawn0.step)⟩
        ·replace c10 := Bool.eq_false_iff.mpr c10
         subst c10
         have H1 : (if a0 ≥ 65 then (if a0 ≤ 90 then (runes_Kind.j2 kj7 a0 true) else (if a0 ≥ 97 then (if a0 ≤ 122 then (runes_Kind.j2 kj7 a0 true) else (if a0 = 95 then (runes_Kind.j2 kj7 a0 true) else (runes_Kind.j2 kj7 a0 (decide (a0 ≥ 128))))) else (if a0 = 95 then (runes_Kind.j2 kj7 a0 true) else (runes_Kind.j2 kj7 a0 (decide (a0 ≥ 128)))))) else (if a0 ≥ 97 then (if a0 ≤ 122 then (runes_Kind.j2 kj7 a0 true) else (if a0 = 95 then (runes_Kind.j2 kj7 a0 true) else (runes_Kind.j2 kj7 a0 (decide (a0 ≥ 128))))) else (if a0 = 95 then (runes_Kind.j2 kj7 a0 true) else (runes_Kind.j2 kj7 a0 (decide (a0 ≥ 128)))))) = some r := by rw [if_neg (show ¬ (false = true) by decide)] at H; exact H
         clear H
         have H := H1
         clear H1
         have HC11 := Aside0.mk H
         clear H
         go_upto_region 9 with (fail)
         go_cut [24] (fun v24 wc => ∃ (kq : Nat) (x24_10 : Bool), v24 = .bool x24_10 ∧ Aside0 (runes_Kind.j2 kq a0 x24_10 = some r) ∧ Aside0 (kq ≤ kj7) ∧ Drawn0 w wc)
         case first =>
          have H := HC11.out
          clear HC11
          by_cases c12 : a0 ≥ 65
          ·rw [if_pos c12] at H
           have c12b0 : decide (65 ≤ a0) = true := decide_eq_true c12
           clear c12
           (first | rw [c12b0] | (simp only [i64_w, i32_w]; rw [c12b0]) | skip)
           by_cases c13 : a0 ≤ 90
           ·rw [if_pos c13] at H
            have c13b0 : decide (a0 ≤ 90) = true := decide_eq_true c13
            clear c13
            have H' := Aside0.mk H
            clear H
            go_wp2
            go_meet
            case rel => exact ⟨_, (true), (by first | rfl | (simp; done) | (simp [*]; done)), H', ⟨by have := HJ3.out; have := HJ7.out; first | omega | exact Nat.le_refl _⟩, by repeat (first | exact Drawn0.refl _ | apply Drawn0.step)⟩
           ·rw [if_neg c13] at H
            have c13b0 : decide (a0 ≤ 90) = false := decide_eq_false c13
            clear c13
            by_cases c14 : a0 ≥ 97
            ·rw [if_pos c14] at H
             have c14b0 : decide (97 ≤ a0) = true := decide_eq_true c14
             clear c14
             by_cases c15 : a0 ≤ 122
             ·rw [if_pos c15] at H
              have c15b0 : decide (a0 ≤ 122) = true := decide_eq_true c15
              clear c15
              have H' := Aside0.mk H
              clear H
              go_wp2
              go_meet
              case rel => exact ⟨_, (true), (by first | rfl | (simp; done) | (simp [*]; done)), H', ⟨by have := HJ3.out; have := HJ7.out; first | omega | exact Nat.le_refl _⟩, by repeat (first | exact Drawn0.refl _ | apply Drawn0.step)⟩
             ·rw [if_neg c15] at H
              have c15b0 : decide (a0 ≤ 122) = false := decide_eq_false c15
              clear c15
              by_cases c16 : a0 = 95
              ·rw [if_pos c16] at H
               have c16b0 : (a0 == 95) = true := beq_iff_eq.mpr c16
               have c16b1 : (a0 != 95) = false := bne_eq_false_iff_eq.mpr c16
               clear c16
               have H' := Aside0.mk H
               clear H
               go_wp2
               go_meet
               case rel => exact ⟨_, (true), (by first | rfl | (simp; done) | (simp [*]; done)), H', ⟨by have := HJ3.out; have := HJ7.out; first | omega | exact Nat.le_refl _⟩, by repeat (first | exact Drawn0.refl _ | apply Drawn0.step)⟩
              ·rw [if_neg c16] at H
               have c16b0 : (a0 == 95) = false := beq_eq_false_iff_ne.mpr c16
               have c16b1 : (a0 != 95) = true := bne_iff_ne.mpr c16
               have H' := Aside0.mk H
               clear H
               go_wp2
               go_meet
               case rel => exact ⟨_, (decide (a0 ≥ 128)), (by first | rfl | (simp; done) | (simp [*]; done)), H', ⟨by have := HJ3.out; have := HJ7.out; first | omega | exact Nat.le_refl _⟩, by repeat (first | exact Drawn0.refl _ | apply Drawn0.step)⟩
            ·rw [if_neg c14] at H
             have c14b0 : decide (97 ≤ a0) = false := decide_eq_false c14
             clear c14
             by_cases c17 : a0 = 95
             ·rw [if_pos c17] at H
              have c17b0 : (a0 == 95) = true := beq_iff_eq.mpr c17
              have c17b1 : (a0 != 95) = false := bne_eq_false_iff_eq.mpr c17
              clear c17
              have H' := Aside0.mk H
              clear H
              go_wp2
              go_meet
              case rel => exact ⟨_, (true), (by first | rfl | (simp; done) | (simp [*]; done)), H', ⟨by have := HJ3.out; have := HJ7.out; first | omega | exact Nat.le_refl _⟩, by repeat (first | exact Drawn0.refl _ | apply Drawn0.step)⟩
             ·rw [if_neg c17] at H
              have c17b0 : (a0 == 95) = false := beq_eq_false_iff_ne.mpr c17
              have c17b1 : (a0 != 95) = true := bne_iff_ne.mpr c17
              have H' := Aside0.mk H
              clear H
              go_wp2
              go_meet
              case rel => exact ⟨_, (decide (a0 ≥ 128)), (by first | rfl | (simp; done) | (simp [*]; done)), H', ⟨by have := HJ3.out; have := HJ7.out; first | omega | exact Nat.le_refl _⟩, by repeat (first | exact Drawn0.refl _ | apply Drawn0.step)⟩
          ·rw [if_neg c12] at H
           have c12b0 : decide (65 ≤ a0) = false := decide_eq_false c12
           clear c12
           (first | rw [c12b0] | (simp only [i64_w, i32_w]; rw [c12b0]) | skip)
           by_cases c18 : a0 ≥ 97
           ·rw [if_pos c18] at H
            have c18b0 : decide (97 ≤ a0) = true := decide_eq_true c18
            clear c18
            by_cases c19 : a0 ≤ 122
            ·rw [if_pos c19] at H
             have c19b0 : decide (a0 ≤ 122) = true := decide_eq_true c19
             clear c19
             have H' := Aside0.mk H
             clear H
             go_wp2
             go_meet
             case rel => exact ⟨_, (true), (by first | rfl | (simp; done) | (simp [*]; done)), H', ⟨by have := HJ3.out; have := HJ7.out; first | omega | exact Nat.le_refl _⟩, by repeat (first | exact Drawn0.refl _ | apply Drawn0.step)⟩
            ·rw [if_neg c19] at H
             have c19b0 : decide (a0 ≤ 122) = false := decide_eq_false c19
             clear c19
             by_cases c20 : a0 = 95
             ·rw [if_pos c20] at H
              have c20b0 : (a0 == 95) = true := beq_iff_eq.mpr c20
              have c20b1 : (a0 != 95) = false := bne_eq_false_iff_eq.mpr c20
              clear c20
              have H' := Aside0.mk H
              clear H
              go_wp2
              go_meet
              case rel => exact ⟨_, (true), (by first | rfl | (simp; done) | (simp [*]; done)), H', ⟨by have := HJ3.out; have := HJ7.out; first | omega | exact Nat.le_refl _⟩, by repeat (first | exact Drawn0.refl _ | apply Drawn0.step)⟩
             ·rw [if_neg c20] at H
              have c20b0 : (a0 == 95) = false := beq_eq_false_iff_ne.mpr c20
              have c20b1 : (a0 != 95) = true := bne_iff_ne.mpr c20
              have H' := Aside0.mk H
              clear H
              go_wp2
              go_meet
              case rel => exact ⟨_, (decide (a0 ≥ 128)), (by first | rfl | (simp; done) | (simp [*]; done)), H', ⟨by have := HJ3.out; have := HJ7.out; first | omega | exact Nat.le_refl _⟩, by repeat (first | exact Drawn0.refl _ | apply Drawn0.step)⟩
           ·rw [if_neg c18] at H
            have c18b0 : decide (97 ≤ a0) = false := decide_eq_false c18
            clear c18
            by_cases c21 : a0 = 95
            ·rw [if_pos c21] at H
             have c21b0 : (a0 == 95) = true := beq_iff_eq.mpr c21
             have c21b1 : (a0 != 95) = false := bne_eq_false_iff_eq.mpr c21
             clear c21
             have H' := Aside0.mk H
             clear H
             go_wp2
             go_meet
             case rel => exact ⟨_, (true), (by first | rfl | (simp; done) | (simp [*]; done)), H', ⟨by have := HJ3.out; have := HJ7.out; first | omega | exact Nat.le_refl _⟩, by repeat (first | exact Drawn0.refl _ | apply Drawn0.step)⟩
            ·rw [if_neg c21] at H
             have c21b0 : (a0 == 95) = false := beq_eq_false_iff_ne.mpr c21
             have c21b1 : (a0 != 95) = true := bne_iff_ne.mpr c21
             have H' := Aside0.mk H
             clear H
             go_wp2
             go_meet
             case rel => exact ⟨_, (decide (a0 ≥ 128)), (by first | rfl | (simp; done) | (simp [*]; done)), H', ⟨by have := HJ3.out; have := HJ7.out; first | omega | exact Nat.le_refl _⟩, by repeat (first | exact Drawn0.refl _ | apply Drawn0.step)⟩
         case rest =>
          clear HC11
          try clear c1
          try clear c2
          try clear p2
          try clear c3
          try clear c3b0
          try clear c3b1
          try clear c4
          try clear c5
          try clear c5b0
          try clear c5b1
          try clear c6
          try clear c7
          try clear c7b0
          try clear c7b1
          try clear c9
          try clear c9b0
          try clear c10
          try clear c12
          try clear c12b0
          try clear c13
          try clear c13b0
          try clear c14
          try clear c14b0
          try clear c15
          try clear c15b0
          try clear c16
          try clear c16b0
          try clear c16b1
          try clear c17
          try clear c17b0
          try clear c17b1
          try clear c18
          try clear c18b0
          try clear c19
          try clear c19b0
          try clear c20
          try clear c20b0
          try clear c20b1
          try clear c21
          try clear c21b0
          try clear c21b1
          try clear p2
          obtain ⟨kq, x24_10, rfl, HA, HJ10, ⟨mc10, rfl⟩⟩ := hcut
          cases kq with
          | zero => exact absurd HA.out (by simp [runes_Kind.j2])
          | succ kj10 =>
           have H := HA.out
           clear HA
           simp only [runes_Kind.j2] at H
           by_cases c22 : x24_10 = true
           ·subst c22
            have H1 : (some 4) = some r := by rw [if_pos rfl] at H; exact H
            clear H
            have H := H1
            clear H1
            obtain rfl := Option.some.inj H
            go_wp2
            go_ret
            exact ⟨by first | rfl | (simp; done) | (simp [*]; done), by repeat (first | exact Drawn0.refl _ | apply Drawn0.step)⟩
           ·replace c22 := Bool.eq_false_iff.mpr c22
            subst c22
            have H1 : (if a0 > 32 then (if a0 < 127 then (some 5) else (some 0)) else (some 0)) = some r := by rw [if_neg (show ¬ (false = true) by decide)] at H; exact H
            clear H
            have H := H1
            clear H1
            by_cases c23 : a0 > 32
            ·rw [if_pos c23] at H
             have c23b0 : decide (32 < a0) = true := decide_eq_true c23
             clear c23
             by_cases c24 : a0 < 127
             ·rw [if_pos c24] at H
              have c24b0 : decide (a0 < 127) = true := decide_eq_true c24
              clear c24
              obtain rfl := Option.some.inj H
              go_wp2
              go_ret
              exact ⟨by first | rfl | (simp; done) | (simp [*]; done), by repeat (first | exact Drawn0.refl _ | apply Drawn0.step)⟩
             ·rw [if_neg c24] at H
              have c24b0 : decide (a0 < 127) = false := decide_eq_false c24
              clear c24
              obtain rfl := Option.some.inj H
              go_wp2
              go_ret
              exact ⟨by first | rfl | (simp; done) | (simp [*]; done), by repeat (first | exact Drawn0.refl _ | apply Drawn0.step)⟩
            ·rw [if_neg c23] at H
             have c23b0 : decide (32 < a0) = false := decide_eq_false c23
             clear c23
             obtain rfl := Option.some.inj H
             go_wp2
             go_ret
             exact ⟨by first | rfl | (simp; done) | (simp [*]; done), by repeat (first | exact Drawn0.refl _ | apply Drawn0.step)⟩

end Go.Proofs.YtmdmdbiinngneaaGreatDoor.Q
