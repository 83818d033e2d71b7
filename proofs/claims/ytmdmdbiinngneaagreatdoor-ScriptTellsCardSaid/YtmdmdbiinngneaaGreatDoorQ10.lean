-- Laid by prx.py (ours), out of the translation's print. Not trusted: Lean checks it.
import Derived.Test.YtmdmdbiinngneaaGreatDoorQ0
import Derived.Test.YtmdmdbiinngneaaGreatDoorQ2
import Derived.Test.YtmdmdbiinngneaaGreatDoorQ6
import Derived.Test.YtmdmdbiinngneaaGreatDoorQ9
namespace Go.Proofs.YtmdmdbiinngneaaGreatDoor.Q
open Go.RowKit Go.Proofs.YtmdmdbiinngneaaGreatDoorW.PrintWords Go.Proofs.YtmdmdbiinngneaaGreatDoorW.PrintLast Go.Proofs.YtmdmdbiinngneaaGreatDoorW.PrintMore
attribute [local go_sem] max2_int min2_int max_two min_two max_three min_three max_four min_four   -- for this text's walks alone
set_option linter.unusedVariables false
set_option linter.unusedSimpArgs false

/-! ### script_Parse: function 5 -/
mutual
def script_Parse.l0 : Nat → ByteArray → List (S36) → Int → Option ((List (S36)) × Int × Int)
 | 0, _, _, _ => none
 | k + 1, x0, x5, x6 => if x6 < (x0.size : Int) then (if 0 ≤ x6 then (if x6 ≤ (x0.size : Int) then ((strings_IndexByte.f (x0.extract (x6 : Int).toNat x0.size) 10).bind fun t115 => (if t115 ≥ 0 then (script_Parse.j1 k x0 x5 x6 (wrap64 (x6 + t115))) else (script_Parse.j1 k x0 x5 x6 (x0.size : Int)))) else (none)) else (none)) else (some (x5, 0, 0))
def script_Parse.j1 : Nat → ByteArray → List (S36) → Int → Int → Option ((List (S36)) × Int × Int)
 | 0, _, _, _, _ => none
 | k + 1, x0, x5, x6, x7 => if 0 ≤ x6 then (if x6 ≤ x7 then (if x7 ≤ (x0.size : Int) then ((lex_Lex.f (x0.extract (x6 : Int).toNat (x7 : Int).toNat)).bind fun bt116 => (if bt116.2.2 = 0 then (if (bt116.1.length : Int) > 0 then (script_Parse.j2 k x0 x5 x6 x7 bt116.1 ((x5.length : Int) == 1000)) else (script_Parse.j2 k x0 x5 x6 x7 bt116.1 false)) else (some (x5, wrap64 (x6 + bt116.2.1), bt116.2.2)))) else (none)) else (none)) else (none)
def script_Parse.j2 : Nat → ByteArray → List (S36) → Int → Int → List (S43) → Bool → Option ((List (S36)) × Int × Int)
 | 0, _, _, _, _, _, _ => none
 | k + 1, x0, x5, x6, x7, x9, x50 => if x50 = true then (if 0 < (x9.length : Int) then (some (x5, wrap64 (x6 + ((rd_T43 x9 0).f1)), 5)) else (none)) else (if (x9.length : Int) > 0 then ((script_line.f x9 (wrap64 (x7 - x6))).bind fun bt122 => (if bt122.2.2.2.2.2.2.2.2 = 0 then (if x5.length < 1759218604441 then (script_Parse.l0 k x0 (x5 ++ [(⟨bt122.1, bt122.2.1, (⟨bt122.2.2.1, bt122.2.2.2.1⟩ : S34), bt122.2.2.2.2.1, wrap64 (bt122.2.2.2.2.2.1 + x6), wrap64 (bt122.2.2.2.2.2.2.1 + x6)⟩ : S36)]) (wrap64 (x7 + 1))) else (none)) else (some (x5, wrap64 (x6 + bt122.2.2.2.2.2.2.2.1), bt122.2.2.2.2.2.2.2.2)))) else (script_Parse.l0 k x0 x5 (wrap64 (x7 + 1))))
end
def script_Parse.f (k : Nat) (a0 : ByteArray) : Option ((List (S36)) × Int × Int) := if (a0.size : Int) > 1048576 then (some (([] : List (S36)), 0, 5)) else (script_Parse.l0 k a0 ([] : List (S36)) 0)
theorem script_Parse.mono_l : ∀ k, (∀ y0 y1 y2, LeO (script_Parse.l0 k y0 y1 y2) (script_Parse.l0 (k + 1) y0 y1 y2)) ∧ (∀ y0 y1 y2 y3, LeO (script_Parse.j1 k y0 y1 y2 y3) (script_Parse.j1 (k + 1) y0 y1 y2 y3)) ∧ (∀ y0 y1 y2 y3 y4 y5, LeO (script_Parse.j2 k y0 y1 y2 y3 y4 y5) (script_Parse.j2 (k + 1) y0 y1 y2 y3 y4 y5))
 | 0 => ⟨fun _ _ _ r h => by simp [script_Parse.l0] at h, fun _ _ _ _ r h => by simp [script_Parse.j1] at h, fun _ _ _ _ _ _ r h => by simp [script_Parse.j2] at h⟩
 | k + 1 => by
  obtain ⟨ih0, ih1, ih2⟩ := script_Parse.mono_l k
  refine ⟨?_, ?_, ?_⟩
  ·intro y0 y1 y2
   unfold script_Parse.l0
   repeat' first
   | (with_reducible exact ih0 _ _ _)
   | (with_reducible exact ih1 _ _ _ _)
   | (with_reducible exact ih2 _ _ _ _ _ _)
   | (with_reducible exact LeO.refl _)
   | (with_reducible exact LeO.none _)
   | (with_reducible refine LeO.ite ?_ ?_)
   | (with_reducible refine LeO.bind ?_ (fun _ => ?_))
   | exact ih0 _ _ _
   | exact ih1 _ _ _ _
   | exact ih2 _ _ _ _ _ _
   | exact LeO.none _
   | refine LeO.ite ?_ ?_
   | refine LeO.bind ?_ (fun _ => ?_)
  ·intro y0 y1 y2 y3
   unfold script_Parse.j1
   repeat' first
   | (with_reducible exact ih0 _ _ _)
   | (with_reducible exact ih1 _ _ _ _)
   | (with_reducible exact ih2 _ _ _ _ _ _)
   | (with_reducible exact LeO.refl _)
   | (with_reducible exact LeO.none _)
   | (with_reducible refine LeO.ite ?_ ?_)
   | (with_reducible refine LeO.bind ?_ (fun _ => ?_))
   | exact ih0 _ _ _
   | exact ih1 _ _ _ _
   | exact ih2 _ _ _ _ _ _
   | exact LeO.none _
   | refine LeO.ite ?_ ?_
   | refine LeO.bind ?_ (fun _ => ?_)
  ·intro y0 y1 y2 y3 y4 y5
   unfold script_Parse.j2
   repeat' first
   | (with_reducible exact ih0 _ _ _)
   | (with_reducible exact ih1 _ _ _ _)
   | (with_reducible exact ih2 _ _ _ _ _ _)
   | (with_reducible exact LeO.refl _)
   | (with_reducible exact LeO.none _)
   | (with_reducible refine LeO.ite ?_ ?_)
   | (with_reducible refine LeO.bind ?_ (fun _ => ?_))
   | exact ih0 _ _ _
   | exact ih1 _ _ _ _
   | exact ih2 _ _ _ _ _ _
   | exact LeO.none _
   | refine LeO.ite ?_ ?_
   | refine LeO.bind ?_ (fun _ => ?_)
theorem script_Parse.mono : ∀ a0 k, LeO (script_Parse.f k a0) (script_Parse.f (k + 1) a0) := by
 intro a0 k
 obtain ⟨ih0, ih1, ih2⟩ := script_Parse.mono_l k
 unfold script_Parse.f
 repeat' first
   | (with_reducible exact ih0 _ _ _)
   | (with_reducible exact ih1 _ _ _ _)
   | (with_reducible exact ih2 _ _ _ _ _ _)
   | (with_reducible exact LeO.refl _)
   | (with_reducible exact LeO.none _)
   | (with_reducible refine LeO.ite ?_ ?_)
   | (with_reducible refine LeO.bind ?_ (fun _ => ?_))
   | exact ih0 _ _ _
   | exact ih1 _ _ _ _
   | exact ih2 _ _ _ _ _ _
   | exact LeO.none _
   | refine LeO.ite ?_ ?_
   | refine LeO.bind ?_ (fun _ => ?_)
set_option maxHeartbeats 8000000 in
set_option maxRecDepth 100000 in
theorem script_Parse.calls (k : Nat) (a0 : ByteArray) (r1 : List (S36)) (r2 : Int) (r3 : Int) (w : World) (hGW : GW w) (h : script_Parse.f k a0 = some (r1, r2, r3)) :
  Calls Tryz.prog 5 #[.string a0] w fun e w' => ∃ v0_ : Value, e = .returned (.tuple #[v0_, .int .i64 r2, .int .i64 r3]) ∧ Kd.S k36 36 w' w.heap.size (fun _ => True) v0_ r1 ∧ Below w.heap.size w w' := by
 have hu36 := Tryz.underlying36
 have HGW := Aside0.mk hGW
 clear hGW
 have HB := Aside0.mk (Below.refl w.heap.size w)
 have H : (if (a0.size : Int) > 1048576 then (some (([] : List (S36)), 0, 5)) else (script_Parse.l0 k a0 ([] : List (S36)) 0)) = some (r1, r2, r3) := h
 clear h
 by_cases c2 : (a0.size : Int) > 1048576
 ·rw [if_pos c2] at H
  have c2b0 : decide (1048576 < (a0.size : Int)) = true := decide_eq_true c2
  have c2b1 : decide (1048576 < a0.size) = true := decide_eq_true (by omega)
  clear c2
  simp only [Option.some.injEq, Prod.mk.injEq] at H
  obtain ⟨rfl, rfl, rfl⟩ := H
  go_enter Tryz.func5, Tryz.ntmps5
  go_wp2
  repeat (go_quiet (fail); try go_wp2)
  go_ret3
  exact ⟨_, by first | rfl | (simp [errW_none, errW_some] <;> rfl) | (simp [*, errW_none, errW_some] <;> rfl), by first | exact Kd.S_nil _ _ _ _ _ | exact Kd.N_nil _ _ _ _ _ | exact Kd.V_nil _ _ _ _ _ | exact Kd.Q_nil _ _ _ _ _ | exact Kd.R_nil _ _ _ _ _, by repeat (first | (with_reducible first | exact HB.out | apply below_alloc | apply pw_below_drewN | apply below_drew1) | exact HB.out)⟩
 ·rw [if_neg c2] at H
  have c2b0 : decide (1048576 < (a0.size : Int)) = false := decide_eq_false c2
  have c2b1 : decide (1048576 < a0.size) = false := decide_eq_false (by omega)
  clear c2
  have H' := Aside0.mk H
  clear H
  go_enter Tryz.func5, Tryz.ntmps5
  go_wp2
  repeat (go_quiet (fail); try go_wp2)
  go_loopg [5, 6] k (fun kq v5 v6 w' => ∃ (x5_1 : List (S36)) (x6_1 : Int), v6 = .int .i64 x6_1 ∧ Aside0 (script_Parse.l0 kq a0 x5_1 x6_1 = some (r1, r2, r3)) ∧ Aside0 (kq ≤ k) ∧ Aside0 (Kd.S k36 36 w' w.heap.size (fun _ => True) v5 x5_1) ∧ Aside0 (Below w.heap.size w w'))
  case atStart => exact ⟨(([] : List (S36))), (0), (by first | rfl | (simp; done) | (simp [*]; done)), H', ⟨Nat.le_refl _⟩, ⟨by first | exact Kd.S_nil _ _ _ _ _ | exact Kd.N_nil _ _ _ _ _ | exact Kd.V_nil _ _ _ _ _ | exact Kd.Q_nil _ _ _ _ _ | exact Kd.R_nil _ _ _ _ _⟩, ⟨by repeat (first | (with_reducible first | exact HB.out | apply below_alloc | apply pw_below_drewN | apply below_drew1) | exact HB.out)⟩⟩
  case round =>
   clear H'
   try clear c2
   try clear c2b0
   try clear c2b1
   try clear p2
   obtain ⟨x5_1, x6_1, rfl, HA, HK1, HO_5, HB⟩ := hrel
   cases gk with
   | zero => exact absurd HA.out (by simp [script_Parse.l0])
   | succ k1 =>
    have H := HA.out
    clear HA
    simp only [script_Parse.l0] at H
    by_cases c3 : x6_1 < (a0.size : Int)
    ·rw [if_pos c3] at H
     have c3b0 : decide (x6_1 < (a0.size : Int)) = true := decide_eq_true c3
     clear c3
     by_cases c4 : 0 ≤ x6_1
     ·rw [if_pos c4] at H
      have c4b0 := eq_true c4
      have c4b1 : decide (0 ≤ x6_1) = true := decide_eq_true c4
      clear c4
      by_cases c5 : x6_1 ≤ (a0.size : Int)
      ·rw [if_pos c5] at H
       have c5b0 := eq_true c5
       have c5b1 : decide (x6_1 ≤ (a0.size : Int)) = true := decide_eq_true c5
       clear c5
       replace H := Option.bind_eq_some_iff.mp H
       obtain ⟨t115, A60, H⟩ := H
       replace H : (if t115 ≥ 0 then (script_Parse.j1 k1 a0 x5_1 x6_1 (wrap64 (x6_1 + t115))) else (script_Parse.j1 k1 a0 x5_1 x6_1 (a0.size : Int))) = some (r1, r2, r3) := H
       have A6 := Aside0.mk A60
       clear A60
       have HC7 := Aside0.mk H
       clear H
       go_upto_if 29 with (first | (go_at_call 9; (with_reducible refine (strings_IndexByte.calls (a0.extract (x6_1 : Int).toNat a0.size) 10 t115 _ A6.out).mono ?_); rintro e w' ⟨rfl, ⟨nd, rfl⟩⟩; (try first | exact ⟨rfl, _, World.drewN_drewN _ _ _⟩ | exact ⟨rfl, _, Eq.trans (World.drewN_drewN _ _ _) (congrArg (World.drewN _) (Nat.add_assoc _ _ _))⟩)))
       (try simp only [Act.put, List.setIfInBounds_toArray, List.set_cons_zero, List.set_cons_succ])
       go_cut [7] (fun v7 wc => ∃ (kq : Nat) (x7_6 : Int), v7 = .int .i64 x7_6 ∧ Aside0 (script_Parse.j1 kq a0 x5_1 x6_1 x7_6 = some (r1, r2, r3)) ∧ Aside0 (kq ≤ k1) ∧ Aside0 (Kd.S k36 36 wc w.heap.size (fun _ => True) u5 x5_1) ∧ Aside0 (Below w.heap.size w wc))
       case first =>
        have H := HC7.out
        clear HC7
        by_cases c8 : t115 ≥ 0
        ·rw [if_pos c8] at H
         have c8b0 : decide (0 ≤ t115) = true := decide_eq_true c8
         clear c8
         (first | rw [c8b0] | (simp only [i64_w, i32_w]; rw [c8b0]) | skip)
         have H' := Aside0.mk H
         clear H
         go_wp2
         repeat (go_quiet (fail); try go_wp2)
         go_meet
         case rel => exact ⟨_, (wrap64 (x6_1 + t115)), (by first | rfl | (simp; done) | (simp [*]; done)), H', ⟨by have := HK1.out; first | omega | exact Nat.le_refl _⟩, ⟨by (with_reducible repeat (first | apply Kd.S_alloc | apply Kd.S_drewN | apply Kd.S_drew)); exact HO_5.out⟩, ⟨by repeat (first | (with_reducible first | exact HB.out | apply below_alloc | apply pw_below_drewN | apply below_drew1) | exact HB.out)⟩⟩
        ·rw [if_neg c8] at H
         have c8b0 : decide (0 ≤ t115) = false := decide_eq_false c8
         clear c8
         (first | rw [c8b0] | (simp only [i64_w, i32_w]; rw [c8b0]) | skip)
         have H' := Aside0.mk H
         clear H
         go_wp2
         repeat (go_quiet (fail); try go_wp2)
         go_meet
         case rel => exact ⟨_, ((a0.size : Int)), (by first | rfl | (simp; done) | (simp [*]; done)), H', ⟨by have := HK1.out; first | omega | exact Nat.le_refl _⟩, ⟨by (with_reducible repeat (first | apply Kd.S_alloc | apply Kd.S_drewN | apply Kd.S_drew)); exact HO_5.out⟩, ⟨by repeat (first | (with_reducible first | exact HB.out | apply below_alloc | apply pw_below_drewN | apply below_drew1) | exact HB.out)⟩⟩
       case rest =>
        clear HC7
        try clear c2
        try clear c2b0
        try clear c2b1
        try clear p2
        try clear c3
        try clear c3b0
        try clear c4
        try clear c4b0
        try clear c4b1
        try clear c5
        try clear c5b0
        try clear c5b1
        try clear p6
        try clear c8
        try clear c8b0
        try clear p2
        obtain ⟨kq, x7_6, rfl, HA, HJ6, HO_5, HB⟩ := hcut
        cases kq with
        | zero => exact absurd HA.out (by simp [script_Parse.j1])
        | succ kj6 =>
         have H := HA.out
         clear HA
         simp only [script_Parse.j1] at H
         by_cases c9 : 0 ≤ x6_1
         ·rw [if_pos c9] at H
          have c9b0 := eq_true c9
          have c9b1 : decide (0 ≤ x6_1) = true := decide_eq_true c9
          clear c9
          by_cases c10 : x6_1 ≤ x7_6
          ·rw [if_pos c10] at H
           have c10b0 := eq_true c10
           have c10b1 : decide (x6_1 ≤ x7_6) = true := decide_eq_true c10
           clear c10
           by_cases c11 : x7_6 ≤ (a0.size : Int)
           ·rw [if_pos c11] at H
            have c11b0 := eq_true c11
            have c11b1 : decide (x7_6 ≤ (a0.size : Int)) = true := decide_eq_true c11
            clear c11
            replace H := Option.bind_eq_some_iff.mp H
            obtain ⟨⟨t116, t117, t118⟩, A120, H⟩ := H
            replace H : (if t118 = 0 then (if (t116.length : Int) > 0 then (script_Parse.j2 kj6 a0 x5_1 x6_1 x7_6 t116 ((x5_1.length : Int) == 1000)) else (script_Parse.j2 kj6 a0 x5_1 x6_1 x7_6 t116 false)) else (some (x5_1, wrap64 (x6_1 + t117), t118))) = some (r1, r2, r3) := H
            have A12 := Aside0.mk A120
            clear A120
            by_cases c13 : t118 = 0
            ·rw [if_pos c13] at H
             have c13b0 : (t118 == 0) = true := beq_iff_eq.mpr c13
             have c13b1 : (t118 != 0) = false := bne_eq_false_iff_eq.mpr c13
             clear c13
             have HC14 := Aside0.mk H
             clear H
             go_upto_region 13 with (first | (go_at_call 10; (with_reducible refine (lex_Lex.calls (a0.extract (x6_1 : Int).toNat (x7_6 : Int).toNat) t116 t117 t118 _ ?side1 A12.out).mono ?_); (case side1 => exact GW.of_below HGW.out (by repeat (first | (with_reducible first | exact HB.out | apply below_alloc | apply pw_below_drewN | apply below_drew1) | exact HB.out))); rintro e w15 ⟨v119, rfl, ho0, hb⟩; have n0_ := Aside0.mk (Kd.S_below (by (with_reducible repeat (first | apply Kd.S_alloc | apply Kd.S_drewN | apply Kd.S_drew)); exact HO_5.out) hb); have n1_ := Aside0.mk (Kd.R_lower ho0 (below_size (by repeat (first | (with_reducible first | exact HB.out | apply below_alloc | apply pw_below_drewN | apply below_drew1) | exact HB.out)))); have n2_ := Aside0.mk (below_step (by repeat (first | (with_reducible first | exact HB.out | apply below_alloc | apply pw_below_drewN | apply below_drew1) | exact HB.out)) hb); clear HO_5; clear HB; have HO_5 := n0_; have HO120 := n1_; have HB := n2_; clear n0_ n1_ n2_; (try clear hb); (try clear hb2); (try clear hk); (try clear hi); (try clear ho0)))
             (try simp only [Act.put, List.setIfInBounds_toArray, List.set_cons_zero, List.set_cons_succ])
             go_cut [50] (fun v50 wc => ∃ (kq : Nat) (x50_13 : Bool), v50 = .bool x50_13 ∧ Aside0 (script_Parse.j2 kq a0 x5_1 x6_1 x7_6 t116 x50_13 = some (r1, r2, r3)) ∧ Aside0 (kq ≤ kj6) ∧ Aside0 (Kd.S k36 36 wc w.heap.size (fun _ => True) u5 x5_1) ∧ Aside0 (Kd.R k43 43 wc w.heap.size (fun _ => True) v119 t116) ∧ Aside0 (Below w.heap.size w wc))
             case first =>
              have H := HC14.out
              clear HC14
              by_cases c16 : (t116.length : Int) > 0
              ·rw [if_pos c16] at H
               have c16b0 : decide (0 < (t116.length : Int)) = true := decide_eq_true c16
               have c16b1 : decide (0 < t116.length) = true := decide_eq_true (by omega)
               clear c16
               (first | rw [c16b0] | (simp only [i64_w, i32_w]; rw [c16b0]) | skip)
               have H' := Aside0.mk H
               clear H
               obtain ⟨Ao17, co17, eo17⟩ := Kd.R_slice HO120.out
               subst eo17
               obtain ⟨Ao18, co18, eo18⟩ := Kd.S_slice HO_5.out
               subst eo18
               go_wp2
               repeat (go_quiet (fail); try go_wp2)
               go_meet
               case rel => exact ⟨_, (((x5_1.length : Int) == 1000)), (by first | rfl | (simp; done) | (simp [*]; done)), H', ⟨by have := HK1.out; have := HJ6.out; first | omega | exact Nat.le_refl _⟩, ⟨by (with_reducible repeat (first | apply Kd.S_alloc | apply Kd.S_drewN | apply Kd.S_drew)); exact HO_5.out⟩, ⟨by (with_reducible repeat (first | apply Kd.R_alloc | apply Kd.R_drewN | apply Kd.R_drew)); exact HO120.out⟩, ⟨by repeat (first | (with_reducible first | exact HB.out | apply below_alloc | apply pw_below_drewN | apply below_drew1) | exact HB.out)⟩⟩
              ·rw [if_neg c16] at H
               have c16b0 : decide (0 < (t116.length : Int)) = false := decide_eq_false c16
               have c16b1 : decide (0 < t116.length) = false := decide_eq_false (by omega)
               clear c16
               (first | rw [c16b0] | (simp only [i64_w, i32_w]; rw [c16b0]) | skip)
               have H' := Aside0.mk H
               clear H
               obtain ⟨Ao19, co19, eo19⟩ := Kd.R_slice HO120.out
               subst eo19
               go_wp2
               repeat (go_quiet (fail); try go_wp2)
               go_meet
               case rel => exact ⟨_, (false), (by first | rfl | (simp; done) | (simp [*]; done)), H', ⟨by have := HK1.out; have := HJ6.out; first | omega | exact Nat.le_refl _⟩, ⟨by (with_reducible repeat (first | apply Kd.S_alloc | apply Kd.S_drewN | apply Kd.S_drew)); exact HO_5.out⟩, ⟨by (with_reducible repeat (first | apply Kd.R_alloc | apply Kd.R_drewN | apply Kd.R_drew)); exact HO120.out⟩, ⟨by repeat (first | (with_reducible first | exact HB.out | apply below_alloc | apply pw_below_drewN | apply below_drew1) | exact HB.out)⟩⟩
             case rest =>
              clear HC14
              try clear c1
              try clear c2
              try clear c2b0
              try clear c2b1
              try clear p2
              try clear c3
              try clear c3b0
              try clear c4
              try clear c4b0
              try clear c4b1
              try clear c5
              try clear c5b0
              try clear c5b1
              try clear p6
              try clear c8
              try clear c8b0
              try clear c9
              try clear c9b0
              try clear c9b1
              try clear c10
              try clear c10b0
              try clear c10b1
              try clear c11
              try clear c11b0
              try clear c11b1
              try clear c13
              try clear c13b0
              try clear c13b1
              try clear c16
              try clear c16b0
              try clear c16b1
              try clear p2
              try clear p6
              obtain ⟨kq, x50_13, rfl, HA, HJ13, HO_5, HO_9, HB⟩ := hcut
              cases kq with
              | zero => exact absurd HA.out (by simp [script_Parse.j2])
              | succ kj13 =>
               have H := HA.out
               clear HA
               simp only [script_Parse.j2] at H
               by_cases c20 : x50_13 = true
               ·subst c20
                have H1 : (if 0 < (t116.length : Int) then (some (x5_1, wrap64 (x6_1 + ((rd_T43 t116 0).f1)), 5)) else (none)) = some (r1, r2, r3) := by rw [if_pos rfl] at H; exact H
                clear H
                have H := H1
                clear H1
                by_cases c21 : 0 < (t116.length : Int)
                ·rw [if_pos c21] at H
                 have c21b0 : decide (0 < (t116.length : Int)) = true := decide_eq_true c21
                 have c21b1 : decide (0 < t116.length) = true := decide_eq_true (by omega)
                 clear c21
                 simp only [Option.some.injEq, Prod.mk.injEq] at H
                 obtain ⟨rfl, rfl, rfl⟩ := H
                 obtain ⟨Ao22, co22, eo22⟩ := Kd.R_slice HO_9.out
                 subst eo22
                 have p121 : 0 ≤ (0 : Int) := (by omega)
                 have q121 : 0 < (t116.length : Int) := of_decide_eq_true (by first | (with_reducible assumption) | assumption)
                 obtain ⟨ad121, e121, hx121_0, hx121_1, hx121_2, hx121_3⟩ := at_T43 (Kd.R_reads' HO_9.out).2.2 0 p121 q121
                 cases e121
                 have qi121 : (0 < t116.length) = True := eq_true (by omega)
                 (try rw [show ((0 : Int)).toNat = 0 from rfl] at hx121_0)
                 (try rw [show 0 * 4 = 0 from rfl] at hx121_0)
                 (try rw [Addr.add_zero'] at hx121_0)
                 (try rw [show ((0 : Int)).toNat = 0 from rfl] at hx121_1)
                 (try rw [show 0 * 4 = 0 from rfl] at hx121_1)
                 (try rw [Addr.add_zero'] at hx121_1)
                 (try rw [show ((0 : Int)).toNat = 0 from rfl] at hx121_2)
                 (try rw [show 0 * 4 = 0 from rfl] at hx121_2)
                 (try rw [Addr.add_zero'] at hx121_2)
                 (try rw [show ((0 : Int)).toNat = 0 from rfl] at hx121_3)
                 (try rw [show 0 * 4 = 0 from rfl] at hx121_3)
                 (try rw [Addr.add_zero'] at hx121_3)
                 replace p121 := eq_true p121
                 replace q121 := eq_true q121
                 go_wp2
                 repeat (go_quiet (fail); try go_wp2)
                 go_ret3
                 exact ⟨_, by first | rfl | (simp [errW_none, errW_some] <;> rfl) | (simp [*, errW_none, errW_some] <;> rfl), by (with_reducible repeat (first | apply Kd.S_alloc | apply Kd.S_drewN | apply Kd.S_drew)); exact HO_5.out, by repeat (first | (with_reducible first | exact HB.out | apply below_alloc | apply pw_below_drewN | apply below_drew1) | exact HB.out)⟩
                ·rw [if_neg c21] at H
                 exact absurd H (by simp)
               ·replace c20 := Bool.eq_false_iff.mpr c20
                subst c20
                have H1 : (if (t116.length : Int) > 0 then ((script_line.f t116 (wrap64 (x7_6 - x6_1))).bind fun bt122 => (if bt122.2.2.2.2.2.2.2.2 = 0 then (if x5_1.length < 1759218604441 then (script_Parse.l0 kj13 a0 (x5_1 ++ [(⟨bt122.1, bt122.2.1, (⟨bt122.2.2.1, bt122.2.2.2.1⟩ : S34), bt122.2.2.2.2.1, wrap64 (bt122.2.2.2.2.2.1 + x6_1), wrap64 (bt122.2.2.2.2.2.2.1 + x6_1)⟩ : S36)]) (wrap64 (x7_6 + 1))) else (none)) else (some (x5_1, wrap64 (x6_1 + bt122.2.2.2.2.2.2.2.1), bt122.2.2.2.2.2.2.2.2)))) else (script_Parse.l0 kj13 a0 x5_1 (wrap64 (x7_6 + 1)))) = some (r1, r2, r3) := by rw [if_neg (show ¬ (false = true) by decide)] at H; exact H
                clear H
                have H := H1
                clear H1
                by_cases c23 : (t116.length : Int) > 0
                ·rw [if_pos c23] at H
                 have c23b0 : decide (0 < (t116.length : Int)) = true := decide_eq_true c23
                 have c23b1 : decide (0 < t116.length) = true := decide_eq_true (by omega)
                 clear c23
                 replace H := Option.bind_eq_some_iff.mp H
                 obtain ⟨⟨t122, t123, t124, t125, t128, t129, t130, t131, t132⟩, A240, H⟩ := H
                 replace H : (if t132 = 0 then (if x5_1.length < 1759218604441 then (script_Parse.l0 kj13 a0 (x5_1 ++ [(⟨t122, t123, (⟨t124, t125⟩ : S34), t128, wrap64 (t129 + x6_1), wrap64 (t130 + x6_1)⟩ : S36)]) (wrap64 (x7_6 + 1))) else (none)) else (some (x5_1, wrap64 (x6_1 + t131), t132))) = some (r1, r2, r3) := H
                 have A24 := Aside0.mk A240
                 clear A240
                 by_cases c25 : t132 = 0
                 ·rw [if_pos c25] at H
                  have c25b0 : (t132 == 0) = true := beq_iff_eq.mpr c25
                  have c25b1 : (t132 != 0) = false := bne_eq_false_iff_eq.mpr c25
                  clear c25
                  by_cases c26 : x5_1.length < 1759218604441
                  ·rw [if_pos c26] at H
                   have LMc26 := Aside0.mk c26
                   clear c26
                   obtain ⟨y134, hy134⟩ : ∃ y_ : List (S36), y_ = (x5_1 ++ [(⟨t122, t123, (⟨t124, t125⟩ : S34), t128, wrap64 (t129 + x6_1), wrap64 (t130 + x6_1)⟩ : S36)]) := ⟨_, rfl⟩
                   replace H : (script_Parse.l0 kj13 a0 y134 (wrap64 (x7_6 + 1))) = some (r1, r2, r3) := by first | (rw [hy134]; with_reducible exact H) | (have H2_ := (Option.bind_some _ _).symm.trans H; rw [hy134]; with_reducible exact H2_) | (have H2_ := (Option.bind_some _ _).symm.trans H; with_reducible exact H2_) | with_reducible exact H | (rw [hy134]; exact H) | exact H
                   have Ny134 := Aside0.mk hy134
                   clear hy134
                   have H' := Aside0.mk H
                   clear H
                   obtain ⟨Ao27, co27, eo27⟩ := Kd.R_slice HO_9.out
                   subst eo27
                   go_wp2_with (first | (go_at_call 11; (with_reducible refine (script_line.calls _ _ t116 (wrap64 (x7_6 - x6_1)) t122 t123 t124 t125 t128 t129 t130 t131 t132 _ ?side1 ?side2 A24.out).mono ?_); (case side1 => repeat (first | exact (Kd.R_reads' HO_9.out).2.2 | (with_reducible refine Kd.C_alloc ?_ _) | (with_reducible refine Kd.C_drewN ?_ _) | (with_reducible refine Kd.C_drew ?_))); (case side2 => exact (Kd.R_reads' HO_9.out).2.1); rintro e w28 ⟨v126, rfl, ho0, hb⟩; have n0_ := Aside0.mk (Kd.S_elder' (by (with_reducible repeat (first | apply Kd.S_alloc | apply Kd.S_drewN | apply Kd.S_drew)); exact HO_5.out) (Kd.R_base ho0) hb); have n1_ := Aside0.mk (Kd.R_below (by (with_reducible repeat (first | apply Kd.R_alloc | apply Kd.R_drewN | apply Kd.R_drew)); exact HO_9.out) hb); have n2_ := Aside0.mk (Kd.R_lower ho0 (below_size (by repeat (first | (with_reducible first | exact HB.out | apply below_alloc | apply pw_below_drewN | apply below_drew1) | exact HB.out)))); have n3_ := Aside0.mk (below_step (by repeat (first | (with_reducible first | exact HB.out | apply below_alloc | apply pw_below_drewN | apply below_drew1) | exact HB.out)) hb); clear HO_5; clear HO_9; clear HB; have HO_5 := n0_; have HO_9 := n1_; have HO127 := n2_; have HB := n3_; clear n0_ n1_ n2_ n3_; (try clear hb); (try clear hb2); (try clear hk); (try clear hi); (try clear ho0)) | ((with_reducible refine gate_dst (N := 12) rfl ?_); (try (refine gate_guard (by rfl) ?_; dsimp only)); refine box_event ?hg (N := 12) ?hd (cs := #[.int .i64 0, .string (⟨#[]⟩ : ByteArray), .int .i64 0, .slice none 0 0, .int .i64 0, .int .i64 0, .int .i64 0]) (t := 36) ?hr ?_; (case hd => rfl); (case hg => rfl); (case hr => first | (go_simp; done) | (go_simp; rfl)); intro gb133 hg w29 hbox hb; have n0_ := Aside0.mk (Kd.S_below (Kd.S_elderB (by (with_reducible repeat (first | apply Kd.S_alloc | apply Kd.S_drewN | apply Kd.S_drew)); exact HO_5.out) gb133 (Nat.le_of_eq hg.symm)) hb); have n1_ := Aside0.mk (Kd.R_below (by (with_reducible repeat (first | apply Kd.R_alloc | apply Kd.R_drewN | apply Kd.R_drew)); exact HO_9.out) hb); have n2_ := Aside0.mk (Kd.R_below (by (with_reducible repeat (first | apply Kd.R_alloc | apply Kd.R_drewN | apply Kd.R_drew)); exact HO127.out) hb); have n3_ := Aside0.mk (below_step (by repeat (first | (with_reducible first | exact HB.out | apply below_alloc | apply pw_below_drewN | apply below_drew1) | exact HB.out)) hb); have n4_ := Aside0.mk (hbox); have n5_ := Aside0.mk ((by rw [hg]; exact (below_size (by repeat (first | (with_reducible first | exact HB.out | apply below_alloc | apply pw_below_drewN | apply below_drew1) | exact HB.out))) : w.heap.size ≤ gb133)); have n6_ := Aside0.mk ((by rw [hg]; exact (below_size (by repeat (first | (with_reducible first | exact HB.out | apply below_alloc | apply pw_below_drewN | apply below_drew1) | exact HB.out))) : w.heap.size ≤ gb133)); clear HO_5; clear HO_9; clear HO127; clear HB; have HO_5 := n0_; have HO_9 := n1_; have HO127 := n2_; have HB := n3_; have BK133 := n4_; have GW133 := n5_; have GE133 := n6_; clear n0_ n1_ n2_ n3_ n4_ n5_ n6_; clear hb hbox hg; have hcz30_0 : w29.cell? ⟨gb133, 0, none⟩ = some (.int .i64 0) := (blk_cell BK133.out 0).trans rfl; have hcz30_1 : w29.cell? ⟨gb133, 1, none⟩ = some (.string (⟨#[]⟩ : ByteArray)) := (blk_cell BK133.out 1).trans rfl; have hcz30_2 : w29.cell? ⟨gb133, 2, none⟩ = some (.int .i64 0) := (blk_cell BK133.out 2).trans rfl; have hcz30_3 : w29.cell? ⟨gb133, 3, none⟩ = some (.slice none 0 0) := (blk_cell BK133.out 3).trans rfl; have hcz30_4 : w29.cell? ⟨gb133, 4, none⟩ = some (.int .i64 0) := (blk_cell BK133.out 4).trans rfl; have hcz30_5 : w29.cell? ⟨gb133, 5, none⟩ = some (.int .i64 0) := (blk_cell BK133.out 5).trans rfl; have hcz30_6 : w29.cell? ⟨gb133, 6, none⟩ = some (.int .i64 0) := (blk_cell BK133.out 6).trans rfl; have hfz30_0 := blk_frozen BK133.out 0; have hfz30_1 := blk_frozen BK133.out 1; have hfz30_2 := blk_frozen BK133.out 2; have hfz30_3 := blk_frozen BK133.out 3; have hfz30_4 := blk_frozen BK133.out 4; have hfz30_5 := blk_frozen BK133.out 5; have hfz30_6 := blk_frozen BK133.out 6; obtain ⟨Ao31, co31, eo31⟩ := Kd.R_slice HO127.out; subst eo31) | ((with_reducible refine gate_store (t := 36) (p := 12) rfl ?_); (try (rw [drewN_self w29]; generalize hq_ : World.drewN w29 _ = w29; have n0_ := Aside0.mk (Kd.S_at hq_ HO_5.out); have n1_ := Aside0.mk (Kd.R_at hq_ HO_9.out); have n2_ := Aside0.mk (Kd.R_at hq_ HO127.out); have n3_ := Aside0.mk (blk_at hq_ BK133.out); have n4_ := Aside0.mk (below_at hq_ HB.out); clear hq_ HO_5 HO_9 HO127 BK133 HB; have HO_5 := n0_; have HO_9 := n1_; have HO127 := n2_; have BK133 := n3_; have HB := n4_; clear n0_ n1_ n2_ n3_ n4_)); refine store_event (t := 36) (p := 12) (v := ?vo_w32) (w1 := (((((((w29.setCell ⟨gb133, 0, none⟩ (.int .i64 t122)).setCell ⟨gb133, 1, none⟩ (.string t123)).setCell ⟨gb133, 2, none⟩ (.int .i64 t124)).setCell ⟨gb133, 3, none⟩ (.slice Ao31 t125.length co31)).setCell ⟨gb133, 4, none⟩ (.int .i64 t128)).setCell ⟨gb133, 5, none⟩ (.int .i64 t129)).setCell ⟨gb133, 6, none⟩ (.int .i64 t130))) ?hg ?ho ?hn ?hr ?_; (case ho => rfl); (case hg => rfl); (case hn => rfl); (case hr => first | (go_simp; done) | (go_simp; rfl)); intro w32 hw; have n0_ : Aside0 (Kd.S k36 36 w32 w.heap.size (fun k_ => some k_ ≠ (.slice Ao31 t125.length co31 : Value).ownBlock ∧ k_ ≠ gb133) u5 x5_1) := ⟨(by rw [hw]; exact (by (with_reducible repeat (first | apply Kd.S_alloc | apply Kd.S_drewN | apply Kd.S_drew)); exact Kd.S_mono (Kd.S_far (p := ⟨gb133, 6, none⟩) (Kd.S_far (p := ⟨gb133, 5, none⟩) (Kd.S_far (p := ⟨gb133, 4, none⟩) (Kd.S_far (p := ⟨gb133, 3, none⟩) (Kd.S_far (p := ⟨gb133, 2, none⟩) (Kd.S_far (p := ⟨gb133, 1, none⟩) (Kd.S_far (p := ⟨gb133, 0, none⟩) (Kd.S_mono HO_5.out (fun k_ hk => (⟨hk, hk.2⟩ : _ ∧ k_ ≠ gb133))) (fun _ hk => hk.2) (.int .i64 t122)) (fun _ hk => hk.2) (.string t123)) (fun _ hk => hk.2) (.int .i64 t124)) (fun _ hk => hk.2) (.slice Ao31 t125.length co31)) (fun _ hk => hk.2) (.int .i64 t128)) (fun _ hk => hk.2) (.int .i64 t129)) (fun _ hk => hk.2) (.int .i64 t130)) (fun _ hk => ⟨hk.1.1.2, hk.1.2⟩)))⟩; have n1_ : Aside0 (Kd.R k43 43 w32 w.heap.size (fun _ => True) (.slice Ao27 t116.length co27) t116) := ⟨(by rw [hw]; exact (by (with_reducible repeat (first | apply Kd.R_alloc | apply Kd.R_drewN | apply Kd.R_drew)); exact Kd.R_mono (Kd.R_far (p := ⟨gb133, 6, none⟩) (Kd.R_far (p := ⟨gb133, 5, none⟩) (Kd.R_far (p := ⟨gb133, 4, none⟩) (Kd.R_far (p := ⟨gb133, 3, none⟩) (Kd.R_far (p := ⟨gb133, 2, none⟩) (Kd.R_far (p := ⟨gb133, 1, none⟩) (Kd.R_far (p := ⟨gb133, 0, none⟩) (Kd.R_types HO_9.out BK133.out (by decide)) (fun _ hk => hk.2) (.int .i64 t122)) (fun _ hk => hk.2) (.string t123)) (fun _ hk => hk.2) (.int .i64 t124)) (fun _ hk => hk.2) (.slice Ao31 t125.length co31)) (fun _ hk => hk.2) (.int .i64 t128)) (fun _ hk => hk.2) (.int .i64 t129)) (fun _ hk => hk.2) (.int .i64 t130)) (fun _ hk => trivial)))⟩; have n2_ : Aside0 (Kd.R k64 64 w32 w.heap.size (fun _ => True) (.slice Ao31 t125.length co31) t125) := ⟨(by rw [hw]; exact (by (with_reducible repeat (first | apply Kd.R_alloc | apply Kd.R_drewN | apply Kd.R_drew)); exact Kd.R_mono (Kd.R_far (p := ⟨gb133, 6, none⟩) (Kd.R_far (p := ⟨gb133, 5, none⟩) (Kd.R_far (p := ⟨gb133, 4, none⟩) (Kd.R_far (p := ⟨gb133, 3, none⟩) (Kd.R_far (p := ⟨gb133, 2, none⟩) (Kd.R_far (p := ⟨gb133, 1, none⟩) (Kd.R_far (p := ⟨gb133, 0, none⟩) (Kd.R_types HO127.out BK133.out (by decide)) (fun _ hk => hk.2) (.int .i64 t122)) (fun _ hk => hk.2) (.string t123)) (fun _ hk => hk.2) (.int .i64 t124)) (fun _ hk => hk.2) (.slice Ao31 t125.length co31)) (fun _ hk => hk.2) (.int .i64 t128)) (fun _ hk => hk.2) (.int .i64 t129)) (fun _ hk => hk.2) (.int .i64 t130)) (fun _ hk => trivial)))⟩; have n3_ : Aside0 (w32.heap[gb133]? = some (.cells #[.int .i64 t122, .string t123, .int .i64 t124, .slice Ao31 t125.length co31, .int .i64 t128, .int .i64 t129, .int .i64 t130] 36 (0, 0))) := ⟨(by rw [hw]; exact (by (with_reducible repeat (first | refine blk_drewN ?_ _ | refine blk_drew ?_ | refine blk_alloc ?_ _)); refine blk_put (cs := #[.int .i64 t122, .string t123, .int .i64 t124, .slice Ao31 t125.length co31, .int .i64 t128, .int .i64 t129, .int .i64 0]) ?_ 6 _ rfl; (with_reducible repeat (first | refine blk_drewN ?_ _ | refine blk_drew ?_ | refine blk_alloc ?_ _)); refine blk_put (cs := #[.int .i64 t122, .string t123, .int .i64 t124, .slice Ao31 t125.length co31, .int .i64 t128, .int .i64 0, .int .i64 0]) ?_ 5 _ rfl; (with_reducible repeat (first | refine blk_drewN ?_ _ | refine blk_drew ?_ | refine blk_alloc ?_ _)); refine blk_put (cs := #[.int .i64 t122, .string t123, .int .i64 t124, .slice Ao31 t125.length co31, .int .i64 0, .int .i64 0, .int .i64 0]) ?_ 4 _ rfl; (with_reducible repeat (first | refine blk_drewN ?_ _ | refine blk_drew ?_ | refine blk_alloc ?_ _)); refine blk_put (cs := #[.int .i64 t122, .string t123, .int .i64 t124, .slice none 0 0, .int .i64 0, .int .i64 0, .int .i64 0]) ?_ 3 _ rfl; (with_reducible repeat (first | refine blk_drewN ?_ _ | refine blk_drew ?_ | refine blk_alloc ?_ _)); refine blk_put (cs := #[.int .i64 t122, .string t123, .int .i64 0, .slice none 0 0, .int .i64 0, .int .i64 0, .int .i64 0]) ?_ 2 _ rfl; (with_reducible repeat (first | refine blk_drewN ?_ _ | refine blk_drew ?_ | refine blk_alloc ?_ _)); refine blk_put (cs := #[.int .i64 t122, .string (⟨#[]⟩ : ByteArray), .int .i64 0, .slice none 0 0, .int .i64 0, .int .i64 0, .int .i64 0]) ?_ 1 _ rfl; (with_reducible repeat (first | refine blk_drewN ?_ _ | refine blk_drew ?_ | refine blk_alloc ?_ _)); refine blk_put (cs := #[.int .i64 0, .string (⟨#[]⟩ : ByteArray), .int .i64 0, .slice none 0 0, .int .i64 0, .int .i64 0, .int .i64 0]) ?_ 0 _ rfl; (with_reducible repeat (first | refine blk_drewN ?_ _ | refine blk_drew ?_ | refine blk_alloc ?_ _)); exact BK133.out))⟩; have n4_ : Aside0 (Below w.heap.size w w32) := ⟨(by rw [hw]; exact (by repeat (first | (with_reducible first | exact HB.out | apply below_alloc | apply pw_below_drewN | apply below_drew1 | refine below_set ?_ GE133.out) | exact HB.out)))⟩; clear hw; clear HO_5; clear HO_9; clear HO127; clear BK133; clear HB; have HO_5 := n0_; have HO_9 := n1_; have HO127 := n2_; have BK133 := n3_; have HB := n4_; clear n0_ n1_ n2_ n3_ n4_; have hcz33_0 : w32.cell? ⟨gb133, 0, none⟩ = some (.int .i64 t122) := (blk_cell BK133.out 0).trans rfl; have hcz33_1 : w32.cell? ⟨gb133, 1, none⟩ = some (.string t123) := (blk_cell BK133.out 1).trans rfl; have hcz33_2 : w32.cell? ⟨gb133, 2, none⟩ = some (.int .i64 t124) := (blk_cell BK133.out 2).trans rfl; have hcz33_3 : w32.cell? ⟨gb133, 3, none⟩ = some (.slice Ao31 t125.length co31) := (blk_cell BK133.out 3).trans rfl; have hcz33_4 : w32.cell? ⟨gb133, 4, none⟩ = some (.int .i64 t128) := (blk_cell BK133.out 4).trans rfl; have hcz33_5 : w32.cell? ⟨gb133, 5, none⟩ = some (.int .i64 t129) := (blk_cell BK133.out 5).trans rfl; have hcz33_6 : w32.cell? ⟨gb133, 6, none⟩ = some (.int .i64 t130) := (blk_cell BK133.out 6).trans rfl; have hfz33_0 := blk_frozen BK133.out 0; have hfz33_1 := blk_frozen BK133.out 1; have hfz33_2 := blk_frozen BK133.out 2; have hfz33_3 := blk_frozen BK133.out 3; have hfz33_4 := blk_frozen BK133.out 4; have hfz33_5 := blk_frozen BK133.out 5; have hfz33_6 := blk_frozen BK133.out 6) | ((with_reducible refine gate_store (t := 3) (p := 90) rfl ?_); (try (rw [drewN_self w32]; generalize hq_ : World.drewN w32 _ = w32; have n0_ := Aside0.mk (Kd.S_at hq_ HO_5.out); have n1_ := Aside0.mk (Kd.R_at hq_ HO_9.out); have n2_ := Aside0.mk (Kd.R_at hq_ HO127.out); have n3_ := Aside0.mk (blk_at hq_ BK133.out); have n4_ := Aside0.mk (below_at hq_ HB.out); clear hq_ HO_5 HO_9 HO127 BK133 HB; have HO_5 := n0_; have HO_9 := n1_; have HO127 := n2_; have BK133 := n3_; have HB := n4_; clear n0_ n1_ n2_ n3_ n4_)); refine store_event (t := 3) (p := 90) (v := ?vo_w34) (w1 := (w32.setCell ⟨gb133, 5, none⟩ (.int .i64 (wrap64 (t129 + x6_1))))) ?hg ?ho ?hn ?hr ?_; (case ho => rfl); (case hg => rfl); (case hn => rfl); (case hr => first | (go_simp; done) | (go_simp; rfl)); intro w34 hw; have n0_ : Aside0 (Kd.S k36 36 w34 w.heap.size (fun k_ => some k_ ≠ (.slice Ao31 t125.length co31 : Value).ownBlock ∧ k_ ≠ gb133) u5 x5_1) := ⟨(by rw [hw]; exact (by (with_reducible repeat (first | apply Kd.S_alloc | apply Kd.S_drewN | apply Kd.S_drew)); exact Kd.S_mono (Kd.S_far (p := ⟨gb133, 5, none⟩) (Kd.S_mono HO_5.out (fun k_ hk => (⟨hk, hk.2⟩ : _ ∧ k_ ≠ gb133))) (fun _ hk => hk.2) (.int .i64 (wrap64 (t129 + x6_1)))) (fun _ hk => ⟨hk.1.1, hk.1.2⟩)))⟩; have n1_ : Aside0 (Kd.R k43 43 w34 w.heap.size (fun _ => True) (.slice Ao27 t116.length co27) t116) := ⟨(by rw [hw]; exact (by (with_reducible repeat (first | apply Kd.R_alloc | apply Kd.R_drewN | apply Kd.R_drew)); exact Kd.R_mono (Kd.R_far (p := ⟨gb133, 5, none⟩) (Kd.R_types HO_9.out BK133.out (by decide)) (fun _ hk => hk.2) (.int .i64 (wrap64 (t129 + x6_1)))) (fun _ hk => trivial)))⟩; have n2_ : Aside0 (Kd.R k64 64 w34 w.heap.size (fun _ => True) (.slice Ao31 t125.length co31) t125) := ⟨(by rw [hw]; exact (by (with_reducible repeat (first | apply Kd.R_alloc | apply Kd.R_drewN | apply Kd.R_drew)); exact Kd.R_mono (Kd.R_far (p := ⟨gb133, 5, none⟩) (Kd.R_types HO127.out BK133.out (by decide)) (fun _ hk => hk.2) (.int .i64 (wrap64 (t129 + x6_1)))) (fun _ hk => trivial)))⟩; have n3_ : Aside0 (w34.heap[gb133]? = some (.cells #[.int .i64 t122, .string t123, .int .i64 t124, .slice Ao31 t125.length co31, .int .i64 t128, .int .i64 (wrap64 (t129 + x6_1)), .int .i64 t130] 36 (0, 0))) := ⟨(by rw [hw]; exact (by (with_reducible repeat (first | refine blk_drewN ?_ _ | refine blk_drew ?_ | refine blk_alloc ?_ _)); refine blk_put (cs := #[.int .i64 t122, .string t123, .int .i64 t124, .slice Ao31 t125.length co31, .int .i64 t128, .int .i64 t129, .int .i64 t130]) ?_ 5 _ rfl; (with_reducible repeat (first | refine blk_drewN ?_ _ | refine blk_drew ?_ | refine blk_alloc ?_ _)); exact BK133.out))⟩; have n4_ : Aside0 (Below w.heap.size w w34) := ⟨(by rw [hw]; exact (by repeat (first | (with_reducible first | exact HB.out | apply below_alloc | apply pw_below_drewN | apply below_drew1 | refine below_set ?_ GE133.out) | exact HB.out)))⟩; clear hw; clear HO_5; clear HO_9; clear HO127; clear BK133; clear HB; have HO_5 := n0_; have HO_9 := n1_; have HO127 := n2_; have BK133 := n3_; have HB := n4_; clear n0_ n1_ n2_ n3_ n4_; have hcz35_0 : w34.cell? ⟨gb133, 0, none⟩ = some (.int .i64 t122) := (blk_cell BK133.out 0).trans rfl; have hcz35_1 : w34.cell? ⟨gb133, 1, none⟩ = some (.string t123) := (blk_cell BK133.out 1).trans rfl; have hcz35_2 : w34.cell? ⟨gb133, 2, none⟩ = some (.int .i64 t124) := (blk_cell BK133.out 2).trans rfl; have hcz35_3 : w34.cell? ⟨gb133, 3, none⟩ = some (.slice Ao31 t125.length co31) := (blk_cell BK133.out 3).trans rfl; have hcz35_4 : w34.cell? ⟨gb133, 4, none⟩ = some (.int .i64 t128) := (blk_cell BK133.out 4).trans rfl; have hcz35_5 : w34.cell? ⟨gb133, 5, none⟩ = some (.int .i64 (wrap64 (t129 + x6_1))) := (blk_cell BK133.out 5).trans rfl; have hcz35_6 : w34.cell? ⟨gb133, 6, none⟩ = some (.int .i64 t130) := (blk_cell BK133.out 6).trans rfl; have hfz35_0 := blk_frozen BK133.out 0; have hfz35_1 := blk_frozen BK133.out 1; have hfz35_2 := blk_frozen BK133.out 2; have hfz35_3 := blk_frozen BK133.out 3; have hfz35_4 := blk_frozen BK133.out 4; have hfz35_5 := blk_frozen BK133.out 5; have hfz35_6 := blk_frozen BK133.out 6) | ((with_reducible refine gate_store (t := 3) (p := 95) rfl ?_); (try (rw [drewN_self w34]; generalize hq_ : World.drewN w34 _ = w34; have n0_ := Aside0.mk (Kd.S_at hq_ HO_5.out); have n1_ := Aside0.mk (Kd.R_at hq_ HO_9.out); have n2_ := Aside0.mk (Kd.R_at hq_ HO127.out); have n3_ := Aside0.mk (blk_at hq_ BK133.out); have n4_ := Aside0.mk (below_at hq_ HB.out); clear hq_ HO_5 HO_9 HO127 BK133 HB; have HO_5 := n0_; have HO_9 := n1_; have HO127 := n2_; have BK133 := n3_; have HB := n4_; clear n0_ n1_ n2_ n3_ n4_)); refine store_event (t := 3) (p := 95) (v := ?vo_w36) (w1 := (w34.setCell ⟨gb133, 6, none⟩ (.int .i64 (wrap64 (t130 + x6_1))))) ?hg ?ho ?hn ?hr ?_; (case ho => rfl); (case hg => rfl); (case hn => rfl); (case hr => first | (go_simp; done) | (go_simp; rfl)); intro w36 hw; have n0_ : Aside0 (Kd.S k36 36 w36 w.heap.size (fun k_ => some k_ ≠ (.slice Ao31 t125.length co31 : Value).ownBlock ∧ k_ ≠ gb133) u5 x5_1) := ⟨(by rw [hw]; exact (by (with_reducible repeat (first | apply Kd.S_alloc | apply Kd.S_drewN | apply Kd.S_drew)); exact Kd.S_mono (Kd.S_far (p := ⟨gb133, 6, none⟩) (Kd.S_mono HO_5.out (fun k_ hk => (⟨hk, hk.2⟩ : _ ∧ k_ ≠ gb133))) (fun _ hk => hk.2) (.int .i64 (wrap64 (t130 + x6_1)))) (fun _ hk => ⟨hk.1.1, hk.1.2⟩)))⟩; have n1_ : Aside0 (Kd.R k43 43 w36 w.heap.size (fun _ => True) (.slice Ao27 t116.length co27) t116) := ⟨(by rw [hw]; exact (by (with_reducible repeat (first | apply Kd.R_alloc | apply Kd.R_drewN | apply Kd.R_drew)); exact Kd.R_mono (Kd.R_far (p := ⟨gb133, 6, none⟩) (Kd.R_types HO_9.out BK133.out (by decide)) (fun _ hk => hk.2) (.int .i64 (wrap64 (t130 + x6_1)))) (fun _ hk => trivial)))⟩; have n2_ : Aside0 (Kd.R k64 64 w36 w.heap.size (fun _ => True) (.slice Ao31 t125.length co31) t125) := ⟨(by rw [hw]; exact (by (with_reducible repeat (first | apply Kd.R_alloc | apply Kd.R_drewN | apply Kd.R_drew)); exact Kd.R_mono (Kd.R_far (p := ⟨gb133, 6, none⟩) (Kd.R_types HO127.out BK133.out (by decide)) (fun _ hk => hk.2) (.int .i64 (wrap64 (t130 + x6_1)))) (fun _ hk => trivial)))⟩; have n3_ : Aside0 (w36.heap[gb133]? = some (.cells #[.int .i64 t122, .string t123, .int .i64 t124, .slice Ao31 t125.length co31, .int .i64 t128, .int .i64 (wrap64 (t129 + x6_1)), .int .i64 (wrap64 (t130 + x6_1))] 36 (0, 0))) := ⟨(by rw [hw]; exact (by (with_reducible repeat (first | refine blk_drewN ?_ _ | refine blk_drew ?_ | refine blk_alloc ?_ _)); refine blk_put (cs := #[.int .i64 t122, .string t123, .int .i64 t124, .slice Ao31 t125.length co31, .int .i64 t128, .int .i64 (wrap64 (t129 + x6_1)), .int .i64 t130]) ?_ 6 _ rfl; (with_reducible repeat (first | refine blk_drewN ?_ _ | refine blk_drew ?_ | refine blk_alloc ?_ _)); exact BK133.out))⟩; have n4_ : Aside0 (Below w.heap.size w w36) := ⟨(by rw [hw]; exact (by repeat (first | (with_reducible first | exact HB.out | apply below_alloc | apply pw_below_drewN | apply below_drew1 | refine below_set ?_ GE133.out) | exact HB.out)))⟩; clear hw; clear HO_5; clear HO_9; clear HO127; clear BK133; clear HB; have HO_5 := n0_; have HO_9 := n1_; have HO127 := n2_; have BK133 := n3_; have HB := n4_; clear n0_ n1_ n2_ n3_ n4_; have hcz37_0 : w36.cell? ⟨gb133, 0, none⟩ = some (.int .i64 t122) := (blk_cell BK133.out 0).trans rfl; have hcz37_1 : w36.cell? ⟨gb133, 1, none⟩ = some (.string t123) := (blk_cell BK133.out 1).trans rfl; have hcz37_2 : w36.cell? ⟨gb133, 2, none⟩ = some (.int .i64 t124) := (blk_cell BK133.out 2).trans rfl; have hcz37_3 : w36.cell? ⟨gb133, 3, none⟩ = some (.slice Ao31 t125.length co31) := (blk_cell BK133.out 3).trans rfl; have hcz37_4 : w36.cell? ⟨gb133, 4, none⟩ = some (.int .i64 t128) := (blk_cell BK133.out 4).trans rfl; have hcz37_5 : w36.cell? ⟨gb133, 5, none⟩ = some (.int .i64 (wrap64 (t129 + x6_1))) := (blk_cell BK133.out 5).trans rfl; have hcz37_6 : w36.cell? ⟨gb133, 6, none⟩ = some (.int .i64 (wrap64 (t130 + x6_1))) := (blk_cell BK133.out 6).trans rfl; have hfz37_0 := blk_frozen BK133.out 0; have hfz37_1 := blk_frozen BK133.out 1; have hfz37_2 := blk_frozen BK133.out 2; have hfz37_3 := blk_frozen BK133.out 3; have hfz37_4 := blk_frozen BK133.out 4; have hfz37_5 := blk_frozen BK133.out 5; have hfz37_6 := blk_frozen BK133.out 6) | ((with_reducible refine gate_builtin (b := .append) (xs := #[.tmp 96, .tmp 98]) rfl ?_); (try (refine gate_guard (by rfl) ?_; dsimp only)); at_builtin; refine Kd.S_append k36 (w0 := w) w.heap.size rfl (.tmp 96) (.tmp 98) 23 36 (.agg #[(.int .i64 0), (.string ⟨#[]⟩), (.int .i64 0), (.slice none 0 0), (.int .i64 0), (.int .i64 0), (.int .i64 0)]) 80 rfl Tryz.underlying23 info36 rfl (by decide) (by omega) u5 x5_1 (⟨t122, t123, (⟨t124, t125⟩ : S34), t128, wrap64 (t129 + x6_1), wrap64 (t130 + x6_1)⟩ : S36) [.int .i64 t122, .string t123, .int .i64 t124, .slice Ao31 t125.length co31, .int .i64 t128, .int .i64 (wrap64 (t129 + x6_1)), .int .i64 (wrap64 (t130 + x6_1))] (fun k_ => k_ ≠ gb133) (fun k_ => some k_ = (.slice Ao31 t125.length co31 : Value).ownBlock) rfl rfl ?aP (fun k_ hk_ => ((Kd.R_mono (ok' := fun k_ => ((fun k_ => k_ ≠ gb133)) k_ ∧ some k_ ≠ (u5 : Value).ownBlock) (Kd.R_types (Kd.R_apart' (HO127.out) (Kd.S_typed HO_5.out) (by decide)) BK133.out (by decide)) (fun k_ hk => ⟨hk.2, hk.1.2⟩))).1 k_ hk_.symm) ?aF ?aO ?aB ?aS ?aL ?_; (case aP => exact k36_mkM _ _ _ (⟨t122, t123, (⟨t124, t125⟩ : S34), t128, wrap64 (t129 + x6_1), wrap64 (t130 + x6_1)⟩ : S36) (Kd.R_mono (Kd.R_tight rfl (Kd.R_mono (ok' := fun k_ => ((fun k_ => k_ ≠ gb133)) k_ ∧ some k_ ≠ (u5 : Value).ownBlock) (Kd.R_types (Kd.R_apart' (HO127.out) (Kd.S_typed HO_5.out) (by decide)) BK133.out (by decide)) (fun k_ hk => ⟨hk.2, hk.1.2⟩))) (fun _ h_ => h_))); (case aB => exact (by repeat (first | (with_reducible first | exact HB.out | apply below_alloc | apply pw_below_drewN | apply below_drew1 | refine below_set ?_ GE133.out) | exact HB.out))); (case aF => exact (fun k_ hk => Kd.freshB (g := gb133) (o := .cells #[.int .i64 t122, .string t123, .int .i64 t124, .slice Ao31 t125.length co31, .int .i64 t128, .int .i64 (wrap64 (t129 + x6_1)), .int .i64 (wrap64 (t130 + x6_1))] 36 (0, 0)) (by (with_reducible repeat (first | refine blk_drewN ?_ _ | refine blk_drew ?_ | refine blk_alloc ?_ _)); exact BK133.out) k_ hk)); (case aO => exact (by (with_reducible repeat (first | apply Kd.S_alloc | apply Kd.S_drewN | apply Kd.S_drew)); exact Kd.S_mono HO_5.out (fun k_ hk => ⟨hk.2, fun e_ => hk.1 e_⟩))); (case aS => exact (below_size (by repeat (first | (with_reducible first | exact HB.out | apply below_alloc | apply pw_below_drewN | apply below_drew1 | refine below_set ?_ GE133.out) | exact HB.out)))); (case aL => have := LMc26.out; omega); intro v135 w38 ho hb hg hat; rw [← Ny134.out] at ho; have n0_ := Aside0.mk (Kd.R_over' (by (with_reducible repeat (first | apply Kd.R_alloc | apply Kd.R_drewN | apply Kd.R_drew)); exact HO_9.out) (Kd.S_typed (by (with_reducible repeat (first | apply Kd.S_alloc | apply Kd.S_drewN | apply Kd.S_drew)); exact HO_5.out)) (by decide) hg); have n1_ := Aside0.mk (blk_grown (g := gb133) (o := .cells #[.int .i64 t122, .string t123, .int .i64 t124, .slice Ao31 t125.length co31, .int .i64 t128, .int .i64 (wrap64 (t129 + x6_1)), .int .i64 (wrap64 (t130 + x6_1))] 36 (0, 0)) (by (with_reducible repeat (first | refine blk_drewN ?_ _ | refine blk_drew ?_ | refine blk_alloc ?_ _)); exact BK133.out) hg (Kd.S_away HO_5.out (fun _ hk => hk.2))); have n2_ := Aside0.mk (hb); have n3_ := Aside0.mk (ho); clear HO_9; clear BK133; clear HB; clear HO_5; clear HO127; have HO_9 := n0_; have BK133 := n1_; have HB := n2_; have HO136 := n3_; clear n0_ n1_ n2_ n3_; clear ho hb hg hat))
                   go_roundg kj13
                   case measure => have := HK1.out; have := HJ6.out; have := HJ13.out; omega
                   case rel => exact ⟨(y134), (wrap64 (x7_6 + 1)), (by first | rfl | (simp; done) | (simp [*]; done)), H', ⟨by have := HK1.out; have := HJ6.out; have := HJ13.out; omega⟩, ⟨by (with_reducible repeat (first | apply Kd.S_alloc | apply Kd.S_drewN | apply Kd.S_drew)); exact Kd.S_mono HO136.out (fun _ hk => trivial)⟩, ⟨by repeat (first | (with_reducible first | exact HB.out | apply below_alloc | apply pw_below_drewN | apply below_drew1 | refine below_set ?_ GE133.out) | exact HB.out)⟩⟩
                  ·rw [if_neg c26] at H
                   exact absurd H (by simp)
                 ·rw [if_neg c25] at H
                  have c25b0 : (t132 == 0) = false := beq_eq_false_iff_ne.mpr c25
                  have c25b1 : (t132 != 0) = true := bne_iff_ne.mpr c25
                  simp only [Option.some.injEq, Prod.mk.injEq] at H
                  obtain ⟨rfl, rfl, rfl⟩ := H
                  obtain ⟨Ao39, co39, eo39⟩ := Kd.R_slice HO_9.out
                  subst eo39
                  go_wp2_with (first | (go_at_call 11; (with_reducible refine (script_line.calls _ _ t116 (wrap64 (x7_6 - x6_1)) t122 t123 t124 t125 t128 t129 t130 t131 t132 _ ?side1 ?side2 A24.out).mono ?_); (case side1 => repeat (first | exact (Kd.R_reads' HO_9.out).2.2 | (with_reducible refine Kd.C_alloc ?_ _) | (with_reducible refine Kd.C_drewN ?_ _) | (with_reducible refine Kd.C_drew ?_))); (case side2 => exact (Kd.R_reads' HO_9.out).2.1); rintro e w40 ⟨v126, rfl, ho0, hb⟩; have n0_ := Aside0.mk (Kd.S_elder' (by (with_reducible repeat (first | apply Kd.S_alloc | apply Kd.S_drewN | apply Kd.S_drew)); exact HO_5.out) (Kd.R_base ho0) hb); have n1_ := Aside0.mk (Kd.R_below (by (with_reducible repeat (first | apply Kd.R_alloc | apply Kd.R_drewN | apply Kd.R_drew)); exact HO_9.out) hb); have n2_ := Aside0.mk (Kd.R_lower ho0 (below_size (by repeat (first | (with_reducible first | exact HB.out | apply below_alloc | apply pw_below_drewN | apply below_drew1) | exact HB.out)))); have n3_ := Aside0.mk (below_step (by repeat (first | (with_reducible first | exact HB.out | apply below_alloc | apply pw_below_drewN | apply below_drew1) | exact HB.out)) hb); clear HO_5; clear HO_9; clear HB; have HO_5 := n0_; have HO_9 := n1_; have HO127 := n2_; have HB := n3_; clear n0_ n1_ n2_ n3_; (try clear hb); (try clear hb2); (try clear hk); (try clear hi); (try clear ho0)) | ((with_reducible refine gate_dst (N := 12) rfl ?_); (try (refine gate_guard (by rfl) ?_; dsimp only)); refine box_event ?hg (N := 12) ?hd (cs := #[.int .i64 0, .string (⟨#[]⟩ : ByteArray), .int .i64 0, .slice none 0 0, .int .i64 0, .int .i64 0, .int .i64 0]) (t := 36) ?hr ?_; (case hd => rfl); (case hg => rfl); (case hr => first | (go_simp; done) | (go_simp; rfl)); intro gb133 hg w41 hbox hb; have n0_ := Aside0.mk (Kd.S_below (Kd.S_elderB (by (with_reducible repeat (first | apply Kd.S_alloc | apply Kd.S_drewN | apply Kd.S_drew)); exact HO_5.out) gb133 (Nat.le_of_eq hg.symm)) hb); have n1_ := Aside0.mk (Kd.R_below (by (with_reducible repeat (first | apply Kd.R_alloc | apply Kd.R_drewN | apply Kd.R_drew)); exact HO_9.out) hb); have n2_ := Aside0.mk (Kd.R_below (by (with_reducible repeat (first | apply Kd.R_alloc | apply Kd.R_drewN | apply Kd.R_drew)); exact HO127.out) hb); have n3_ := Aside0.mk (below_step (by repeat (first | (with_reducible first | exact HB.out | apply below_alloc | apply pw_below_drewN | apply below_drew1) | exact HB.out)) hb); have n4_ := Aside0.mk (hbox); have n5_ := Aside0.mk ((by rw [hg]; exact (below_size (by repeat (first | (with_reducible first | exact HB.out | apply below_alloc | apply pw_below_drewN | apply below_drew1) | exact HB.out))) : w.heap.size ≤ gb133)); have n6_ := Aside0.mk ((by rw [hg]; exact (below_size (by repeat (first | (with_reducible first | exact HB.out | apply below_alloc | apply pw_below_drewN | apply below_drew1) | exact HB.out))) : w.heap.size ≤ gb133)); clear HO_5; clear HO_9; clear HO127; clear HB; have HO_5 := n0_; have HO_9 := n1_; have HO127 := n2_; have HB := n3_; have BK133 := n4_; have GW133 := n5_; have GE133 := n6_; clear n0_ n1_ n2_ n3_ n4_ n5_ n6_; clear hb hbox hg; have hcz42_0 : w41.cell? ⟨gb133, 0, none⟩ = some (.int .i64 0) := (blk_cell BK133.out 0).trans rfl; have hcz42_1 : w41.cell? ⟨gb133, 1, none⟩ = some (.string (⟨#[]⟩ : ByteArray)) := (blk_cell BK133.out 1).trans rfl; have hcz42_2 : w41.cell? ⟨gb133, 2, none⟩ = some (.int .i64 0) := (blk_cell BK133.out 2).trans rfl; have hcz42_3 : w41.cell? ⟨gb133, 3, none⟩ = some (.slice none 0 0) := (blk_cell BK133.out 3).trans rfl; have hcz42_4 : w41.cell? ⟨gb133, 4, none⟩ = some (.int .i64 0) := (blk_cell BK133.out 4).trans rfl; have hcz42_5 : w41.cell? ⟨gb133, 5, none⟩ = some (.int .i64 0) := (blk_cell BK133.out 5).trans rfl; have hcz42_6 : w41.cell? ⟨gb133, 6, none⟩ = some (.int .i64 0) := (blk_cell BK133.out 6).trans rfl; have hfz42_0 := blk_frozen BK133.out 0; have hfz42_1 := blk_frozen BK133.out 1; have hfz42_2 := blk_frozen BK133.out 2; have hfz42_3 := blk_frozen BK133.out 3; have hfz42_4 := blk_frozen BK133.out 4; have hfz42_5 := blk_frozen BK133.out 5; have hfz42_6 := blk_frozen BK133.out 6; obtain ⟨Ao43, co43, eo43⟩ := Kd.R_slice HO127.out; subst eo43))
                  go_ret3
                  exact ⟨_, by first | rfl | (simp [errW_none, errW_some] <;> rfl) | (simp [*, errW_none, errW_some] <;> rfl), by (with_reducible repeat (first | apply Kd.S_alloc | apply Kd.S_drewN | apply Kd.S_drew)); exact Kd.S_mono (Kd.S_far (p := ⟨gb133, 6, none⟩) (Kd.S_far (p := ⟨gb133, 5, none⟩) (Kd.S_far (p := ⟨gb133, 4, none⟩) (Kd.S_far (p := ⟨gb133, 3, none⟩) (Kd.S_far (p := ⟨gb133, 2, none⟩) (Kd.S_far (p := ⟨gb133, 1, none⟩) (Kd.S_far (p := ⟨gb133, 0, none⟩) (Kd.S_mono HO_5.out (fun k_ hk => (⟨hk, hk.2⟩ : _ ∧ k_ ≠ gb133))) (fun _ hk => hk.2) (.int .i64 t122)) (fun _ hk => hk.2) (.string t123)) (fun _ hk => hk.2) (.int .i64 t124)) (fun _ hk => hk.2) (.slice Ao43 t125.length co43)) (fun _ hk => hk.2) (.int .i64 t128)) (fun _ hk => hk.2) (.int .i64 t129)) (fun _ hk => hk.2) (.int .i64 t130)) (fun _ hk => trivial), by repeat (first | (with_reducible first | exact HB.out | apply below_alloc | apply pw_below_drewN | apply below_drew1 | refine below_set ?_ GE133.out) | exact HB.out)⟩
                ·rw [if_neg c23] at H
                 have c23b0 : decide (0 < (t116.length : Int)) = false := decide_eq_false c23
                 have c23b1 : decide (0 < t116.length) = false := decide_eq_false (by omega)
                 clear c23
                 have H' := Aside0.mk H
                 clear H
                 obtain ⟨Ao44, co44, eo44⟩ := Kd.R_slice HO_9.out
                 subst eo44
                 go_wp2
                 repeat (go_quiet (fail); try go_wp2)
                 go_roundg kj13
                 case measure => have := HK1.out; have := HJ6.out; have := HJ13.out; omega
                 case rel => exact ⟨(x5_1), (wrap64 (x7_6 + 1)), (by first | rfl | (simp; done) | (simp [*]; done)), H', ⟨by have := HK1.out; have := HJ6.out; have := HJ13.out; omega⟩, ⟨by (with_reducible repeat (first | apply Kd.S_alloc | apply Kd.S_drewN | apply Kd.S_drew)); exact HO_5.out⟩, ⟨by repeat (first | (with_reducible first | exact HB.out | apply below_alloc | apply pw_below_drewN | apply below_drew1) | exact HB.out)⟩⟩
            ·rw [if_neg c13] at H
             have c13b0 : (t118 == 0) = false := beq_eq_false_iff_ne.mpr c13
             have c13b1 : (t118 != 0) = true := bne_iff_ne.mpr c13
             simp only [Option.some.injEq, Prod.mk.injEq] at H
             obtain ⟨rfl, rfl, rfl⟩ := H
             go_wp2_with (first | (go_at_call 10; (with_reducible refine (lex_Lex.calls (a0.extract (x6_1 : Int).toNat (x7_6 : Int).toNat) t116 t117 t118 _ ?side1 A12.out).mono ?_); (case side1 => exact GW.of_below HGW.out (by repeat (first | (with_reducible first | exact HB.out | apply below_alloc | apply pw_below_drewN | apply below_drew1) | exact HB.out))); rintro e w45 ⟨v119, rfl, ho0, hb⟩; have n0_ := Aside0.mk (Kd.S_below (by (with_reducible repeat (first | apply Kd.S_alloc | apply Kd.S_drewN | apply Kd.S_drew)); exact HO_5.out) hb); have n1_ := Aside0.mk (Kd.R_lower ho0 (below_size (by repeat (first | (with_reducible first | exact HB.out | apply below_alloc | apply pw_below_drewN | apply below_drew1) | exact HB.out)))); have n2_ := Aside0.mk (below_step (by repeat (first | (with_reducible first | exact HB.out | apply below_alloc | apply pw_below_drewN | apply below_drew1) | exact HB.out)) hb); clear HO_5; clear HB; have HO_5 := n0_; have HO120 := n1_; have HB := n2_; clear n0_ n1_ n2_; (try clear hb); (try clear hb2); (try clear hk); (try clear hi); (try clear ho0)))
             go_ret3
             exact ⟨_, by first | rfl | (simp [errW_none, errW_some] <;> rfl) | (simp [*, errW_none, errW_some] <;> rfl), by (with_reducible repeat (first | apply Kd.S_alloc | apply Kd.S_drewN | apply Kd.S_drew)); exact HO_5.out, by repeat (first | (with_reducible first | exact HB.out | apply below_alloc | apply pw_below_drewN | apply below_drew1) | exact HB.out)⟩
           ·rw [if_neg c11] at H
            exact absurd H (by simp)
          ·rw [if_neg c10] at H
           exact absurd H (by simp)
         ·rw [if_neg c9] at H
          exact absurd H (by simp)
      ·rw [if_neg c5] at H
       exact absurd H (by simp)
     ·rw [if_neg c4] at H
      exact absurd H (by simp)
    ·rw [if_neg c3] at H
     have c3b0 : decide (x6_1 < (a0.size : Int)) = false := decide_eq_false c3
     clear c3
     simp only [Option.some.injEq, Prod.mk.injEq] at H
     obtain ⟨rfl, rfl, rfl⟩ := H
     go_wp2
     repeat (go_quiet (fail); try go_wp2)
     go_ret3
     exact ⟨_, by first | rfl | (simp [errW_none, errW_some] <;> rfl) | (simp [*, errW_none, errW_some] <;> rfl), by (with_reducible repeat (first | apply Kd.S_alloc | apply Kd.S_drewN | apply Kd.S_drew)); exact HO_5.out, by repeat (first | (with_reducible first | exact HB.out | apply below_alloc | apply pw_below_drewN | apply below_drew1) | exact HB.out)⟩

end Go.Proofs.YtmdmdbiinngneaaGreatDoor.Q
