-- Laid by prx.py (ours), out of the translation's print. Not trusted: Lean checks it.
import Derived.Test.YtmdmdbiinngneaaGreatDoorQ0
import Derived.Test.YtmdmdbiinngneaaGreatDoorQ18
import Derived.Test.YtmdmdbiinngneaaGreatDoorQ19
namespace Go.Proofs.YtmdmdbiinngneaaGreatDoor.Q
open Go.RowKit Go.Proofs.YtmdmdbiinngneaaGreatDoorW.PrintWords Go.Proofs.YtmdmdbiinngneaaGreatDoorW.PrintLast Go.Proofs.YtmdmdbiinngneaaGreatDoorW.PrintMore
attribute [local go_sem] max2_int min2_int max_two min_two max_three min_three max_four min_four   -- for this text's walks alone
set_option linter.unusedVariables false
set_option linter.unusedSimpArgs false

/-! ### carcanetref03_Normal: function 40 -/
mutual
def carcanetref03_Normal.l0 : Nat → Int → List (S64) → List (List Int) → Int → Option (Int × (List (S64)) × Int)
 | 0, _, _, _, _ => none
 | k + 1, x0, x1, x6, x7 => if x7 < (x1.length : Int) then (if 0 ≤ x7 then (if ((rd_T64 x1 x7).f0) < 0 then (carcanetref03_Normal.j1 k x0 x1 x6 x7 ((rd_T64 x1 x7).f0) ((rd_T64 x1 x7).f1) true) else (if ((rd_T64 x1 x7).f1) < 0 then (carcanetref03_Normal.j1 k x0 x1 x6 x7 ((rd_T64 x1 x7).f0) ((rd_T64 x1 x7).f1) true) else (if ((rd_T64 x1 x7).f0) ≥ x0 then (carcanetref03_Normal.j1 k x0 x1 x6 x7 ((rd_T64 x1 x7).f0) ((rd_T64 x1 x7).f1) true) else (carcanetref03_Normal.j1 k x0 x1 x6 x7 ((rd_T64 x1 x7).f0) ((rd_T64 x1 x7).f1) (decide (((rd_T64 x1 x7).f1) ≥ x0)))))) else (none)) else (carcanetref03_Normal.l1 k x0 x6 0 x0 ([] : List (S64)))
def carcanetref03_Normal.j1 : Nat → Int → List (S64) → List (List Int) → Int → Int → Int → Bool → Option (Int × (List (S64)) × Int)
 | 0, _, _, _, _, _, _, _ => none
 | k + 1, x0, x1, x6, x7, x8, x9, x54 => if x54 = true then (some (0, ([] : List (S64)), 4)) else (if x8 = x9 then (carcanetref03_Normal.l0 k x0 x1 x6 (wrap64 (x7 + 1))) else (if 0 ≤ (mn x8 x9) then (if (mn x8 x9) < (x6.length : Int) then ((carcanetref03_In.f k (rd_L11 x6 (mn x8 x9)) (mx x8 x9)).bind fun t194 => (if t194 = true then (carcanetref03_Normal.l0 k x0 x1 x6 (wrap64 (x7 + 1))) else (if (rd_L11 x6 (mn x8 x9)).length < 17592186044416 then (carcanetref03_Normal.l0 k x0 x1 (x6.set ((mn x8 x9) : Int).toNat ((rd_L11 x6 (mn x8 x9)) ++ [mx x8 x9])) (wrap64 (x7 + 1))) else (none)))) else (none)) else (none)))
def carcanetref03_Normal.l1 : Nat → Int → List (List Int) → Int → Int → List (S64) → Option (Int × (List (S64)) × Int)
 | 0, _, _, _, _, _ => none
 | k + 1, x0, x6, x12, x201000, x201001 => if x12 < x0 then (if 0 ≤ x12 then (if x12 < (x6.length : Int) then ((carcanetref03_Sorted.f (rd_L11 x6 x12)).bind fun t202 => (carcanetref03_Normal.l2 k x0 x6 x12 t202 0 x201000 x201001)) else (none)) else (none)) else (if (x201001.length : Int) > 4000 then (some (0, ([] : List (S64)), 5)) else (some (x201000, x201001, 0)))
def carcanetref03_Normal.l2 : Nat → Int → List (List Int) → Int → List Int → Int → Int → List (S64) → Option (Int × (List (S64)) × Int)
 | 0, _, _, _, _, _, _, _ => none
 | k + 1, x0, x6, x12, x13, x14, x201000, x201001 => if x14 < (x13.length : Int) then (if 0 ≤ x14 then (if x201001.length < 8796093022208 then (carcanetref03_Normal.l2 k x0 x6 x12 x13 (wrap64 (x14 + 1)) x201000 (x201001 ++ [(⟨x12, rd x13 x14⟩ : S64)])) else (none)) else (none)) else (carcanetref03_Normal.l1 k x0 x6 (wrap64 (x12 + 1)) x201000 x201001)
end
def carcanetref03_Normal.f (k : Nat) (a0 : Int) (l1 : List (S64)) : Option (Int × (List (S64)) × Int) := if a0 < 0 then (some (0, ([] : List (S64)), 1)) else (if a0 > 1000 then (some (0, ([] : List (S64)), 5)) else (if 0 ≤ a0 then (if (a0 : Int).toNat ≤ 11728124029610 then (carcanetref03_Normal.l0 k a0 l1 (List.replicate (a0 : Int).toNat []) 0) else (none)) else (none)))
theorem carcanetref03_Normal.mono_l : ∀ k, (∀ y0 y1 y2 y3, LeO (carcanetref03_Normal.l0 k y0 y1 y2 y3) (carcanetref03_Normal.l0 (k + 1) y0 y1 y2 y3)) ∧ (∀ y0 y1 y2 y3 y4 y5 y6, LeO (carcanetref03_Normal.j1 k y0 y1 y2 y3 y4 y5 y6) (carcanetref03_Normal.j1 (k + 1) y0 y1 y2 y3 y4 y5 y6)) ∧ (∀ y0 y1 y2 y3 y4, LeO (carcanetref03_Normal.l1 k y0 y1 y2 y3 y4) (carcanetref03_Normal.l1 (k + 1) y0 y1 y2 y3 y4)) ∧ (∀ y0 y1 y2 y3 y4 y5 y6, LeO (carcanetref03_Normal.l2 k y0 y1 y2 y3 y4 y5 y6) (carcanetref03_Normal.l2 (k + 1) y0 y1 y2 y3 y4 y5 y6))
 | 0 => ⟨fun _ _ _ _ r h => by simp [carcanetref03_Normal.l0] at h, fun _ _ _ _ _ _ _ r h => by simp [carcanetref03_Normal.j1] at h, fun _ _ _ _ _ r h => by simp [carcanetref03_Normal.l1] at h, fun _ _ _ _ _ _ _ r h => by simp [carcanetref03_Normal.l2] at h⟩
 | k + 1 => by
  obtain ⟨ih0, ih1, ih2, ih3⟩ := carcanetref03_Normal.mono_l k
  refine ⟨?_, ?_, ?_, ?_⟩
  ·intro y0 y1 y2 y3
   unfold carcanetref03_Normal.l0
   repeat' first
   | (with_reducible exact ih0 _ _ _ _)
   | (with_reducible exact ih1 _ _ _ _ _ _ _)
   | (with_reducible exact ih2 _ _ _ _ _)
   | (with_reducible exact ih3 _ _ _ _ _ _ _)
   | (with_reducible exact carcanetref03_In.mono _ _ _)
   | (with_reducible exact LeO.refl _)
   | (with_reducible exact LeO.none _)
   | (with_reducible refine LeO.ite ?_ ?_)
   | (with_reducible refine LeO.bind ?_ (fun _ => ?_))
   | exact ih0 _ _ _ _
   | exact ih1 _ _ _ _ _ _ _
   | exact ih2 _ _ _ _ _
   | exact ih3 _ _ _ _ _ _ _
   | exact carcanetref03_In.mono _ _ _
   | exact LeO.none _
   | refine LeO.ite ?_ ?_
   | refine LeO.bind ?_ (fun _ => ?_)
  ·intro y0 y1 y2 y3 y4 y5 y6
   unfold carcanetref03_Normal.j1
   repeat' first
   | (with_reducible exact ih0 _ _ _ _)
   | (with_reducible exact ih1 _ _ _ _ _ _ _)
   | (with_reducible exact ih2 _ _ _ _ _)
   | (with_reducible exact ih3 _ _ _ _ _ _ _)
   | (with_reducible exact carcanetref03_In.mono _ _ _)
   | (with_reducible exact LeO.refl _)
   | (with_reducible exact LeO.none _)
   | (with_reducible refine LeO.ite ?_ ?_)
   | (with_reducible refine LeO.bind ?_ (fun _ => ?_))
   | exact ih0 _ _ _ _
   | exact ih1 _ _ _ _ _ _ _
   | exact ih2 _ _ _ _ _
   | exact ih3 _ _ _ _ _ _ _
   | exact carcanetref03_In.mono _ _ _
   | exact LeO.none _
   | refine LeO.ite ?_ ?_
   | refine LeO.bind ?_ (fun _ => ?_)
  ·intro y0 y1 y2 y3 y4
   unfold carcanetref03_Normal.l1
   repeat' first
   | (with_reducible exact ih0 _ _ _ _)
   | (with_reducible exact ih1 _ _ _ _ _ _ _)
   | (with_reducible exact ih2 _ _ _ _ _)
   | (with_reducible exact ih3 _ _ _ _ _ _ _)
   | (with_reducible exact carcanetref03_In.mono _ _ _)
   | (with_reducible exact LeO.refl _)
   | (with_reducible exact LeO.none _)
   | (with_reducible refine LeO.ite ?_ ?_)
   | (with_reducible refine LeO.bind ?_ (fun _ => ?_))
   | exact ih0 _ _ _ _
   | exact ih1 _ _ _ _ _ _ _
   | exact ih2 _ _ _ _ _
   | exact ih3 _ _ _ _ _ _ _
   | exact carcanetref03_In.mono _ _ _
   | exact LeO.none _
   | refine LeO.ite ?_ ?_
   | refine LeO.bind ?_ (fun _ => ?_)
  ·intro y0 y1 y2 y3 y4 y5 y6
   unfold carcanetref03_Normal.l2
   repeat' first
   | (with_reducible exact ih0 _ _ _ _)
   | (with_reducible exact ih1 _ _ _ _ _ _ _)
   | (with_reducible exact ih2 _ _ _ _ _)
   | (with_reducible exact ih3 _ _ _ _ _ _ _)
   | (with_reducible exact carcanetref03_In.mono _ _ _)
   | (with_reducible exact LeO.refl _)
   | (with_reducible exact LeO.none _)
   | (with_reducible refine LeO.ite ?_ ?_)
   | (with_reducible refine LeO.bind ?_ (fun _ => ?_))
   | exact ih0 _ _ _ _
   | exact ih1 _ _ _ _ _ _ _
   | exact ih2 _ _ _ _ _
   | exact ih3 _ _ _ _ _ _ _
   | exact carcanetref03_In.mono _ _ _
   | exact LeO.none _
   | refine LeO.ite ?_ ?_
   | refine LeO.bind ?_ (fun _ => ?_)
theorem carcanetref03_Normal.mono : ∀ a0 a1 k, LeO (carcanetref03_Normal.f k a0 a1) (carcanetref03_Normal.f (k + 1) a0 a1) := by
 intro a0 a1 k
 obtain ⟨ih0, ih1, ih2, ih3⟩ := carcanetref03_Normal.mono_l k
 unfold carcanetref03_Normal.f
 repeat' first
   | (with_reducible exact ih0 _ _ _ _)
   | (with_reducible exact ih1 _ _ _ _ _ _ _)
   | (with_reducible exact ih2 _ _ _ _ _)
   | (with_reducible exact ih3 _ _ _ _ _ _ _)
   | (with_reducible exact carcanetref03_In.mono _ _ _)
   | (with_reducible exact LeO.refl _)
   | (with_reducible exact LeO.none _)
   | (with_reducible refine LeO.ite ?_ ?_)
   | (with_reducible refine LeO.bind ?_ (fun _ => ?_))
   | exact ih0 _ _ _ _
   | exact ih1 _ _ _ _ _ _ _
   | exact ih2 _ _ _ _ _
   | exact ih3 _ _ _ _ _ _ _
   | exact carcanetref03_In.mono _ _ _
   | exact LeO.none _
   | refine LeO.ite ?_ ?_
   | refine LeO.bind ?_ (fun _ => ?_)
def carcanetref03_Normal.T24 : Bool × List (List Nat × List Nat) := (true, [([], []), ([0], [0]), ([], []), ([], []), ([], []), ([3, 4], [3, 4]), ([5], [5]), ([2, 6], [2, 6]), ([7], [7]), ([1, 8], [1, 8]), ([0, 1, 2, 3, 4, 5, 6, 7, 8, 9], []), ([10, 9, 9, 0, 1, 2, 3, 4, 5, 6, 7, 8, 9], [9, 10])])
def carcanetref03_Normal.B24 : List Nat := [0, 1, 0, 0, 0, 24, 56, 124, 252, 511, 1023, 2047]
theorem carcanetref03_Normal.tab24 : rtab .any (opsOf Tryz.f40 24) = carcanetref03_Normal.T24 := by kernel_rfl
theorem carcanetref03_Normal.bits24 : waitsOk carcanetref03_Normal.T24.2 carcanetref03_Normal.B24 = true := by kernel_rfl
set_option maxHeartbeats 8000000 in
set_option maxRecDepth 100000 in
theorem carcanetref03_Normal.calls (k : Nat) (a0 : Int) (A1 : Option Addr) (c1 : Nat) (l1 : List (S64)) (r1 : Int) (r2 : List (S64)) (r3 : Int) (w : World) (hr1 : Kd.C k64 w A1 l1.length l1) (hc1 : l1.length ≤ c1) (h : carcanetref03_Normal.f k a0 l1 = some (r1, r2, r3)) :
  Calls Tryz.prog 40 #[.int .i64 a0, .slice A1 l1.length c1] w fun e w' => ∃ v1_ : Value, e = .returned (.tuple #[.agg #[.int .i64 r1, v1_], .int .i64 r3]) ∧ Kd.R k64 64 w' w.heap.size (fun _ => True) v1_ r2 ∧ Below w.heap.size w w' := by
 have hu34 := Tryz.underlying34
 have hu64 := Tryz.underlying64
 have HR1 := Aside0.mk hr1
 have HC1 := Aside0.mk hc1
 clear hr1 hc1
 have HB := Aside0.mk (Below.refl w.heap.size w)
 have H : (if a0 < 0 then (some (0, ([] : List (S64)), 1)) else (if a0 > 1000 then (some (0, ([] : List (S64)), 5)) else (if 0 ≤ a0 then (if (a0 : Int).toNat ≤ 11728124029610 then (carcanetref03_Normal.l0 k a0 l1 (List.replicate (a0 : Int).toNat []) 0) else (none)) else (none)))) = some (r1, r2, r3) := h
 clear h
 by_cases c3 : a0 < 0
 ·rw [if_pos c3] at H
  have c3b0 : decide (a0 < 0) = true := decide_eq_true c3
  clear c3
  simp only [Option.some.injEq, Prod.mk.injEq] at H
  obtain ⟨rfl, rfl, rfl⟩ := H
  go_enter Tryz.func40, Tryz.ntmps40
  go_wp2_with (first | ((with_reducible refine gate_dst (N := 4) rfl ?_); (try (refine gate_guard (by rfl) ?_; dsimp only)); refine box_event ?hg (N := 4) ?hd (cs := #[.int .i64 0, .slice none 0 0]) (t := 34) ?hr ?_; (case hd => rfl); (case hg => rfl); (case hr => first | (go_simp; done) | (go_simp; rfl)); intro gb187 hg w4 hbox hb; have n0_ := Aside0.mk (below_step (by repeat (first | (with_reducible first | exact HB.out | apply below_alloc | apply pw_below_drewN | apply below_drew1) | exact HB.out)) hb); have n1_ := Aside0.mk (hbox); have n2_ := Aside0.mk ((by rw [hg]; exact (below_size (by repeat (first | (with_reducible first | exact HB.out | apply below_alloc | apply pw_below_drewN | apply below_drew1) | exact HB.out))) : w.heap.size ≤ gb187)); have n3_ := Aside0.mk ((by rw [hg]; exact (below_size (by repeat (first | (with_reducible first | exact HB.out | apply below_alloc | apply pw_below_drewN | apply below_drew1) | exact HB.out))) : w.heap.size ≤ gb187)); clear HB; have HB := n0_; have BK187 := n1_; have GW187 := n2_; have GE187 := n3_; clear n0_ n1_ n2_ n3_; clear hb hbox hg; have hcz5_0 : w4.cell? ⟨gb187, 0, none⟩ = some (.int .i64 0) := (blk_cell BK187.out 0).trans rfl; have hcz5_1 : w4.cell? ⟨gb187, 1, none⟩ = some (.slice none 0 0) := (blk_cell BK187.out 1).trans rfl; have hfz5_0 := blk_frozen BK187.out 0; have hfz5_1 := blk_frozen BK187.out 1))
  refine bodyPost_ret (results_ct rfl _ _ gb187 34 #[.int .i64 0, .slice none 0 0] (0, 0) _ rfl (by (with_reducible repeat (first | refine blk_drewN ?_ _ | refine blk_drew ?_ | refine blk_alloc ?_ _)); refine blk_put (cs := #[.int .i64 0, .slice none 0 0]) ?_ 1 _ rfl; (with_reducible repeat (first | refine blk_drewN ?_ _ | refine blk_drew ?_ | refine blk_alloc ?_ _)); refine blk_put (cs := #[.int .i64 0, .slice none 0 0]) ?_ 0 _ rfl; (with_reducible repeat (first | refine blk_drewN ?_ _ | refine blk_drew ?_ | refine blk_alloc ?_ _)); exact BK187.out) Tryz.underlying34 rfl (by kernel_rfl)) rfl ?_
  exact ⟨_, by first | rfl | (simp [errW_none, errW_some] <;> rfl) | (simp [*, errW_none, errW_some] <;> rfl), by first | exact Kd.R_nil _ _ _ _ _ | exact Kd.N_nil _ _ _ _ _ | exact Kd.V_nil _ _ _ _ _ | exact Kd.Q_nil _ _ _ _ _ | exact Kd.S_nil _ _ _ _ _, by repeat (first | (with_reducible first | exact HB.out | apply below_alloc | apply pw_below_drewN | apply below_drew1 | refine below_set ?_ GE187.out) | exact HB.out)⟩
 ·rw [if_neg c3] at H
  have c3b0 : decide (a0 < 0) = false := decide_eq_false c3
  clear c3
  by_cases c6 : a0 > 1000
  ·rw [if_pos c6] at H
   have c6b0 : decide (1000 < a0) = true := decide_eq_true c6
   clear c6
   simp only [Option.some.injEq, Prod.mk.injEq] at H
   obtain ⟨rfl, rfl, rfl⟩ := H
   go_enter Tryz.func40, Tryz.ntmps40
   go_wp2_with (first | ((with_reducible refine gate_dst (N := 4) rfl ?_); (try (refine gate_guard (by rfl) ?_; dsimp only)); refine box_event ?hg (N := 4) ?hd (cs := #[.int .i64 0, .slice none 0 0]) (t := 34) ?hr ?_; (case hd => rfl); (case hg => rfl); (case hr => first | (go_simp; done) | (go_simp; rfl)); intro gb187 hg w7 hbox hb; have n0_ := Aside0.mk (below_step (by repeat (first | (with_reducible first | exact HB.out | apply below_alloc | apply pw_below_drewN | apply below_drew1) | exact HB.out)) hb); have n1_ := Aside0.mk (hbox); have n2_ := Aside0.mk ((by rw [hg]; exact (below_size (by repeat (first | (with_reducible first | exact HB.out | apply below_alloc | apply pw_below_drewN | apply below_drew1) | exact HB.out))) : w.heap.size ≤ gb187)); have n3_ := Aside0.mk ((by rw [hg]; exact (below_size (by repeat (first | (with_reducible first | exact HB.out | apply below_alloc | apply pw_below_drewN | apply below_drew1) | exact HB.out))) : w.heap.size ≤ gb187)); clear HB; have HB := n0_; have BK187 := n1_; have GW187 := n2_; have GE187 := n3_; clear n0_ n1_ n2_ n3_; clear hb hbox hg; have hcz8_0 : w7.cell? ⟨gb187, 0, none⟩ = some (.int .i64 0) := (blk_cell BK187.out 0).trans rfl; have hcz8_1 : w7.cell? ⟨gb187, 1, none⟩ = some (.slice none 0 0) := (blk_cell BK187.out 1).trans rfl; have hfz8_0 := blk_frozen BK187.out 0; have hfz8_1 := blk_frozen BK187.out 1))
   refine bodyPost_ret (results_ct rfl _ _ gb187 34 #[.int .i64 0, .slice none 0 0] (0, 0) _ rfl (by (with_reducible repeat (first | refine blk_drewN ?_ _ | refine blk_drew ?_ | refine blk_alloc ?_ _)); refine blk_put (cs := #[.int .i64 0, .slice none 0 0]) ?_ 1 _ rfl; (with_reducible repeat (first | refine blk_drewN ?_ _ | refine blk_drew ?_ | refine blk_alloc ?_ _)); refine blk_put (cs := #[.int .i64 0, .slice none 0 0]) ?_ 0 _ rfl; (with_reducible repeat (first | refine blk_drewN ?_ _ | refine blk_drew ?_ | refine blk_alloc ?_ _)); exact BK187.out) Tryz.underlying34 rfl (by kernel_rfl)) rfl ?_
   exact ⟨_, by first | rfl | (simp [errW_none, errW_some] <;> rfl) | (simp [*, errW_none, errW_some] <;> rfl), by first | exact Kd.R_nil _ _ _ _ _ | exact Kd.N_nil _ _ _ _ _ | exact Kd.V_nil _ _ _ _ _ | exact Kd.Q_nil _ _ _ _ _ | exact Kd.S_nil _ _ _ _ _, by repeat (first | (with_reducible first | exact HB.out | apply below_alloc | apply pw_below_drewN | apply below_drew1 | refine below_set ?_ GE187.out) | exact HB.out)⟩
  ·rw [if_neg c6] at H
   have c6b0 : decide (1000 < a0) = false := decide_eq_false c6
   clear c6
   by_cases c9 : 0 ≤ a0
   ·rw [if_pos c9] at H
    have c9b0 := eq_true c9
    have c9b1 : decide (0 ≤ a0) = true := decide_eq_true c9
    clear c9
    by_cases c10 : (a0 : Int).toNat ≤ 11728124029610
    ·rw [if_pos c10] at H
     have c10b0 := eq_true c10
     have c10b1 : decide ((a0 : Int).toNat ≤ 11728124029610) = true := decide_eq_true c10
     clear c10
     obtain ⟨y188, hy188⟩ : ∃ y_ : List (List Int), y_ = (List.replicate (a0 : Int).toNat []) := ⟨_, rfl⟩
     replace H : (carcanetref03_Normal.l0 k a0 l1 y188 0) = some (r1, r2, r3) := by first | (rw [hy188]; with_reducible exact H) | (have H2_ := (Option.bind_some _ _).symm.trans H; rw [hy188]; with_reducible exact H2_) | (have H2_ := (Option.bind_some _ _).symm.trans H; with_reducible exact H2_) | with_reducible exact H | (rw [hy188]; exact H) | exact H
     have Ny188 := Aside0.mk hy188
     clear hy188
     have H' := Aside0.mk H
     clear H
     go_enter Tryz.func40, Tryz.ntmps40
     go_wp2_with (first | ((with_reducible refine gate_dst (N := 4) rfl ?_); (try (refine gate_guard (by rfl) ?_; dsimp only)); refine box_event ?hg (N := 4) ?hd (cs := #[.int .i64 0, .slice none 0 0]) (t := 34) ?hr ?_; (case hd => rfl); (case hg => rfl); (case hr => first | (go_simp; done) | (go_simp; rfl)); intro gb187 hg w11 hbox hb; have n0_ := Aside0.mk (below_step (by repeat (first | (with_reducible first | exact HB.out | apply below_alloc | apply pw_below_drewN | apply below_drew1) | exact HB.out)) hb); have n1_ := Aside0.mk (hbox); have n2_ := Aside0.mk ((by rw [hg]; exact (below_size (by repeat (first | (with_reducible first | exact HB.out | apply below_alloc | apply pw_below_drewN | apply below_drew1) | exact HB.out))) : w.heap.size ≤ gb187)); have n3_ := Aside0.mk ((by rw [hg]; exact (below_size (by repeat (first | (with_reducible first | exact HB.out | apply below_alloc | apply pw_below_drewN | apply below_drew1) | exact HB.out))) : w.heap.size ≤ gb187)); clear HB; have HB := n0_; have BK187 := n1_; have GW187 := n2_; have GE187 := n3_; clear n0_ n1_ n2_ n3_; clear hb hbox hg) | ((with_reducible refine gate_dst (N := 22) rfl ?_); (try (refine gate_guard (by rfl) ?_; dsimp only)); refine Kd.S_make (Kd.slice 3 (Kd.int .i64)) _ 102 rfl (N := 22) rfl 100 _ _ rfl a0 rfl rfl Tryz.underlying100 (.slice none 0 0) 24 info102 rfl (by decide) (by omega) [] (ok := fun _ => True) (okp := fun _ => True) ⟨_, rfl, Kd.R_nil _ _ _ _ _⟩ (fun _ hk => hk) trivial (of_decide_eq_true (by first | (with_reducible assumption) | assumption)) (Nat.le_trans (Nat.mul_le_mul_right _ (of_decide_eq_true (by first | (with_reducible assumption) | assumption) : a0.toNat ≤ 11728124029610)) (by omega)) (Below.refl _ _) (Nat.le_refl _) ?_; intro v189 w12 ho13 hb hg_ hnew_; clear hg_ hnew_; (first | rw [← Ny188.out] at ho13 | (simp only [Int.reduceToNat] at ho13; rw [← Ny188.out] at ho13)); have n0_ := Aside0.mk (Kd.S_lower ho13 (below_size (by repeat (first | (with_reducible first | exact HB.out | apply below_alloc | apply pw_below_drewN | apply below_drew1 | refine below_set ?_ GE187.out) | exact HB.out)))); have n1_ := Aside0.mk (blk_below (g := gb187) (o := .cells #[.int .i64 0, .slice none 0 0] 34 (0, 0)) (by (with_reducible repeat (first | refine blk_drewN ?_ _ | refine blk_drew ?_ | refine blk_alloc ?_ _)); exact BK187.out) hb); have n2_ := Aside0.mk (below_step (by repeat (first | (with_reducible first | exact HB.out | apply below_alloc | apply pw_below_drewN | apply below_drew1 | refine below_set ?_ GE187.out) | exact HB.out)) hb); clear BK187; clear HB; have HO190 := n0_; have BK187 := n1_; have HB := n2_; clear n0_ n1_ n2_; clear hb ho13))
     go_loopg [7] k (fun kq v7 w' => ∃ (x6_1 : List (List Int)) (x7_1 : Int) (x188000_1 : Int), v7 = .int .i64 x7_1 ∧ Aside0 (carcanetref03_Normal.l0 kq a0 l1 x6_1 x7_1 = some (r1, r2, r3)) ∧ Aside0 (kq ≤ k) ∧ Aside0 (Kd.S (Kd.slice 3 (Kd.int .i64)) 102 w' w.heap.size (fun _ => True) v189 x6_1) ∧ Aside0 (w'.heap[gb187]? = some (.cells #[.int .i64 x188000_1, (.slice none 0 0)] 34 (0, 0))) ∧ Aside0 (Below w.heap.size w w'))
     case atStart => exact ⟨(y188), (0), (0), (by first | rfl | (simp; done) | (simp [*]; done)), H', ⟨Nat.le_refl _⟩, ⟨by (with_reducible repeat (first | apply Kd.S_alloc | apply Kd.S_drewN | apply Kd.S_drew)); exact HO190.out⟩, ⟨by (with_reducible repeat (first | refine blk_drewN ?_ _ | refine blk_drew ?_ | refine blk_alloc ?_ _)); exact BK187.out⟩, ⟨by repeat (first | (with_reducible first | exact HB.out | apply below_alloc | apply pw_below_drewN | apply below_drew1 | refine below_set ?_ GE187.out) | exact HB.out)⟩⟩
     case round =>
      clear H'
      try clear c1
      try clear p2
      try clear c3
      try clear c3b0
      try clear c4
      try clear c6
      try clear c6b0
      try clear c9
      try clear c9b0
      try clear c9b1
      try clear c10
      try clear c10b0
      try clear c10b1
      try clear hcz5_0
      try clear hcz5_1
      try clear hcz8_0
      try clear hcz8_1
      try clear hfz5_0
      try clear hfz5_1
      try clear hfz8_0
      try clear hfz8_1
      obtain ⟨x6_1, x7_1, x188000_1, rfl, HA, HK1, HO_6, BK187, HB⟩ := hrel
      cases gk with
      | zero => exact absurd HA.out (by simp [carcanetref03_Normal.l0])
      | succ k1 =>
       have H := HA.out
       clear HA
       simp only [carcanetref03_Normal.l0] at H
       by_cases c14 : x7_1 < (l1.length : Int)
       ·rw [if_pos c14] at H
        have c14b0 : decide (x7_1 < (l1.length : Int)) = true := decide_eq_true c14
        clear c14
        by_cases c15 : 0 ≤ x7_1
        ·rw [if_pos c15] at H
         have c15b0 : decide (0 ≤ x7_1) = true := decide_eq_true c15
         clear c15
         have HC16 := Aside0.mk H
         clear H
         have p191 : 0 ≤ (x7_1 : Int) := of_decide_eq_true (by first | (with_reducible assumption) | assumption)
         have q191 : x7_1 < (l1.length : Int) := of_decide_eq_true (by first | (with_reducible assumption) | assumption)
         obtain ⟨ad191, e191, hx191_0, hx191_1⟩ := at_T64 HR1.out x7_1 p191 q191
         cases e191
         replace hx191_0 := (HB.out.cell (World.block_lt_of_cell? w _ hx191_0)).trans hx191_0
         replace hx191_1 := (HB.out.cell (World.block_lt_of_cell? w _ hx191_1)).trans hx191_1
         replace p191 := eq_true p191
         replace q191 := eq_true q191
         have p192 : 0 ≤ (x7_1 : Int) := of_decide_eq_true (by first | (with_reducible assumption) | assumption)
         have q192 : x7_1 < (l1.length : Int) := of_decide_eq_true (by first | (with_reducible assumption) | assumption)
         obtain ⟨ad192, e192, hx192_0, hx192_1⟩ := at_T64 HR1.out x7_1 p192 q192
         obtain rfl : ad191 = ad192 := (by injection e192)
         replace hx192_0 := (HB.out.cell (World.block_lt_of_cell? w _ hx192_0)).trans hx192_0
         replace hx192_1 := (HB.out.cell (World.block_lt_of_cell? w _ hx192_1)).trans hx192_1
         replace p192 := eq_true p192
         replace q192 := eq_true q192
         go_upto_region 11 with (fail)
         go_cut [54] (fun v54 wc => ∃ (kq : Nat) (x54_15 : Bool), v54 = .bool x54_15 ∧ Aside0 (carcanetref03_Normal.j1 kq a0 l1 x6_1 x7_1 ((rd_T64 l1 x7_1).f0) ((rd_T64 l1 x7_1).f1) x54_15 = some (r1, r2, r3)) ∧ Aside0 (kq ≤ k1) ∧ Aside0 (Kd.S (Kd.slice 3 (Kd.int .i64)) 102 wc w.heap.size (fun _ => True) v189 x6_1) ∧ Aside0 (wc.heap[gb187]? = some (.cells #[.int .i64 x188000_1, (.slice none 0 0)] 34 (0, 0))) ∧ Aside0 (Below w.heap.size w wc))
         case first =>
          have H := HC16.out
          clear HC16
          by_cases c17 : ((rd_T64 l1 x7_1).f0) < 0
          ·rw [if_pos c17] at H
           have c17b0 : decide (((rd_T64 l1 x7_1).f0) < 0) = true := decide_eq_true c17
           clear c17
           (first | rw [c17b0] | (simp only [i64_w, i32_w]; rw [c17b0]) | skip)
           have H' := Aside0.mk H
           clear H
           go_wp2
           go_meet
           case rel => exact ⟨_, (true), (by first | rfl | (simp; done) | (simp [*]; done)), H', ⟨by have := HK1.out; first | omega | exact Nat.le_refl _⟩, ⟨by (with_reducible repeat (first | apply Kd.S_alloc | apply Kd.S_drewN | apply Kd.S_drew)); exact HO_6.out⟩, ⟨by (with_reducible repeat (first | refine blk_drewN ?_ _ | refine blk_drew ?_ | refine blk_alloc ?_ _)); exact BK187.out⟩, ⟨by repeat (first | (with_reducible first | exact HB.out | apply below_alloc | apply pw_below_drewN | apply below_drew1 | refine below_set ?_ GE187.out) | exact HB.out)⟩⟩
          ·rw [if_neg c17] at H
           have c17b0 : decide (((rd_T64 l1 x7_1).f0) < 0) = false := decide_eq_false c17
           clear c17
           (first | rw [c17b0] | (simp only [i64_w, i32_w]; rw [c17b0]) | skip)
           by_cases c18 : ((rd_T64 l1 x7_1).f1) < 0
           ·rw [if_pos c18] at H
            have c18b0 : decide (((rd_T64 l1 x7_1).f1) < 0) = true := decide_eq_true c18
            clear c18
            have H' := Aside0.mk H
            clear H
            go_wp2
            go_meet
            case rel => exact ⟨_, (true), (by first | rfl | (simp; done) | (simp [*]; done)), H', ⟨by have := HK1.out; first | omega | exact Nat.le_refl _⟩, ⟨by (with_reducible repeat (first | apply Kd.S_alloc | apply Kd.S_drewN | apply Kd.S_drew)); exact HO_6.out⟩, ⟨by (with_reducible repeat (first | refine blk_drewN ?_ _ | refine blk_drew ?_ | refine blk_alloc ?_ _)); exact BK187.out⟩, ⟨by repeat (first | (with_reducible first | exact HB.out | apply below_alloc | apply pw_below_drewN | apply below_drew1 | refine below_set ?_ GE187.out) | exact HB.out)⟩⟩
           ·rw [if_neg c18] at H
            have c18b0 : decide (((rd_T64 l1 x7_1).f1) < 0) = false := decide_eq_false c18
            clear c18
            by_cases c19 : ((rd_T64 l1 x7_1).f0) ≥ a0
            ·rw [if_pos c19] at H
             have c19b0 : decide (a0 ≤ ((rd_T64 l1 x7_1).f0)) = true := decide_eq_true c19
             clear c19
             have H' := Aside0.mk H
             clear H
             go_wp2
             go_meet
             case rel => exact ⟨_, (true), (by first | rfl | (simp; done) | (simp [*]; done)), H', ⟨by have := HK1.out; first | omega | exact Nat.le_refl _⟩, ⟨by (with_reducible repeat (first | apply Kd.S_alloc | apply Kd.S_drewN | apply Kd.S_drew)); exact HO_6.out⟩, ⟨by (with_reducible repeat (first | refine blk_drewN ?_ _ | refine blk_drew ?_ | refine blk_alloc ?_ _)); exact BK187.out⟩, ⟨by repeat (first | (with_reducible first | exact HB.out | apply below_alloc | apply pw_below_drewN | apply below_drew1 | refine below_set ?_ GE187.out) | exact HB.out)⟩⟩
            ·rw [if_neg c19] at H
             have c19b0 : decide (a0 ≤ ((rd_T64 l1 x7_1).f0)) = false := decide_eq_false c19
             clear c19
             have H' := Aside0.mk H
             clear H
             go_wp2
             go_meet
             case rel => exact ⟨_, (decide (((rd_T64 l1 x7_1).f1) ≥ a0)), (by first | rfl | (simp; done) | (simp [*]; done)), H', ⟨by have := HK1.out; first | omega | exact Nat.le_refl _⟩, ⟨by (with_reducible repeat (first | apply Kd.S_alloc | apply Kd.S_drewN | apply Kd.S_drew)); exact HO_6.out⟩, ⟨by (with_reducible repeat (first | refine blk_drewN ?_ _ | refine blk_drew ?_ | refine blk_alloc ?_ _)); exact BK187.out⟩, ⟨by repeat (first | (with_reducible first | exact HB.out | apply below_alloc | apply pw_below_drewN | apply below_drew1 | refine below_set ?_ GE187.out) | exact HB.out)⟩⟩
         case rest =>
          clear HC16
          try clear c1
          try clear p1
          try clear q1
          try clear hx1
          try clear p2
          try clear c3
          try clear c3b0
          try clear c4
          try clear c6
          try clear c6b0
          try clear c9
          try clear c9b0
          try clear c9b1
          try clear c10
          try clear c10b0
          try clear c10b1
          try clear c14
          try clear c14b0
          try clear c15
          try clear c15b0
          try clear c17
          try clear c17b0
          try clear c18
          try clear c18b0
          try clear c19
          try clear c19b0
          try clear p19
          try clear q19
          try clear hx19
          try clear hcz5_0
          try clear hcz5_1
          try clear hcz8_0
          try clear hcz8_1
          try clear hfz5_0
          try clear hfz5_1
          try clear hfz8_0
          try clear hfz8_1
          try clear hx191_0
          try clear hx191_1
          try clear hx192_0
          try clear hx192_1
          try clear p191
          try clear p192
          try clear p2
          try clear q191
          try clear q192
          obtain ⟨kq, x54_15, rfl, HA, HJ15, HO_6, BK187, HB⟩ := hcut
          cases kq with
          | zero => exact absurd HA.out (by simp [carcanetref03_Normal.j1])
          | succ kj15 =>
           have H := HA.out
           clear HA
           simp only [carcanetref03_Normal.j1] at H
           by_cases c20 : x54_15 = true
           ·subst c20
            have H1 : (some (0, ([] : List (S64)), 4)) = some (r1, r2, r3) := by rw [if_pos rfl] at H; exact H
            clear H
            have H := H1
            clear H1
            simp only [Option.some.injEq, Prod.mk.injEq] at H
            obtain ⟨rfl, rfl, rfl⟩ := H
            have hcz21_0 : wc.cell? ⟨gb187, 0, none⟩ = some (.int .i64 x188000_1) := (blk_cell BK187.out 0).trans rfl
            have hcz21_1 : wc.cell? ⟨gb187, 1, none⟩ = some (.slice none 0 0) := (blk_cell BK187.out 1).trans rfl
            have hfz21_0 := blk_frozen BK187.out 0
            have hfz21_1 := blk_frozen BK187.out 1
            go_wp2
            refine bodyPost_ret (results_ct rfl _ _ gb187 34 #[.int .i64 0, .slice none 0 0] (0, 0) _ rfl (by (with_reducible repeat (first | refine blk_drewN ?_ _ | refine blk_drew ?_ | refine blk_alloc ?_ _)); refine blk_put (cs := #[.int .i64 0, .slice none 0 0]) ?_ 1 _ rfl; (with_reducible repeat (first | refine blk_drewN ?_ _ | refine blk_drew ?_ | refine blk_alloc ?_ _)); refine blk_put (cs := #[.int .i64 x188000_1, .slice none 0 0]) ?_ 0 _ rfl; (with_reducible repeat (first | refine blk_drewN ?_ _ | refine blk_drew ?_ | refine blk_alloc ?_ _)); exact BK187.out) Tryz.underlying34 rfl (by kernel_rfl)) rfl ?_
            exact ⟨_, by first | rfl | (simp [errW_none, errW_some] <;> rfl) | (simp [*, errW_none, errW_some] <;> rfl), by first | exact Kd.R_nil _ _ _ _ _ | exact Kd.N_nil _ _ _ _ _ | exact Kd.V_nil _ _ _ _ _ | exact Kd.Q_nil _ _ _ _ _ | exact Kd.S_nil _ _ _ _ _, by repeat (first | (with_reducible first | exact HB.out | apply below_alloc | apply pw_below_drewN | apply below_drew1 | refine below_set ?_ GE187.out) | exact HB.out)⟩
           ·replace c20 := Bool.eq_false_iff.mpr c20
            subst c20
            have H1 : (if ((rd_T64 l1 x7_1).f0) = ((rd_T64 l1 x7_1).f1) then (carcanetref03_Normal.l0 kj15 a0 l1 x6_1 (wrap64 (x7_1 + 1))) else (if 0 ≤ (mn ((rd_T64 l1 x7_1).f0) ((rd_T64 l1 x7_1).f1)) then (if (mn ((rd_T64 l1 x7_1).f0) ((rd_T64 l1 x7_1).f1)) < (x6_1.length : Int) then ((carcanetref03_In.f kj15 (rd_L11 x6_1 (mn ((rd_T64 l1 x7_1).f0) ((rd_T64 l1 x7_1).f1))) (mx ((rd_T64 l1 x7_1).f0) ((rd_T64 l1 x7_1).f1))).bind fun t194 => (if t194 = true then (carcanetref03_Normal.l0 kj15 a0 l1 x6_1 (wrap64 (x7_1 + 1))) else (if (rd_L11 x6_1 (mn ((rd_T64 l1 x7_1).f0) ((rd_T64 l1 x7_1).f1))).length < 17592186044416 then (carcanetref03_Normal.l0 kj15 a0 l1 (x6_1.set ((mn ((rd_T64 l1 x7_1).f0) ((rd_T64 l1 x7_1).f1)) : Int).toNat ((rd_L11 x6_1 (mn ((rd_T64 l1 x7_1).f0) ((rd_T64 l1 x7_1).f1))) ++ [mx ((rd_T64 l1 x7_1).f0) ((rd_T64 l1 x7_1).f1)])) (wrap64 (x7_1 + 1))) else (none)))) else (none)) else (none))) = some (r1, r2, r3) := by rw [if_neg (show ¬ (false = true) by decide)] at H; exact H
            clear H
            have H := H1
            clear H1
            obtain ⟨ji22, hji22⟩ : ∃ j_ : Int, (mn ((rd_T64 l1 x7_1).f0) ((rd_T64 l1 x7_1).f1)) = j_ := ⟨_, rfl⟩
            replace H : (if ((rd_T64 l1 x7_1).f0) = ((rd_T64 l1 x7_1).f1) then (carcanetref03_Normal.l0 kj15 a0 l1 x6_1 (wrap64 (x7_1 + 1))) else (if 0 ≤ (ji22) then (if (ji22) < (x6_1.length : Int) then ((carcanetref03_In.f kj15 (rd_L11 x6_1 (ji22)) (mx ((rd_T64 l1 x7_1).f0) ((rd_T64 l1 x7_1).f1))).bind fun t194 => (if t194 = true then (carcanetref03_Normal.l0 kj15 a0 l1 x6_1 (wrap64 (x7_1 + 1))) else (if (rd_L11 x6_1 (ji22)).length < 17592186044416 then (carcanetref03_Normal.l0 kj15 a0 l1 (x6_1.set ((ji22) : Int).toNat ((rd_L11 x6_1 (ji22)) ++ [mx ((rd_T64 l1 x7_1).f0) ((rd_T64 l1 x7_1).f1)])) (wrap64 (x7_1 + 1))) else (none)))) else (none)) else (none))) = some (r1, r2, r3) := by first | (rw [hji22] at H; exact H) | (simp only [hji22] at H ⊢; exact H)
            have hji22_ : (if ((rd_T64 l1 x7_1).f1) < ((rd_T64 l1 x7_1).f0) then ((rd_T64 l1 x7_1).f1) else ((rd_T64 l1 x7_1).f0)) = ji22 := hji22
            by_cases c23 : ((rd_T64 l1 x7_1).f0) = ((rd_T64 l1 x7_1).f1)
            ·rw [if_pos c23] at H
             have c23b0 : (((rd_T64 l1 x7_1).f0) == ((rd_T64 l1 x7_1).f1)) = true := beq_iff_eq.mpr c23
             have c23b1 : (((rd_T64 l1 x7_1).f0) != ((rd_T64 l1 x7_1).f1)) = false := bne_eq_false_iff_eq.mpr c23
             clear c23
             have H' := Aside0.mk H
             clear H
             go_wp2
             go_roundg kj15
             case measure => have := HK1.out; have := HJ15.out; omega
             case rel => exact ⟨(x6_1), (wrap64 (x7_1 + 1)), (x188000_1), (by first | rfl | (simp; done) | (simp [*]; done)), H', ⟨by have := HK1.out; have := HJ15.out; omega⟩, ⟨by (with_reducible repeat (first | apply Kd.S_alloc | apply Kd.S_drewN | apply Kd.S_drew)); exact HO_6.out⟩, ⟨by (with_reducible repeat (first | refine blk_drewN ?_ _ | refine blk_drew ?_ | refine blk_alloc ?_ _)); exact BK187.out⟩, ⟨by repeat (first | (with_reducible first | exact HB.out | apply below_alloc | apply pw_below_drewN | apply below_drew1 | refine below_set ?_ GE187.out) | exact HB.out)⟩⟩
            ·rw [if_neg c23] at H
             have c23b0 : (((rd_T64 l1 x7_1).f0) == ((rd_T64 l1 x7_1).f1)) = false := beq_eq_false_iff_ne.mpr c23
             have c23b1 : (((rd_T64 l1 x7_1).f0) != ((rd_T64 l1 x7_1).f1)) = true := bne_iff_ne.mpr c23
             by_cases c24 : 0 ≤ (ji22)
             ·rw [if_pos c24] at H
              have c24b0 : decide (0 ≤ (ji22)) = true := decide_eq_true c24
              clear c24
              by_cases c25 : (ji22) < (x6_1.length : Int)
              ·rw [if_pos c25] at H
               have c25b0 : decide ((ji22) < (x6_1.length : Int)) = true := decide_eq_true c25
               clear c25
               obtain ⟨ji26, hji26⟩ : ∃ j_ : Int, (mx ((rd_T64 l1 x7_1).f0) ((rd_T64 l1 x7_1).f1)) = j_ := ⟨_, rfl⟩
               replace H : ((carcanetref03_In.f kj15 (rd_L11 x6_1 (ji22)) (ji26)).bind fun t194 => (if t194 = true then (carcanetref03_Normal.l0 kj15 a0 l1 x6_1 (wrap64 (x7_1 + 1))) else (if (rd_L11 x6_1 (ji22)).length < 17592186044416 then (carcanetref03_Normal.l0 kj15 a0 l1 (x6_1.set ((ji22) : Int).toNat ((rd_L11 x6_1 (ji22)) ++ [ji26])) (wrap64 (x7_1 + 1))) else (none)))) = some (r1, r2, r3) := by first | (rw [hji26] at H; exact H) | (simp only [hji26] at H ⊢; exact H)
               have hji26_ : (if ((rd_T64 l1 x7_1).f0) < ((rd_T64 l1 x7_1).f1) then ((rd_T64 l1 x7_1).f1) else ((rd_T64 l1 x7_1).f0)) = ji26 := hji26
               replace H := Option.bind_eq_some_iff.mp H
               obtain ⟨t194, A270, H⟩ := H
               replace H : (if t194 = true then (carcanetref03_Normal.l0 kj15 a0 l1 x6_1 (wrap64 (x7_1 + 1))) else (if (rd_L11 x6_1 (ji22)).length < 17592186044416 then (carcanetref03_Normal.l0 kj15 a0 l1 (x6_1.set ((ji22) : Int).toNat ((rd_L11 x6_1 (ji22)) ++ [ji26])) (wrap64 (x7_1 + 1))) else (none))) = some (r1, r2, r3) := H
               have A27 := Aside0.mk A270
               clear A270
               by_cases c28 : t194 = true
               ·subst c28
                have H1 : (carcanetref03_Normal.l0 kj15 a0 l1 x6_1 (wrap64 (x7_1 + 1))) = some (r1, r2, r3) := by rw [if_pos rfl] at H; exact H
                clear H
                have H := H1
                clear H1
                have H' := Aside0.mk H
                clear H
                obtain ⟨Ao29, co29, eo29⟩ := Kd.S_slice HO_6.out
                subst eo29
                have p193 : 0 ≤ ((ji22) : Int) := of_decide_eq_true (by first | (with_reducible assumption) | assumption)
                have q193 : (ji22) < (x6_1.length : Int) := of_decide_eq_true (by first | (with_reducible assumption) | assumption)
                obtain ⟨ad193, A193_0, c193_0, e193, hx193_0, hl193_0, hi193_0⟩ := at_L11 (Kd.S_reads' HO_6.out).2.2 (ji22) p193 q193
                cases e193
                obtain ⟨ce193, hce193, hMe193, hcc193⟩ := Kd.S_get HO_6.out [] (ji22) p193 (by first | exact q193 | exact of_decide_eq_true (by first | (with_reducible assumption) | assumption) | (have e_ := (Kd.S_reads' HO_6.out).1; omega))
                obtain ⟨ve193_0, rfl, ge193_0⟩ := hMe193
                have hv193_0 := hcc193 0 _ rfl
                rw [Nat.add_zero, show ((Kd.slice 3 (Kd.int .i64))).sz = 1 from rfl, Nat.mul_one] at hv193_0
                replace hv193_0 := Option.some.inj (hv193_0.symm.trans hx193_0)
                rw [hv193_0] at ge193_0
                have HL193_0 := Aside0.mk (show Kd.R (Kd.int .i64) 3 _ _ _ _ (rd_L11 x6_1 (ji22)) from ge193_0)
                clear hv193_0 ge193_0
                have HX193_0 := Aside0.mk hx193_0
                clear hcc193 hce193
                have HR193_0 := Aside0.mk hi193_0
                have HC193_0 := Aside0.mk hl193_0
                clear hi193_0 hl193_0
                replace p193 := eq_true p193
                replace q193 := eq_true q193
                go_wp2_with (first | (go_at_call 56; (with_reducible refine (carcanetref03_In.calls kj15 _ _ (rd_L11 x6_1 (ji22)) ji26 true _ ?side1 ?side2 A27.out).mono ?_); (case side1 => repeat (first | exact (by repeat (first | (with_reducible exact HR193_0.out) | (with_reducible refine Kd.C_alloc ?_ _) | (with_reducible refine Kd.C_drewN ?_ _) | (with_reducible refine Kd.C_drew ?_) | exact HR193_0.out)) | (with_reducible refine Kd.C_alloc ?_ _) | (with_reducible refine Kd.C_drewN ?_ _) | (with_reducible refine Kd.C_drew ?_))); (case side2 => exact HC193_0.out); rintro e w' ⟨rfl, ⟨nd, rfl⟩⟩))
                go_roundg kj15
                case measure => have := HK1.out; have := HJ15.out; omega
                case rel => exact ⟨(x6_1), (wrap64 (x7_1 + 1)), (x188000_1), (by first | rfl | (simp; done) | (simp [*]; done)), H', ⟨by have := HK1.out; have := HJ15.out; omega⟩, ⟨by (with_reducible repeat (first | apply Kd.S_alloc | apply Kd.S_drewN | apply Kd.S_drew)); exact HO_6.out⟩, ⟨by (with_reducible repeat (first | refine blk_drewN ?_ _ | refine blk_drew ?_ | refine blk_alloc ?_ _)); exact BK187.out⟩, ⟨by repeat (first | (with_reducible first | exact HB.out | apply below_alloc | apply pw_below_drewN | apply below_drew1 | refine below_set ?_ GE187.out) | exact HB.out)⟩⟩
               ·replace c28 := Bool.eq_false_iff.mpr c28
                subst c28
                have H1 : (if (rd_L11 x6_1 (ji22)).length < 17592186044416 then (carcanetref03_Normal.l0 kj15 a0 l1 (x6_1.set ((ji22) : Int).toNat ((rd_L11 x6_1 (ji22)) ++ [ji26])) (wrap64 (x7_1 + 1))) else (none)) = some (r1, r2, r3) := by rw [if_neg (show ¬ (false = true) by decide)] at H; exact H
                clear H
                have H := H1
                clear H1
                by_cases c31 : (rd_L11 x6_1 (ji22)).length < 17592186044416
                ·rw [if_pos c31] at H
                 have LMc31 := Aside0.mk c31
                 clear c31
                 obtain ⟨y196, hy196⟩ : ∃ y_ : List Int, y_ = ((rd_L11 x6_1 (ji22)) ++ [ji26]) := ⟨_, rfl⟩
                 replace H : (carcanetref03_Normal.l0 kj15 a0 l1 (x6_1.set ((ji22) : Int).toNat y196) (wrap64 (x7_1 + 1))) = some (r1, r2, r3) := by first | (rw [hy196]; with_reducible exact H) | (have H2_ := (Option.bind_some _ _).symm.trans H; rw [hy196]; with_reducible exact H2_) | (have H2_ := (Option.bind_some _ _).symm.trans H; with_reducible exact H2_) | with_reducible exact H | (rw [hy196]; exact H) | exact H
                 have Ny196 := Aside0.mk hy196
                 clear hy196
                 obtain ⟨y199, hy199⟩ : ∃ y_ : List (List Int), y_ = (x6_1.set ((ji22) : Int).toNat y196) := ⟨_, rfl⟩
                 replace H : (carcanetref03_Normal.l0 kj15 a0 l1 y199 (wrap64 (x7_1 + 1))) = some (r1, r2, r3) := by first | (rw [hy199]; with_reducible exact H) | (have H2_ := (Option.bind_some _ _).symm.trans H; rw [hy199]; with_reducible exact H2_) | (have H2_ := (Option.bind_some _ _).symm.trans H; with_reducible exact H2_) | with_reducible exact H | (rw [hy199]; exact H) | exact H
                 have Ny199 := Aside0.mk hy199
                 clear hy199
                 have H' := Aside0.mk H
                 clear H
                 obtain ⟨Ao33, co33, eo33⟩ := Kd.S_slice HO_6.out
                 subst eo33
                 have p193 : 0 ≤ ((ji22) : Int) := of_decide_eq_true (by first | (with_reducible assumption) | assumption)
                 have q193 : (ji22) < (x6_1.length : Int) := of_decide_eq_true (by first | (with_reducible assumption) | assumption)
                 obtain ⟨ad193, A193_0, c193_0, e193, hx193_0, hl193_0, hi193_0⟩ := at_L11 (Kd.S_reads' HO_6.out).2.2 (ji22) p193 q193
                 cases e193
                 obtain ⟨ce193, hce193, hMe193, hcc193⟩ := Kd.S_get HO_6.out [] (ji22) p193 (by first | exact q193 | exact of_decide_eq_true (by first | (with_reducible assumption) | assumption) | (have e_ := (Kd.S_reads' HO_6.out).1; omega))
                 obtain ⟨ve193_0, rfl, ge193_0⟩ := hMe193
                 have hv193_0 := hcc193 0 _ rfl
                 rw [Nat.add_zero, show ((Kd.slice 3 (Kd.int .i64))).sz = 1 from rfl, Nat.mul_one] at hv193_0
                 replace hv193_0 := Option.some.inj (hv193_0.symm.trans hx193_0)
                 rw [hv193_0] at ge193_0
                 have HL193_0 := Aside0.mk (show Kd.R (Kd.int .i64) 3 _ _ _ _ (rd_L11 x6_1 (ji22)) from ge193_0)
                 clear hv193_0 ge193_0
                 have HX193_0 := Aside0.mk hx193_0
                 clear hcc193 hce193
                 have HR193_0 := Aside0.mk hi193_0
                 have HC193_0 := Aside0.mk hl193_0
                 clear hi193_0 hl193_0
                 replace p193 := eq_true p193
                 replace q193 := eq_true q193
                 go_wp2_with (first | (go_at_call 56; (with_reducible refine (carcanetref03_In.calls kj15 _ _ (rd_L11 x6_1 (ji22)) ji26 false _ ?side1 ?side2 A27.out).mono ?_); (case side1 => repeat (first | exact (by repeat (first | (with_reducible exact HR193_0.out) | (with_reducible refine Kd.C_alloc ?_ _) | (with_reducible refine Kd.C_drewN ?_ _) | (with_reducible refine Kd.C_drew ?_) | exact HR193_0.out)) | (with_reducible refine Kd.C_alloc ?_ _) | (with_reducible refine Kd.C_drewN ?_ _) | (with_reducible refine Kd.C_drew ?_))); (case side2 => exact HC193_0.out); rintro e w' ⟨rfl, ⟨nd, rfl⟩⟩; (try (rw [drewN_self wc]; generalize hq_ : World.drewN wc _ = wc; have n0_ : Aside0 (Kd.R (Kd.int .i64) 3 wc w.heap.size (fun k_ => some k_ ≠ (.slice (some ad193) x6_1.length co33 : Value).ownBlock) (.slice A193_0 (rd_L11 x6_1 (ji22)).length c193_0) (rd_L11 x6_1 (ji22))) := ⟨by rw [← hq_]; exact (by (with_reducible repeat (first | apply Kd.R_alloc | apply Kd.R_drewN | apply Kd.R_drew)); exact Kd.R_mono HL193_0.out (fun _ hk => hk.2))⟩; have n1_ : Aside0 (Kd.S (Kd.slice 3 (Kd.int .i64)) 102 wc w.heap.size (fun _ => True) (.slice (some ad193) x6_1.length co33) x6_1) := ⟨by rw [← hq_]; exact (by (with_reducible repeat (first | apply Kd.S_alloc | apply Kd.S_drewN | apply Kd.S_drew)); exact HO_6.out)⟩; have n2_ : Aside0 (wc.heap[gb187]? = some (.cells #[.int .i64 x188000_1, .slice none 0 0] 34 (0, 0))) := ⟨by rw [← hq_]; exact (by (with_reducible repeat (first | refine blk_drewN ?_ _ | refine blk_drew ?_ | refine blk_alloc ?_ _)); exact BK187.out)⟩; have n3_ : Aside0 (Below w.heap.size w wc) := ⟨by rw [← hq_]; exact (by repeat (first | (with_reducible first | exact HB.out | apply below_alloc | apply pw_below_drewN | apply below_drew1 | refine below_set ?_ GE187.out) | exact HB.out))⟩; have n4_ : Aside0 (Kd.C (Kd.int .i64) wc A193_0 (rd_L11 x6_1 (ji22)).length (rd_L11 x6_1 (ji22))) := ⟨by rw [← hq_]; exact (by repeat (first | (with_reducible exact HR193_0.out) | (with_reducible refine Kd.C_alloc ?_ _) | (with_reducible refine Kd.C_drewN ?_ _) | (with_reducible refine Kd.C_drew ?_) | exact HR193_0.out))⟩; have nx_ := (hx193_0.symm.trans (congrArg (fun w_ => World.cell? w_ _) hq_)).symm; dsimp only at nx_; clear HL193_0 HO_6 BK187 HB HR193_0 hq_; have hx193_0 := nx_; clear nx_; have HL193_0 := n0_; have HO_6 := n1_; have BK187 := n2_; have HB := n3_; have HR193_0 := n4_; clear n0_ n1_ n2_ n3_ n4_)); have p195 : 0 ≤ ((ji22) : Int) := of_decide_eq_true (by first | (with_reducible assumption) | assumption); have q195 : (ji22) < (x6_1.length : Int) := of_decide_eq_true (by first | (with_reducible assumption) | assumption); obtain ⟨ad195, A195_0, c195_0, e195, hx195_0, hl195_0, hi195_0⟩ := at_L11 (Kd.S_reads' HO_6.out).2.2 (ji22) p195 q195; obtain rfl : ad193 = ad195 := (by injection e195); obtain ⟨ce195, hce195, hMe195, hcc195⟩ := Kd.S_get HO_6.out [] (ji22) p195 (by first | exact q195 | exact of_decide_eq_true (by first | (with_reducible assumption) | assumption) | (have e_ := (Kd.S_reads' HO_6.out).1; omega)); obtain ⟨ve195_0, rfl, ge195_0⟩ := hMe195; have hv195_0 := hcc195 0 _ rfl; rw [Nat.add_zero, show ((Kd.slice 3 (Kd.int .i64))).sz = 1 from rfl, Nat.mul_one] at hv195_0; replace hv195_0 := Option.some.inj (hv195_0.symm.trans hx195_0); rw [hv195_0] at ge195_0; have HL195_0 := Aside0.mk (show Kd.R (Kd.int .i64) 3 _ _ _ _ (rd_L11 x6_1 (ji22)) from ge195_0); clear hv195_0 ge195_0; have HX195_0 := Aside0.mk hx195_0; clear hcc195 hce195; have HR195_0 := Aside0.mk hi195_0; have HC195_0 := Aside0.mk hl195_0; clear hi195_0 hl195_0; replace p195 := eq_true p195; replace q195 := eq_true q195; have ea_ := Option.some.inj (hx193_0.symm.trans hx195_0); injection ea_ with ea_ en_ ec_; subst ea_; subst ec_; clear en_; obtain ⟨go34, co34, eo34, gb34, gl34, cl34, HG34⟩ := Kd.S_form HO_6.out (by have h_ : ((ji22) : Int) < ((x6_1.length : Int) : Int) := of_decide_eq_true (by first | (with_reducible assumption) | assumption); have h2_ : 0 ≤ ((ji22) : Int) := (of_decide_eq_true (by first | (with_reducible assumption) | assumption)); omega); (first | cases eo34 | (injection eo34 with ea_ en_ ec_; (first | subst ea_ | (injection ea_ with ea_; subst ea_)); subst ec_; clear en_)); have GB34 := Aside0.mk gb34; have GG34 := Aside0.mk HG34; clear gb34 gl34 HG34; (first | simp only [add_plain] at hx193_0 | skip); (first | simp only [add_plain] at hx195_0 | skip); obtain ⟨oki34, ce34, hcl34, hM34, hcc34, _, _, hH34⟩ := Kd.S_elem HO_6.out [] ((ji22) : Int) (of_decide_eq_true (by first | (with_reducible assumption) | assumption)) (by have h_ : ((ji22) : Int) < ((x6_1.length : Int) : Int) := of_decide_eq_true (by first | (with_reducible assumption) | assumption); first | exact h_ | (have e_ := (Kd.S_reads' HO_6.out).1; omega) | simpa using h_); obtain ⟨ve34_0, rfl, ge34_0⟩ := hM34; have hv34 := hcc34 0 _ rfl; have hX34 := HX195_0.out; (try simp only [add_plain] at hX34); (try simp only [Nat.add_zero] at hv34); (try rw [show ((Kd.slice 3 (Kd.int .i64))).sz = 1 from rfl, Nat.mul_one] at hv34); replace hv34 := Option.some.inj (hv34.symm.trans hX34); subst hv34; clear hX34 hcc34 hcl34; have UU34 := Aside0.mk (show Kd.R (Kd.int .i64) 3 _ w.heap.size oki34 (.slice A193_0 (rd_L11 x6_1 (ji22)).length c193_0) (rd_L11 x6_1 (ji22)) from ge34_0); have HH34 := Aside0.mk hH34; have HN34 := Aside0.mk (Kd.S_reads' HO_6.out).1; clear hH34 ge34_0) | ((with_reducible refine gate_builtin (b := .append) (xs := #[.tmp 78, .tmp 82]) rfl ?_); (try (refine gate_guard (by rfl) ?_; dsimp only)); at_builtin; refine Kd.R_append (Kd.int .i64) (w0 := w) w.heap.size rfl (.tmp 78) (.tmp 82) 102 3 (.int .i64 0) 8 rfl Tryz.underlying102 info3 rfl (by decide) (by omega) (.slice A193_0 (rd_L11 x6_1 (ji22)).length c193_0) (rd_L11 x6_1 (ji22)) ji26 [.int .i64 ji26] (fun k_ => oki34 k_ ∨ ((fun _ => True)) k_ ∧ wc.heap.size ≤ k_) (fun _ => False) rfl rfl ?aP (fun _ hk => hk.elim) ?aF ?aO ?aB ?aS ?aL ?_; (case aP => exact rfl); (case aB => exact (by repeat (first | (with_reducible first | exact HB.out | apply below_alloc | apply pw_below_drewN | apply below_drew1 | refine below_set ?_ GE187.out) | exact HB.out))); (case aF => exact (fun k_ hk => .inr ⟨trivial, hk⟩)); (case aO => exact (by (with_reducible repeat (first | apply Kd.R_alloc | apply Kd.R_drewN | apply Kd.R_drew)); exact Kd.R_mono UU34.out (fun _ hk => .inl hk))); (case aS => exact (below_size (by repeat (first | (with_reducible first | exact HB.out | apply below_alloc | apply pw_below_drewN | apply below_drew1 | refine below_set ?_ GE187.out) | exact HB.out)))); (case aL => have := LMc31.out; omega); intro v197 w35 ho hb hg hat; rw [← Ny196.out] at ho; have n0_ := Aside0.mk (blk_grown (g := gb187) (o := .cells #[.int .i64 x188000_1, .slice none 0 0] 34 (0, 0)) (by (with_reducible repeat (first | refine blk_drewN ?_ _ | refine blk_drew ?_ | refine blk_alloc ?_ _)); exact BK187.out) hg (Kd.R_ne HL195_0.out BK187.out (by decide))); have n1_ := Aside0.mk (hb); have n2_ := Aside0.mk (Kd.H_grown (Kd.H_widen (by repeat (first | exact HH34.out | refine Kd.H_alloc ?_ _ | refine Kd.H_drewN ?_ _ | refine Kd.H_drew ?_))) hg (fun k_ e_ => .inl (UU34.out.1 k_ e_))); have n3_ := Aside0.mk (ho); clear BK187; clear HB; clear HH34; clear HO_6; clear UU34; clear HL193_0; clear HL195_0; have BK187 := n0_; have HB := n1_; have HH34 := n2_; have HO198 := n3_; clear n0_ n1_ n2_ n3_; clear ho hb hg hat; have p32 : 0 ≤ ((ji22) : Int) := of_decide_eq_true (by first | (with_reducible assumption) | assumption); have q32 : ((ji22) : Int) < ((x6_1.length : Int) : Int) := of_decide_eq_true (by first | (with_reducible assumption) | assumption); replace p32 := eq_true p32; replace q32 := eq_true q32; obtain ⟨Ao38, co38, eo38⟩ := Kd.R_slice HO198.out; subst eo38; obtain ⟨_, _, hraw36, _, _, hcc36, _⟩ := Kd.H_raw HH34.out (of_decide_eq_true (by first | (with_reducible assumption) | assumption)) (by have h_ : ((ji22) : Int) < ((x6_1.length : Int) : Int) := of_decide_eq_true (by first | (with_reducible assumption) | assumption); first | exact h_ | (have e_ := (HN34.out); omega) | simpa using h_); obtain ⟨_, hfr36⟩ := Kd.H_at HH34.out (of_decide_eq_true (by first | (with_reducible assumption) | assumption)) (by have h_ : ((ji22) : Int) < ((x6_1.length : Int) : Int) := of_decide_eq_true (by first | (with_reducible assumption) | assumption); first | exact h_ | (have e_ := (HN34.out); omega) | simpa using h_); have hx36_0 := hcc36 0 _ rfl; have hf36_0 := hfr36 0; (try simp only [Nat.add_zero] at hx36_0 hf36_0); (try rw [show ((Kd.slice 3 (Kd.int .i64))).sz = 1 from rfl, Nat.mul_one] at hx36_0); (try rw [show ((Kd.slice 3 (Kd.int .i64))).sz = 1 from rfl, Nat.mul_one] at hf36_0); have HP36 := Kd.S_seg0 HH34.out (of_decide_eq_true (by first | (with_reducible assumption) | assumption)) (by have h_ : ((ji22) : Int) < ((x6_1.length : Int) : Int) := of_decide_eq_true (by first | (with_reducible assumption) | assumption); first | exact h_ | (have e_ := (HN34.out); omega) | simpa using h_) (seg := [.slice Ao38 y196.length co38]) (j := 0) (show 1 ≤ 1 from by decide) (x' := y196) (Kd.M_row HO198.out) (fun _ hk => hk); (try simp only [show ((Kd.slice 3 (Kd.int .i64))).sz = 1 from rfl, Nat.mul_one, Nat.add_zero] at HP36); clear hcc36 hfr36) | ((with_reducible refine gate_store (t := 102) (p := 84) rfl ?_); refine store_event (t := 102) (p := 84) (v := ?vo_w37) (w1 := (w35.setCell ⟨go34, ((ji22) : Int).toNat, none⟩ (.slice Ao38 y196.length co38))) ?hg ?ho ?hn ?hr ?_; (case ho => rfl); (case hg => rfl); (case hn => rfl); (case hr => first | (go_simp; done) | (go_simp; rfl)); intro w37 hw; have hg : w35.grownBy w37 (some go34) := (by rw [hw]; exact HP36.2); have hp_ : Kd.S (Kd.slice 3 (Kd.int .i64)) 102 w37 w.heap.size (fun _ => True) (.slice (some ⟨go34, 0, none⟩) x6_1.length co33) y199 := (by rw [hw, Ny199.out]; exact HP36.1); clear HP36; have n0_ := Aside0.mk (blk_grown (g := gb187) (o := .cells #[.int .i64 x188000_1, .slice none 0 0] 34 (0, 0)) (by (with_reducible repeat (first | refine blk_drewN ?_ _ | refine blk_drew ?_ | refine blk_alloc ?_ _)); exact BK187.out) hg (Kd.R_ne hraw36 BK187.out (by decide))); have n1_ := Aside0.mk ((by rw [hw]; exact below_set HB.out GB34.out : Below w.heap.size w w37)); have n2_ := Aside0.mk (hp_); clear BK187; clear HB; clear HO198; clear HH34; have BK187 := n0_; have HB := n1_; have HO_6 := n2_; clear n0_ n1_ n2_; clear hg hw hp_ hraw36))
                 go_roundg kj15
                 case measure => have := HK1.out; have := HJ15.out; omega
                 case rel => exact ⟨(y199), (wrap64 (x7_1 + 1)), (x188000_1), (by first | rfl | (simp; done) | (simp [*]; done)), H', ⟨by have := HK1.out; have := HJ15.out; omega⟩, ⟨by (with_reducible repeat (first | apply Kd.S_alloc | apply Kd.S_drewN | apply Kd.S_drew)); exact HO_6.out⟩, ⟨by (with_reducible repeat (first | refine blk_drewN ?_ _ | refine blk_drew ?_ | refine blk_alloc ?_ _)); exact BK187.out⟩, ⟨by repeat (first | (with_reducible first | exact HB.out | apply below_alloc | apply pw_below_drewN | apply below_drew1 | refine below_set ?_ GE187.out) | exact HB.out)⟩⟩
                ·rw [if_neg c31] at H
                 exact absurd H (by simp)
              ·rw [if_neg c25] at H
               exact absurd H (by simp)
             ·rw [if_neg c24] at H
              exact absurd H (by simp)
        ·rw [if_neg c15] at H
         exact absurd H (by simp)
       ·rw [if_neg c14] at H
        have c14b0 : decide (x7_1 < (l1.length : Int)) = false := decide_eq_false c14
        clear c14
        have H' := Aside0.mk H
        clear H
        go_wp2_with (first | ((with_reducible refine gate_dst (N := 11) rfl ?_); (try (refine gate_guard (by rfl) ?_; dsimp only)); refine box_event ?hg (N := 11) ?hd (cs := #[.int .i64 0, .slice none 0 0]) (t := 34) ?hr ?_; (case hd => rfl); (case hg => rfl); (case hr => first | (go_simp; done) | (go_simp; rfl)); intro gb200 hg w39 hbox hb; have n0_ := Aside0.mk (Kd.S_below (by (with_reducible repeat (first | apply Kd.S_alloc | apply Kd.S_drewN | apply Kd.S_drew)); exact HO_6.out) hb); have n1_ := Aside0.mk (blk_below (g := gb187) (o := .cells #[.int .i64 x188000_1, .slice none 0 0] 34 (0, 0)) (by (with_reducible repeat (first | refine blk_drewN ?_ _ | refine blk_drew ?_ | refine blk_alloc ?_ _)); exact BK187.out) hb); have n2_ := Aside0.mk (below_step (by repeat (first | (with_reducible first | exact HB.out | apply below_alloc | apply pw_below_drewN | apply below_drew1 | refine below_set ?_ GE187.out) | exact HB.out)) hb); have n3_ := Aside0.mk (hbox); have n4_ := Aside0.mk ((by rw [hg]; exact (below_size (by repeat (first | (with_reducible first | exact HB.out | apply below_alloc | apply pw_below_drewN | apply below_drew1 | refine below_set ?_ GE187.out) | exact HB.out))) : w.heap.size ≤ gb200)); have n5_ := Aside0.mk ((by rw [hg]; exact (below_size (by repeat (first | (with_reducible first | exact HB.out | apply below_alloc | apply pw_below_drewN | apply below_drew1 | refine below_set ?_ GE187.out) | exact HB.out))) : w.heap.size ≤ gb200)); have n6_ := Aside0.mk ((by rw [hg]; exact Nat.ne_of_lt (blk_lt (g := gb187) (o := .cells #[.int .i64 x188000_1, .slice none 0 0] 34 (0, 0)) (by (with_reducible repeat (first | refine blk_drewN ?_ _ | refine blk_drew ?_ | refine blk_alloc ?_ _)); exact BK187.out)) : gb187 ≠ gb200)); have n7_ := Aside0.mk ((by rw [hg]; exact Nat.ne_of_gt (blk_lt (g := gb187) (o := .cells #[.int .i64 x188000_1, .slice none 0 0] 34 (0, 0)) (by (with_reducible repeat (first | refine blk_drewN ?_ _ | refine blk_drew ?_ | refine blk_alloc ?_ _)); exact BK187.out)) : gb200 ≠ gb187)); clear HO_6; clear BK187; clear HB; have HO_6 := n0_; have BK187 := n1_; have HB := n2_; have BK200 := n3_; have GW200 := n4_; have GE200 := n5_; have NB187_200 := n6_; have NB200_187 := n7_; clear n0_ n1_ n2_ n3_ n4_ n5_ n6_ n7_; clear hb hbox hg; have hnb40 := NB200_187.out; have hnc40 := NB187_200.out; have hcz41_0 : w39.cell? ⟨gb200, 0, none⟩ = some (.int .i64 0) := (blk_cell BK200.out 0).trans rfl; have hcz41_1 : w39.cell? ⟨gb200, 1, none⟩ = some (.slice none 0 0) := (blk_cell BK200.out 1).trans rfl; have hfz41_0 := blk_frozen BK200.out 0; have hfz41_1 := blk_frozen BK200.out 1))
        go_loopg [12] k1 (fun kq v12 w' => ∃ (x12_2 : Int) (x201001_2 : List (S64)) (u201001 : Value), v12 = .int .i64 x12_2 ∧ Aside0 (carcanetref03_Normal.l1 kq a0 x6_1 x12_2 a0 x201001_2 = some (r1, r2, r3)) ∧ Aside0 (kq ≤ k1) ∧ Aside0 (Kd.S (Kd.slice 3 (Kd.int .i64)) 102 w' w.heap.size (fun _ => True) v189 x6_1) ∧ Aside0 (Kd.R k64 64 w' w.heap.size (fun _ => True) u201001 x201001_2) ∧ Aside0 (w'.heap[gb187]? = some (.cells #[.int .i64 x188000_1, (.slice none 0 0)] 34 (0, 0))) ∧ Aside0 (w'.heap[gb200]? = some (.cells #[.int .i64 a0, u201001] 34 (0, 0))) ∧ Aside0 (Below w.heap.size w w'))
        case atStart => exact ⟨(0), (([] : List (S64))), (.slice none 0 0), (by first | rfl | (simp; done) | (simp [*]; done)), H', ⟨Nat.le_refl _⟩, ⟨by (with_reducible repeat (first | apply Kd.S_alloc | apply Kd.S_drewN | apply Kd.S_drew)); exact Kd.S_mono (Kd.S_far (p := ⟨gb200, 1, none⟩) (Kd.S_far (p := ⟨gb200, 0, none⟩) (Kd.S_types HO_6.out BK200.out (by decide)) (fun _ hk => hk.2) (.int .i64 a0)) (fun _ hk => hk.2) (.slice none 0 0)) (fun _ hk => trivial)⟩, ⟨by first | exact Kd.R_nil _ _ _ _ _ | exact Kd.N_nil _ _ _ _ _ | exact Kd.V_nil _ _ _ _ _ | exact Kd.Q_nil _ _ _ _ _ | exact Kd.S_nil _ _ _ _ _⟩, ⟨by (with_reducible repeat (first | refine blk_drewN ?_ _ | refine blk_drew ?_ | refine blk_alloc ?_ _)); refine blk_far ?_ NB187_200.out _; (with_reducible repeat (first | refine blk_drewN ?_ _ | refine blk_drew ?_ | refine blk_alloc ?_ _)); refine blk_far ?_ NB187_200.out _; (with_reducible repeat (first | refine blk_drewN ?_ _ | refine blk_drew ?_ | refine blk_alloc ?_ _)); exact BK187.out⟩, ⟨by (with_reducible repeat (first | refine blk_drewN ?_ _ | refine blk_drew ?_ | refine blk_alloc ?_ _)); refine blk_put (cs := #[.int .i64 a0, .slice none 0 0]) ?_ 1 _ rfl; (with_reducible repeat (first | refine blk_drewN ?_ _ | refine blk_drew ?_ | refine blk_alloc ?_ _)); refine blk_put (cs := #[.int .i64 0, .slice none 0 0]) ?_ 0 _ rfl; (with_reducible repeat (first | refine blk_drewN ?_ _ | refine blk_drew ?_ | refine blk_alloc ?_ _)); exact BK200.out⟩, ⟨by repeat (first | (with_reducible first | exact HB.out | apply below_alloc | apply pw_below_drewN | apply below_drew1 | refine below_set ?_ GE187.out | refine below_set ?_ GE200.out) | exact HB.out)⟩⟩
        case round =>
         clear H'
         try clear c1
         try clear p1
         try clear q1
         try clear hx1
         try clear c2
         try clear p2
         try clear c3
         try clear c3b0
         try clear p3
         try clear q3
         try clear hx3
         try clear hf3
         try clear c4
         try clear c6
         try clear c6b0
         try clear p6
         try clear c9
         try clear c9b0
         try clear c9b1
         try clear c10
         try clear c10b0
         try clear c10b1
         try clear c14
         try clear c14b0
         try clear c15
         try clear c15b0
         try clear c17
         try clear c17b0
         try clear c18
         try clear c18b0
         try clear c19
         try clear c19b0
         try clear p19
         try clear q19
         try clear hx19
         try clear c20
         try clear c23
         try clear c23b0
         try clear c23b1
         try clear c24
         try clear c24b0
         try clear c25
         try clear c25b0
         try clear c28
         try clear c30
         try clear c30b0
         try clear c31
         try clear p32
         try clear q32
         try clear c34
         try clear c36
         try clear hx36
         try clear hf36
         try clear c40
         try clear hcz21_0
         try clear hcz21_1
         try clear hcz41_0
         try clear hcz41_1
         try clear hcz5_0
         try clear hcz5_1
         try clear hcz8_0
         try clear hcz8_1
         try clear hfz21_0
         try clear hfz21_1
         try clear hfz41_0
         try clear hfz41_1
         try clear hfz5_0
         try clear hfz5_1
         try clear hfz8_0
         try clear hfz8_1
         try clear hx191_0
         try clear hx191_1
         try clear hx192_0
         try clear hx192_1
         try clear hx193_0
         try clear hx195_0
         try clear hx36_0
         try clear p1
         try clear p19
         try clear p191
         try clear p192
         try clear p193
         try clear p195
         try clear p2
         try clear p32
         try clear q1
         try clear q19
         try clear q191
         try clear q192
         try clear q193
         try clear q195
         try clear q32
         obtain ⟨x12_2, x201001_2, u201001, rfl, HA, HK2, HO_6, HO_201001, BK187, BK200, HB⟩ := hrel
         cases gk with
         | zero => exact absurd HA.out (by simp [carcanetref03_Normal.l1])
         | succ k2 =>
          have H := HA.out
          clear HA
          simp only [carcanetref03_Normal.l1] at H
          by_cases c42 : x12_2 < a0
          ·rw [if_pos c42] at H
           have c42b0 : decide (x12_2 < a0) = true := decide_eq_true c42
           clear c42
           by_cases c43 : 0 ≤ x12_2
           ·rw [if_pos c43] at H
            have c43b0 : decide (0 ≤ x12_2) = true := decide_eq_true c43
            clear c43
            by_cases c44 : x12_2 < (x6_1.length : Int)
            ·rw [if_pos c44] at H
             have c44b0 : decide (x12_2 < (x6_1.length : Int)) = true := decide_eq_true c44
             clear c44
             replace H := Option.bind_eq_some_iff.mp H
             obtain ⟨t202, A450, H⟩ := H
             replace H : (carcanetref03_Normal.l2 k2 a0 x6_1 x12_2 t202 0 a0 x201001_2) = some (r1, r2, r3) := H
             have A45 := Aside0.mk A450
             clear A450
             have H' := Aside0.mk H
             clear H
             obtain ⟨Ao46, co46, eo46⟩ := Kd.S_slice HO_6.out
             subst eo46
             have p201 : 0 ≤ (x12_2 : Int) := of_decide_eq_true (by first | (with_reducible assumption) | assumption)
             have q201 : x12_2 < (x6_1.length : Int) := of_decide_eq_true (by first | (with_reducible assumption) | assumption)
             obtain ⟨ad201, A201_0, c201_0, e201, hx201_0, hl201_0, hi201_0⟩ := at_L11 (Kd.S_reads' HO_6.out).2.2 x12_2 p201 q201
             cases e201
             obtain ⟨ce201, hce201, hMe201, hcc201⟩ := Kd.S_get HO_6.out [] x12_2 p201 (by first | exact q201 | exact of_decide_eq_true (by first | (with_reducible assumption) | assumption) | (have e_ := (Kd.S_reads' HO_6.out).1; omega))
             obtain ⟨ve201_0, rfl, ge201_0⟩ := hMe201
             have hv201_0 := hcc201 0 _ rfl
             rw [Nat.add_zero, show ((Kd.slice 3 (Kd.int .i64))).sz = 1 from rfl, Nat.mul_one] at hv201_0
             replace hv201_0 := Option.some.inj (hv201_0.symm.trans hx201_0)
             rw [hv201_0] at ge201_0
             have HL201_0 := Aside0.mk (show Kd.R (Kd.int .i64) 3 _ _ _ _ (rd_L11 x6_1 x12_2) from ge201_0)
             clear hv201_0 ge201_0
             have HX201_0 := Aside0.mk hx201_0
             clear hcc201 hce201
             have HR201_0 := Aside0.mk hi201_0
             have HC201_0 := Aside0.mk hl201_0
             clear hi201_0 hl201_0
             replace p201 := eq_true p201
             replace q201 := eq_true q201
             go_wp2_with (first | ((with_reducible refine gate_callee (f := 57) rfl ?_); refine goesL_ (some 96) rfl rfl Tryz.func57 (by kernel_rfl) rfl #[.slice A201_0 (rd_L11 x6_1 x12_2).length c201_0] rfl (by (try simp only [List.map_toArray, List.map_cons, List.map_nil]); first | done | rfl | (simp only [List.length_drop, List.length_take]; rfl)) ?_; (with_reducible refine (carcanetref03_Sorted.calls _ _ (rd_L11 x6_1 x12_2) t202 _ ?side1 ?side2 A45.out).mono ?_); (case side1 => repeat (first | exact (by repeat (first | (with_reducible exact HR201_0.out) | (with_reducible refine Kd.C_alloc ?_ _) | (with_reducible refine Kd.C_drewN ?_ _) | (with_reducible refine Kd.C_drew ?_) | exact HR201_0.out)) | (with_reducible refine Kd.C_alloc ?_ _) | (with_reducible refine Kd.C_drewN ?_ _) | (with_reducible refine Kd.C_drew ?_))); (case side2 => exact HC201_0.out); rintro e w47 ⟨v203, rfl, ho0, hb⟩; refine ⟨_, rfl, ?_⟩; have n0_ := Aside0.mk (Kd.S_elder' (by (with_reducible repeat (first | apply Kd.S_alloc | apply Kd.S_drewN | apply Kd.S_drew)); exact HO_6.out) (Kd.R_base ho0) hb); have n1_ := Aside0.mk (Kd.R_below (by (with_reducible repeat (first | apply Kd.R_alloc | apply Kd.R_drewN | apply Kd.R_drew)); exact HO_201001.out) hb); have n2_ := Aside0.mk (Kd.R_elder' (by (with_reducible repeat (first | apply Kd.R_alloc | apply Kd.R_drewN | apply Kd.R_drew)); exact HL201_0.out) (Kd.R_base ho0) hb); have n3_ := Aside0.mk (Kd.R_lower (Kd.R_new' ho0 (Kd.R_lt (by (with_reducible repeat (first | apply Kd.R_alloc | apply Kd.R_drewN | apply Kd.R_drew)); exact HL201_0.out))) (below_size (by repeat (first | (with_reducible first | exact HB.out | apply below_alloc | apply pw_below_drewN | apply below_drew1 | refine below_set ?_ GE187.out | refine below_set ?_ GE200.out) | exact HB.out)))); have n4_ := Aside0.mk (blk_below (g := gb187) (o := .cells #[.int .i64 x188000_1, .slice none 0 0] 34 (0, 0)) (by (with_reducible repeat (first | refine blk_drewN ?_ _ | refine blk_drew ?_ | refine blk_alloc ?_ _)); exact BK187.out) hb); have n5_ := Aside0.mk (blk_below (g := gb200) (o := .cells #[.int .i64 a0, u201001] 34 (0, 0)) (by (with_reducible repeat (first | refine blk_drewN ?_ _ | refine blk_drew ?_ | refine blk_alloc ?_ _)); exact BK200.out) hb); have n6_ := Aside0.mk (Kd.C_below (by repeat (first | (with_reducible exact HR201_0.out) | (with_reducible refine Kd.C_alloc ?_ _) | (with_reducible refine Kd.C_drewN ?_ _) | (with_reducible refine Kd.C_drew ?_) | exact HR201_0.out)) hb); have n7_ := Aside0.mk (pw_cell_below hb HX201_0.out); have n8_ := Aside0.mk (below_step (by repeat (first | (with_reducible first | exact HB.out | apply below_alloc | apply pw_below_drewN | apply below_drew1 | refine below_set ?_ GE187.out | refine below_set ?_ GE200.out) | exact HB.out)) hb); clear HO_6; clear HO_201001; clear HL201_0; clear BK187; clear BK200; clear HR201_0; clear HX201_0; clear HB; have HO_6 := n0_; have HO_201001 := n1_; have HL201_0 := n2_; have HO204 := n3_; have BK187 := n4_; have BK200 := n5_; have HR201_0 := n6_; have HX201_0 := n7_; have HB := n8_; clear n0_ n1_ n2_ n3_ n4_ n5_ n6_ n7_ n8_; (try clear hb); (try clear hb2); (try clear hk); (try clear hi); (try clear ho0)))
             go_loopg [14] k2 (fun kq v14 w' => ∃ (x14_3 : Int) (x201001_3 : List (S64)) (u201001 : Value), v14 = .int .i64 x14_3 ∧ Aside0 (carcanetref03_Normal.l2 kq a0 x6_1 x12_2 t202 x14_3 a0 x201001_3 = some (r1, r2, r3)) ∧ Aside0 (kq ≤ k2) ∧ Aside0 (Kd.S (Kd.slice 3 (Kd.int .i64)) 102 w' w.heap.size (fun k_ => some k_ ≠ (v203 : Value).ownBlock) (.slice (some ad201) x6_1.length co46) x6_1) ∧ Aside0 (Kd.R (Kd.int .i64) 3 w' w.heap.size (fun _ => True) v203 t202) ∧ Aside0 (Kd.R k64 64 w' w.heap.size (fun _ => True) u201001 x201001_3) ∧ Aside0 (w'.heap[gb187]? = some (.cells #[.int .i64 x188000_1, (.slice none 0 0)] 34 (0, 0))) ∧ Aside0 (w'.heap[gb200]? = some (.cells #[.int .i64 a0, u201001] 34 (0, 0))) ∧ Aside0 (Below w.heap.size w w'))
             case atStart => exact ⟨(0), (x201001_2), (u201001), (by first | rfl | (simp; done) | (simp [*]; done)), H', ⟨Nat.le_refl _⟩, ⟨by (with_reducible repeat (first | apply Kd.S_alloc | apply Kd.S_drewN | apply Kd.S_drew)); exact Kd.S_mono HO_6.out (fun _ hk => hk.2)⟩, ⟨by (with_reducible repeat (first | apply Kd.R_alloc | apply Kd.R_drewN | apply Kd.R_drew)); exact Kd.R_mono HO204.out (fun _ hk => trivial)⟩, ⟨by (with_reducible repeat (first | apply Kd.R_alloc | apply Kd.R_drewN | apply Kd.R_drew)); exact HO_201001.out⟩, ⟨by (with_reducible repeat (first | refine blk_drewN ?_ _ | refine blk_drew ?_ | refine blk_alloc ?_ _)); exact BK187.out⟩, ⟨by (with_reducible repeat (first | refine blk_drewN ?_ _ | refine blk_drew ?_ | refine blk_alloc ?_ _)); exact BK200.out⟩, ⟨by repeat (first | (with_reducible first | exact HB.out | apply below_alloc | apply pw_below_drewN | apply below_drew1 | refine below_set ?_ GE187.out | refine below_set ?_ GE200.out) | exact HB.out)⟩⟩
             case round =>
              clear H'
              try clear c1
              try clear p1
              try clear q1
              try clear hx1
              try clear c2
              try clear p2
              try clear q2
              try clear hx2
              try clear c3
              try clear c3b0
              try clear p3
              try clear q3
              try clear hx3
              try clear hf3
              try clear c4
              try clear c5
              try clear c6
              try clear c6b0
              try clear p6
              try clear c9
              try clear c9b0
              try clear c9b1
              try clear c10
              try clear c10b0
              try clear c10b1
              try clear c14
              try clear c14b0
              try clear c15
              try clear c15b0
              try clear c17
              try clear c17b0
              try clear c18
              try clear c18b0
              try clear c19
              try clear c19b0
              try clear p19
              try clear q19
              try clear hx19
              try clear c20
              try clear p20
              try clear q20
              try clear hx20
              try clear c23
              try clear c23b0
              try clear c23b1
              try clear c24
              try clear c24b0
              try clear c25
              try clear c25b0
              try clear c28
              try clear c30
              try clear c30b0
              try clear c31
              try clear p32
              try clear q32
              try clear c34
              try clear c36
              try clear hx36
              try clear hf36
              try clear c40
              try clear c42
              try clear c42b0
              try clear c43
              try clear c43b0
              try clear c44
              try clear c44b0
              try clear hcz21_0
              try clear hcz21_1
              try clear hcz41_0
              try clear hcz41_1
              try clear hcz5_0
              try clear hcz5_1
              try clear hcz8_0
              try clear hcz8_1
              try clear hfz21_0
              try clear hfz21_1
              try clear hfz41_0
              try clear hfz41_1
              try clear hfz5_0
              try clear hfz5_1
              try clear hfz8_0
              try clear hfz8_1
              try clear hx191_0
              try clear hx191_1
              try clear hx192_0
              try clear hx192_1
              try clear hx193_0
              try clear hx195_0
              try clear hx201_0
              try clear hx36_0
              try clear p1
              try clear p19
              try clear p191
              try clear p192
              try clear p193
              try clear p195
              try clear p2
              try clear p201
              try clear p3
              try clear p32
              try clear p6
              try clear q1
              try clear q19
              try clear q191
              try clear q192
              try clear q193
              try clear q195
              try clear q201
              try clear q3
              try clear q32
              obtain ⟨x14_3, x201001_3, u201001, rfl, HA, HK3, HO_6, HO_13, HO_201001, BK187, BK200, HB⟩ := hrel
              cases gk with
              | zero => exact absurd HA.out (by simp [carcanetref03_Normal.l2])
              | succ k3 =>
               have H := HA.out
               clear HA
               simp only [carcanetref03_Normal.l2] at H
               by_cases c48 : x14_3 < (t202.length : Int)
               ·rw [if_pos c48] at H
                have c48b0 : decide (x14_3 < (t202.length : Int)) = true := decide_eq_true c48
                clear c48
                by_cases c49 : 0 ≤ x14_3
                ·rw [if_pos c49] at H
                 have c49b0 : decide (0 ≤ x14_3) = true := decide_eq_true c49
                 clear c49
                 by_cases c50 : x201001_3.length < 8796093022208
                 ·rw [if_pos c50] at H
                  have LMc50 := Aside0.mk c50
                  clear c50
                  obtain ⟨y206, hy206⟩ : ∃ y_ : List (S64), y_ = (x201001_3 ++ [(⟨x12_2, rd t202 x14_3⟩ : S64)]) := ⟨_, rfl⟩
                  replace H : (carcanetref03_Normal.l2 k3 a0 x6_1 x12_2 t202 (wrap64 (x14_3 + 1)) a0 y206) = some (r1, r2, r3) := by first | (rw [hy206]; with_reducible exact H) | (have H2_ := (Option.bind_some _ _).symm.trans H; rw [hy206]; with_reducible exact H2_) | (have H2_ := (Option.bind_some _ _).symm.trans H; with_reducible exact H2_) | with_reducible exact H | (rw [hy206]; exact H) | exact H
                  have Ny206 := Aside0.mk hy206
                  clear hy206
                  have H' := Aside0.mk H
                  clear H
                  obtain ⟨Ao51, co51, eo51⟩ := Kd.R_slice HO_13.out
                  subst eo51
                  try go_wp2
                  have n0_ := Aside0.mk (Kd.S_drew HO_6.out)
                  have n1_ := Aside0.mk (Kd.R_drew HO_13.out)
                  have n2_ := Aside0.mk (Kd.R_drew HO_201001.out)
                  have n3_ := Aside0.mk (blk_drew BK187.out)
                  have n4_ := Aside0.mk (blk_drew BK200.out)
                  have n5_ := Aside0.mk (below_drew1 HB.out)
                  clear HO_6
                  clear HO_13
                  clear HO_201001
                  clear BK187
                  clear BK200
                  clear HB
                  have HO_6 := n0_
                  have HO_13 := n1_
                  have HO_201001 := n2_
                  have BK187 := n3_
                  have BK200 := n4_
                  have HB := n5_
                  clear n0_ n1_ n2_ n3_ n4_ n5_
                  have p205 : 0 ≤ (x14_3 : Int) := of_decide_eq_true (by first | (with_reducible assumption) | assumption)
                  have q205 : x14_3 < (t202.length : Int) := of_decide_eq_true (by first | (with_reducible assumption) | assumption)
                  obtain ⟨ad205, e205, hx205_0⟩ := Kd.at_int (Kd.R_reads' HO_13.out).2.2 x14_3 p205 q205
                  cases e205
                  replace p205 := eq_true p205
                  replace q205 := eq_true q205
                  refine start_ (n := 12) (S := fun w' => w'.cell? ⟨gb200, 0, none⟩ = some (.int .i64 a0) ∧ w'.cell? ⟨gb200, 1, none⟩ = some (u201001) ∧ w'.cell? (ad205.add (x14_3).toNat) = some (.int .i64 (rd t202 x14_3))) (ds := [9, 11]) #[false, false, false, false, false, false, false, false, false, false, false, false] (by kernel_rfl) rfl rfl ⟨(blk_cell BK200.out 0).trans rfl, (blk_cell BK200.out 1).trans rfl, hx205_0⟩ (fun hHeld => ?_); refine with_tabW carcanetref03_Normal.tab24 carcanetref03_Normal.bits24 (fun HT_ HW_ => ?_)
                  generalize wr.drew = w52 at HO_6 HO_13 HO_201001 BK187 BK200 HB hx205_0 hHeld ⊢
                  refine pure_ (i := 0) (N := some 103) (v := ?_) (a' := ?_) #[true, false, false, false, false, false, false, false, false, false, false, false] rfl rfl (any_of HT_.out (by kernel_rfl)) (fun _ _ _ h => h) (Or.inl ⟨by rfl, ?_⟩) ?_ ?_
                  rotate_left
                  ·intro w'
                   go_simp
                   with_reducible rfl
                  rotate_left
                  ·simp only [Act.put, List.setIfInBounds_toArray, List.set_cons_zero, List.set_cons_succ, i64_w, i32_w]
                   rfl
                  refine pure_ (i := 2) (N := some 105) (v := ?_) (a' := ?_) #[true, false, true, false, false, false, false, false, false, false, false, false] rfl rfl (any_of HT_.out (by kernel_rfl)) (fun _ _ _ h => h) (Or.inl ⟨by rfl, ?_⟩) ?_ ?_
                  rotate_left
                  ·intro w'
                   go_simp
                   with_reducible rfl
                  rotate_left
                  ·simp only [Act.put, List.setIfInBounds_toArray, List.set_cons_zero, List.set_cons_succ, i64_w, i32_w]
                   rfl
                  refine pure_ (i := 3) (N := some 106) (v := ?_) (a' := ?_) #[true, false, true, true, false, false, false, false, false, false, false, false] rfl rfl (any_of HT_.out (by kernel_rfl)) (fun _ _ _ h => h) (Or.inl ⟨by rfl, ?_⟩) ?_ ?_
                  rotate_left
                  ·intro w'
                   go_simp
                   with_reducible rfl
                  rotate_left
                  ·simp only [Act.put, List.setIfInBounds_toArray, List.set_cons_zero, List.set_cons_succ, i64_w, i32_w]
                   rfl
                  refine pure_ (i := 4) (N := some 107) (v := ?_) (a' := ?_) #[true, false, true, true, true, false, false, false, false, false, false, false] rfl rfl (any_of HT_.out (by kernel_rfl)) (fun _ _ _ h => h) (Or.inl ⟨by rfl, ?_⟩) ?_ ?_
                  rotate_left
                  ·intro w'
                   go_simp
                   with_reducible rfl
                  rotate_left
                  ·simp only [Act.put, List.setIfInBounds_toArray, List.set_cons_zero, List.set_cons_succ, i64_w, i32_w]
                   rfl
                  refine pure_ (i := 5) (N := some 108) (v := ?_) (a' := ?_) #[true, false, true, true, true, true, false, false, false, false, false, false] rfl rfl (any_of HT_.out (by kernel_rfl)) (fun _ _ _ h => h) (Or.inl ⟨by rfl, ?_⟩) ?_ ?_
                  rotate_left
                  ·intro w'
                   go_simp
                   with_reducible rfl
                  rotate_left
                  ·simp only [Act.put, List.setIfInBounds_toArray, List.set_cons_zero, List.set_cons_succ, i64_w, i32_w]
                   rfl
                  refine take_ (i := 1) (N := some 104) (v := ?_) (a' := ?_) #[true, true, true, true, true, true, false, false, false, false, false, false] rfl rfl (take_ofW HT_.out HW_.out (by kernel_rfl)) (fun _ _ _ h => h) (Or.inl ⟨by rfl, ?_⟩) hHeld ?_ ?_
                  rotate_left
                  ·rintro w' ⟨s0, s1, s2⟩
                   go_simp
                   with_reducible rfl
                  rotate_left
                  ·simp only [Act.put, List.setIfInBounds_toArray, List.set_cons_zero, List.set_cons_succ, i64_w, i32_w]
                   rfl
                  refine take_ (i := 6) (N := some 109) (v := ?_) (a' := ?_) #[true, true, true, true, true, true, true, false, false, false, false, false] rfl rfl (take_ofW HT_.out HW_.out (by kernel_rfl)) (fun _ _ _ h => h) (Or.inl ⟨by rfl, ?_⟩) hHeld ?_ ?_
                  rotate_left
                  ·rintro w' ⟨s0, s1, s2⟩
                   go_simp
                   with_reducible rfl
                  rotate_left
                  ·simp only [Act.put, List.setIfInBounds_toArray, List.set_cons_zero, List.set_cons_succ, i64_w, i32_w]
                   rfl
                  refine pure_ (i := 7) (N := some 110) (v := ?_) (a' := ?_) #[true, true, true, true, true, true, true, true, false, false, false, false] rfl rfl (any_of HT_.out (by kernel_rfl)) (fun _ _ _ h => h) (Or.inl ⟨by rfl, ?_⟩) ?_ ?_
                  rotate_left
                  ·intro w'
                   go_simp
                   with_reducible rfl
                  rotate_left
                  ·simp only [Act.put, List.setIfInBounds_toArray, List.set_cons_zero, List.set_cons_succ, i64_w, i32_w]
                   rfl
                  refine one_ (i := 8) (N := some 111) #[true, true, true, true, true, true, true, true, true, false, false, false] rfl rfl (one_of HT_.out (by kernel_rfl)) (by decide) (fun K hK => ?_)
                  refine value_ (w1 := ?_) (v := ?_) (by rfl) rfl ?_ ?_
                  rotate_left 2
                  ·go_simp
                   constructor
                   ·rfl
                   ·rfl
                  refine hK.out _ _ ⟨(blk_cell (blk_alloc BK200.out _) 0).trans rfl, (blk_cell (blk_alloc BK200.out _) 1).trans rfl, (World.cell?_alloc_lt _ _ _ (World.block_lt_of_cell? _ _ (hHeld.2.2))).trans (hHeld.2.2)⟩ (fun hHeld => ?_)
                  clear hK K
                  refine norm_ (a' := ?_) ?_ ?_
                  rotate_left
                  ·show Act.put _ (some 111) _ = _
                   simp only [Act.put, List.setIfInBounds_toArray, List.set_cons_zero, List.set_cons_succ, i64_w, i32_w]
                   rfl
                  refine last_ (i := 9) (N := some 112) #[true, true, true, true, true, true, true, true, true, true, false, false] rfl rfl (one_of HT_.out (by kernel_rfl)) (by decide) (fun K hK => ?_)
                  refine Kd.R_append_step k64 (w0 := w) w.heap.size (by rfl) (.tmp 104) (.tmp 111) 32 64 (.agg #[(.int .i64 0), (.int .i64 0)]) 16 rfl Tryz.underlying32 info64 rfl (by decide) (by omega) u201001 x201001_3 (⟨x12_2, rd t202 x14_3⟩ : S64) [.int .i64 x12_2, .int .i64 (rd t202 x14_3)] (fun _ => True) (fun _ => False) rfl rfl ?aP (fun _ hk => hk.elim) ?aF ?aO ?aB ?aS ?aL ?_
                  (case aP => exact k64_mkM _ _ _ (⟨x12_2, rd t202 x14_3⟩ : S64))
                  (case aB => exact (by repeat (first | (with_reducible first | exact HB.out | apply below_alloc | apply pw_below_drewN | apply below_drew1 | refine below_set ?_ GE187.out | refine below_set ?_ GE200.out) | exact HB.out)))
                  (case aF => exact (fun _ _ => trivial))
                  (case aO => exact (by (with_reducible repeat (first | apply Kd.R_alloc | apply Kd.R_drewN | apply Kd.R_drew)); exact HO_201001.out))
                  (case aS => exact (below_size (by repeat (first | (with_reducible first | exact HB.out | apply below_alloc | apply pw_below_drewN | apply below_drew1 | refine below_set ?_ GE187.out | refine below_set ?_ GE200.out) | exact HB.out))))
                  (case aL => have := LMc50.out; omega)
                  intro v207 w53 ho hb hg hat
                  rw [← Ny206.out] at ho
                  have n0_ := Aside0.mk (Kd.S_over' (by (with_reducible repeat (first | apply Kd.S_alloc | apply Kd.S_drewN | apply Kd.S_drew)); exact HO_6.out) (Kd.R_typed (by (with_reducible repeat (first | apply Kd.R_alloc | apply Kd.R_drewN | apply Kd.R_drew)); exact HO_201001.out)) (by decide) hg)
                  have n1_ := Aside0.mk (Kd.R_over' (by (with_reducible repeat (first | apply Kd.R_alloc | apply Kd.R_drewN | apply Kd.R_drew)); exact HO_13.out) (Kd.R_typed (by (with_reducible repeat (first | apply Kd.R_alloc | apply Kd.R_drewN | apply Kd.R_drew)); exact HO_201001.out)) (by decide) hg)
                  have n2_ := Aside0.mk (blk_grown (g := gb187) (o := .cells #[.int .i64 x188000_1, .slice none 0 0] 34 (0, 0)) (by (with_reducible repeat (first | refine blk_drewN ?_ _ | refine blk_drew ?_ | refine blk_alloc ?_ _)); exact BK187.out) hg (Kd.R_ne HO_201001.out BK187.out (by decide)))
                  have n3_ := Aside0.mk (blk_grown (g := gb200) (o := .cells #[.int .i64 a0, u201001] 34 (0, 0)) (by (with_reducible repeat (first | refine blk_drewN ?_ _ | refine blk_drew ?_ | refine blk_alloc ?_ _)); exact BK200.out) hg (Kd.R_ne HO_201001.out BK200.out (by decide)))
                  have n4_ := Aside0.mk (hb)
                  have n5_ := Aside0.mk (ho)
                  clear HO_6
                  clear HO_13
                  clear BK187
                  clear BK200
                  clear HB
                  clear HO_201001
                  have HO_6 := n0_
                  have HO_13 := n1_
                  have BK187 := n2_
                  have BK200 := n3_
                  have HB := n4_
                  have HO208 := n5_
                  clear n0_ n1_ n2_ n3_ n4_ n5_
                  clear ho hb hg hat
                  obtain ⟨Ao54, co54, eo54⟩ := Kd.R_slice HO208.out
                  (first | subst eo54 | (injection eo54 with f1_ f2_ f3_; have f4_ := f1_.symm; have f5_ := f3_.symm; clear f1_ f2_ f3_; subst f4_; subst f5_))
                  refine hK.out _ _ ?_
                  clear hK K
                  refine norm_ (a' := ?_) ?_ ?_
                  rotate_left
                  ·show Act.put _ (some 112) _ = _
                   simp only [Act.put, List.setIfInBounds_toArray, List.set_cons_zero, List.set_cons_succ, i64_w, i32_w]
                   rfl
                  refine pure_ (i := 10) (N := some 113) (v := ?_) (a' := ?_) #[true, true, true, true, true, true, true, true, true, true, true, false] rfl rfl (any_of HT_.out (by kernel_rfl)) (fun _ _ _ h => h) (Or.inl ⟨by rfl, ?_⟩) ?_ ?_
                  rotate_left
                  ·intro w'
                   go_simp
                   with_reducible rfl
                  rotate_left
                  ·simp only [Act.put, List.setIfInBounds_toArray, List.set_cons_zero, List.set_cons_succ, i64_w, i32_w]
                   rfl
                  refine last_ (i := 11) (N := none) #[true, true, true, true, true, true, true, true, true, true, true, true] rfl rfl (one_of HT_.out (by kernel_rfl)) (by decide) (fun K hK => ?_)
                  have hs55 : w53.cell? ⟨gb200, 1, none⟩ = some (u201001) := (blk_cell BK200.out 1).trans rfl
                  have hfs55 := blk_frozen BK200.out 1
                  have hns55_0 := NB187_200.out
                  have hms55_0 := NB200_187.out
                  refine skip_ (w1 := ?_) (by rfl) rfl ?_ ?_
                  rotate_left
                  ·go_simp
                   rfl
                  refine hK.out _ _ ?_
                  clear hK K
                  refine done_ (done_of HT_.out (by kernel_rfl)) ?_
                  try go_wp2
                  go_roundg k3
                  case measure => have := HK1.out; have := HK2.out; have := HK3.out; omega
                  case rel => exact ⟨(wrap64 (x14_3 + 1)), (y206), (.slice Ao54 y206.length co54), (by first | rfl | (simp; done) | (simp [*]; done)), H', ⟨by have := HK1.out; have := HK2.out; have := HK3.out; omega⟩, ⟨by (with_reducible repeat (first | apply Kd.S_alloc | apply Kd.S_drewN | apply Kd.S_drew)); exact Kd.S_mono (Kd.S_far (p := ⟨gb200, 1, none⟩) (Kd.S_types HO_6.out BK200.out (by decide)) (fun _ hk => hk.2) (.slice Ao54 y206.length co54)) (fun _ hk => hk.1)⟩, ⟨by (with_reducible repeat (first | apply Kd.R_alloc | apply Kd.R_drewN | apply Kd.R_drew)); exact Kd.R_mono (Kd.R_far (p := ⟨gb200, 1, none⟩) (Kd.R_types HO_13.out BK200.out (by decide)) (fun _ hk => hk.2) (.slice Ao54 y206.length co54)) (fun _ hk => trivial)⟩, ⟨by (with_reducible repeat (first | apply Kd.R_alloc | apply Kd.R_drewN | apply Kd.R_drew)); exact Kd.R_mono (Kd.R_far (p := ⟨gb200, 1, none⟩) (Kd.R_types HO208.out BK200.out (by decide)) (fun _ hk => hk.2) (.slice Ao54 y206.length co54)) (fun _ hk => trivial)⟩, ⟨by (with_reducible repeat (first | refine blk_drewN ?_ _ | refine blk_drew ?_ | refine blk_alloc ?_ _)); refine blk_far ?_ NB187_200.out _; (with_reducible repeat (first | refine blk_drewN ?_ _ | refine blk_drew ?_ | refine blk_alloc ?_ _)); exact BK187.out⟩, ⟨by (with_reducible repeat (first | refine blk_drewN ?_ _ | refine blk_drew ?_ | refine blk_alloc ?_ _)); refine blk_put (cs := #[.int .i64 a0, u201001]) ?_ 1 _ rfl; (with_reducible repeat (first | refine blk_drewN ?_ _ | refine blk_drew ?_ | refine blk_alloc ?_ _)); exact BK200.out⟩, ⟨by repeat (first | (with_reducible first | exact HB.out | apply below_alloc | apply pw_below_drewN | apply below_drew1 | refine below_set ?_ GE187.out | refine below_set ?_ GE200.out) | exact HB.out)⟩⟩
                 ·rw [if_neg c50] at H
                  exact absurd H (by simp)
                ·rw [if_neg c49] at H
                 exact absurd H (by simp)
               ·rw [if_neg c48] at H
                have c48b0 : decide (x14_3 < (t202.length : Int)) = false := decide_eq_false c48
                clear c48
                have H' := Aside0.mk H
                clear H
                obtain ⟨Ao56, co56, eo56⟩ := Kd.R_slice HO_13.out
                subst eo56
                go_wp2
                go_roundg k3
                case measure => have := HK1.out; have := HK2.out; have := HK3.out; omega
                case rel => exact ⟨(wrap64 (x12_2 + 1)), (x201001_3), (u201001), (by first | rfl | (simp; done) | (simp [*]; done)), H', ⟨by have := HK1.out; have := HK2.out; have := HK3.out; omega⟩, ⟨by (with_reducible repeat (first | apply Kd.S_alloc | apply Kd.S_drewN | apply Kd.S_drew)); exact Kd.S_mono HO_6.out (fun _ hk => trivial)⟩, ⟨by (with_reducible repeat (first | apply Kd.R_alloc | apply Kd.R_drewN | apply Kd.R_drew)); exact HO_201001.out⟩, ⟨by (with_reducible repeat (first | refine blk_drewN ?_ _ | refine blk_drew ?_ | refine blk_alloc ?_ _)); exact BK187.out⟩, ⟨by (with_reducible repeat (first | refine blk_drewN ?_ _ | refine blk_drew ?_ | refine blk_alloc ?_ _)); exact BK200.out⟩, ⟨by repeat (first | (with_reducible first | exact HB.out | apply below_alloc | apply pw_below_drewN | apply below_drew1 | refine below_set ?_ GE187.out | refine below_set ?_ GE200.out) | exact HB.out)⟩⟩
            ·rw [if_neg c44] at H
             exact absurd H (by simp)
           ·rw [if_neg c43] at H
            exact absurd H (by simp)
          ·rw [if_neg c42] at H
           have c42b0 : decide (x12_2 < a0) = false := decide_eq_false c42
           clear c42
           by_cases c57 : (x201001_2.length : Int) > 4000
           ·rw [if_pos c57] at H
            have c57b0 : decide (4000 < (x201001_2.length : Int)) = true := decide_eq_true c57
            have c57b1 : decide (4000 < x201001_2.length) = true := decide_eq_true (by omega)
            clear c57
            simp only [Option.some.injEq, Prod.mk.injEq] at H
            obtain ⟨rfl, rfl, rfl⟩ := H
            have hnb58 := NB200_187.out
            have hnc58 := NB187_200.out
            have hcz59_0 : wr.cell? ⟨gb200, 0, none⟩ = some (.int .i64 a0) := (blk_cell BK200.out 0).trans rfl
            have hcz59_1 : wr.cell? ⟨gb200, 1, none⟩ = some (u201001) := (blk_cell BK200.out 1).trans rfl
            have hfz59_0 := blk_frozen BK200.out 0
            have hfz59_1 := blk_frozen BK200.out 1
            obtain ⟨Ao60, co60, eo60⟩ := Kd.R_slice HO_201001.out
            subst eo60
            have hcz61_0 : wr.cell? ⟨gb187, 0, none⟩ = some (.int .i64 x188000_1) := (blk_cell BK187.out 0).trans rfl
            have hcz61_1 : wr.cell? ⟨gb187, 1, none⟩ = some (.slice none 0 0) := (blk_cell BK187.out 1).trans rfl
            have hfz61_0 := blk_frozen BK187.out 0
            have hfz61_1 := blk_frozen BK187.out 1
            go_wp2
            refine bodyPost_ret (results_ct rfl _ _ gb187 34 #[.int .i64 0, .slice none 0 0] (0, 0) _ rfl (by (with_reducible repeat (first | refine blk_drewN ?_ _ | refine blk_drew ?_ | refine blk_alloc ?_ _)); refine blk_put (cs := #[.int .i64 0, .slice none 0 0]) ?_ 1 _ rfl; (with_reducible repeat (first | refine blk_drewN ?_ _ | refine blk_drew ?_ | refine blk_alloc ?_ _)); refine blk_put (cs := #[.int .i64 x188000_1, .slice none 0 0]) ?_ 0 _ rfl; (with_reducible repeat (first | refine blk_drewN ?_ _ | refine blk_drew ?_ | refine blk_alloc ?_ _)); exact BK187.out) Tryz.underlying34 rfl (by kernel_rfl)) rfl ?_
            exact ⟨_, by first | rfl | (simp [errW_none, errW_some] <;> rfl) | (simp [*, errW_none, errW_some] <;> rfl), by first | exact Kd.R_nil _ _ _ _ _ | exact Kd.N_nil _ _ _ _ _ | exact Kd.V_nil _ _ _ _ _ | exact Kd.Q_nil _ _ _ _ _ | exact Kd.S_nil _ _ _ _ _, by repeat (first | (with_reducible first | exact HB.out | apply below_alloc | apply pw_below_drewN | apply below_drew1 | refine below_set ?_ GE187.out | refine below_set ?_ GE200.out) | exact HB.out)⟩
           ·rw [if_neg c57] at H
            have c57b0 : decide (4000 < (x201001_2.length : Int)) = false := decide_eq_false c57
            have c57b1 : decide (4000 < x201001_2.length) = false := decide_eq_false (by omega)
            clear c57
            simp only [Option.some.injEq, Prod.mk.injEq] at H
            obtain ⟨rfl, rfl, rfl⟩ := H
            have hnb62 := NB200_187.out
            have hnc62 := NB187_200.out
            have hcz63_0 : wr.cell? ⟨gb200, 0, none⟩ = some (.int .i64 a0) := (blk_cell BK200.out 0).trans rfl
            have hcz63_1 : wr.cell? ⟨gb200, 1, none⟩ = some (u201001) := (blk_cell BK200.out 1).trans rfl
            have hfz63_0 := blk_frozen BK200.out 0
            have hfz63_1 := blk_frozen BK200.out 1
            obtain ⟨Ao64, co64, eo64⟩ := Kd.R_slice HO_201001.out
            subst eo64
            have hcz65_0 : wr.cell? ⟨gb187, 0, none⟩ = some (.int .i64 x188000_1) := (blk_cell BK187.out 0).trans rfl
            have hcz65_1 : wr.cell? ⟨gb187, 1, none⟩ = some (.slice none 0 0) := (blk_cell BK187.out 1).trans rfl
            have hfz65_0 := blk_frozen BK187.out 0
            have hfz65_1 := blk_frozen BK187.out 1
            go_wp2
            refine bodyPost_ret (results_ct rfl _ _ gb187 34 #[.int .i64 a0, .slice Ao64 x201001_2.length co64] (0, 0) _ rfl (by (with_reducible repeat (first | refine blk_drewN ?_ _ | refine blk_drew ?_ | refine blk_alloc ?_ _)); refine blk_put (cs := #[.int .i64 a0, .slice none 0 0]) ?_ 1 _ rfl; (with_reducible repeat (first | refine blk_drewN ?_ _ | refine blk_drew ?_ | refine blk_alloc ?_ _)); refine blk_put (cs := #[.int .i64 x188000_1, .slice none 0 0]) ?_ 0 _ rfl; (with_reducible repeat (first | refine blk_drewN ?_ _ | refine blk_drew ?_ | refine blk_alloc ?_ _)); exact BK187.out) Tryz.underlying34 rfl (by kernel_rfl)) rfl ?_
            exact ⟨_, by first | rfl | (simp [errW_none, errW_some] <;> rfl) | (simp [*, errW_none, errW_some] <;> rfl), by (with_reducible repeat (first | apply Kd.R_alloc | apply Kd.R_drewN | apply Kd.R_drew)); exact Kd.R_mono (Kd.R_far (p := ⟨gb187, 1, none⟩) (Kd.R_far (p := ⟨gb187, 0, none⟩) (Kd.R_types HO_201001.out BK187.out (by decide)) (fun _ hk => hk.2) (.int .i64 a0)) (fun _ hk => hk.2) (.slice Ao64 x201001_2.length co64)) (fun _ hk => trivial), by repeat (first | (with_reducible first | exact HB.out | apply below_alloc | apply pw_below_drewN | apply below_drew1 | refine below_set ?_ GE187.out | refine below_set ?_ GE200.out) | exact HB.out)⟩
    ·rw [if_neg c10] at H
     exact absurd H (by simp)
   ·rw [if_neg c9] at H
    exact absurd H (by simp)

end Go.Proofs.YtmdmdbiinngneaaGreatDoor.Q
