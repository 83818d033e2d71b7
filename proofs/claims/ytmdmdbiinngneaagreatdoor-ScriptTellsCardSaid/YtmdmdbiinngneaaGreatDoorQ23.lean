-- Laid by prx.py (ours), out of the translation's print. Not trusted: Lean checks it.
import Derived.Test.YtmdmdbiinngneaaGreatDoorQ0
import Derived.Test.YtmdmdbiinngneaaGreatDoorQ6
import Derived.Test.YtmdmdbiinngneaaGreatDoorQ10
import Derived.Test.YtmdmdbiinngneaaGreatDoorQ12
import Derived.Test.YtmdmdbiinngneaaGreatDoorQ22
namespace Go.Proofs.YtmdmdbiinngneaaGreatDoor.Q
open Go.RowKit Go.Proofs.YtmdmdbiinngneaaGreatDoorW.PrintWords Go.Proofs.YtmdmdbiinngneaaGreatDoorW.PrintLast Go.Proofs.YtmdmdbiinngneaaGreatDoorW.PrintMore
attribute [local go_sem] max2_int min2_int max_two min_two max_three min_three max_four min_four   -- for this text's walks alone
set_option linter.unusedVariables false
set_option linter.unusedSimpArgs false

/-! ### carcanetlaw25_same: function 7 -/
def carcanetlaw25_same.l0 : Nat → List (S36) → List (S50) → Int → Option (Bool)
 | 0, _, _, _ => none
 | k + 1, x0, x1, x5 => if x5 < (x0.length : Int) then (if 0 ≤ x5 then (if x5 < (x1.length : Int) then ((carcanetref25_Same.f k ((rd_T36 x0 x5).f0) ((rd_T36 x0 x5).f1) ((rd_T36 x0 x5).f2.f0) ((rd_T36 x0 x5).f2.f1) ((rd_T36 x0 x5).f3) ((rd_T36 x0 x5).f4) ((rd_T36 x0 x5).f5) ((rd_T50 x1 x5).f0) ((rd_T50 x1 x5).f1) ((rd_T50 x1 x5).f2.f0) ((rd_T50 x1 x5).f2.f1) ((rd_T50 x1 x5).f3) ((rd_T50 x1 x5).f4) ((rd_T50 x1 x5).f5)).bind fun t240 => (if t240 = true then (carcanetlaw25_same.l0 k x0 x1 (wrap64 (x5 + 1))) else (some false))) else (none)) else (none)) else (some true)
def carcanetlaw25_same.f (k : Nat) (l0 : List (S36)) (l1 : List (S50)) : Option (Bool) := if (l0.length : Int) = (l1.length : Int) then (carcanetlaw25_same.l0 k l0 l1 0) else (some false)
theorem carcanetlaw25_same.mono_l : ∀ k, (∀ y0 y1 y2, LeO (carcanetlaw25_same.l0 k y0 y1 y2) (carcanetlaw25_same.l0 (k + 1) y0 y1 y2))
 | 0 => fun _ _ _ r h => by simp [carcanetlaw25_same.l0] at h
 | k + 1 => by
  have ih0 := carcanetlaw25_same.mono_l k
  ·intro y0 y1 y2
   unfold carcanetlaw25_same.l0
   repeat' first
   | (with_reducible exact ih0 _ _ _)
   | (with_reducible exact carcanetref25_Same.mono _ _ _ _ _ _ _ _ _ _ _ _ _ _ _)
   | (with_reducible exact LeO.refl _)
   | (with_reducible exact LeO.none _)
   | (with_reducible refine LeO.ite ?_ ?_)
   | (with_reducible refine LeO.bind ?_ (fun _ => ?_))
   | exact ih0 _ _ _
   | exact carcanetref25_Same.mono _ _ _ _ _ _ _ _ _ _ _ _ _ _ _
   | exact LeO.none _
   | refine LeO.ite ?_ ?_
   | refine LeO.bind ?_ (fun _ => ?_)
theorem carcanetlaw25_same.mono : ∀ a0 a1 k, LeO (carcanetlaw25_same.f k a0 a1) (carcanetlaw25_same.f (k + 1) a0 a1) := by
 intro a0 a1 k
 have ih0 := carcanetlaw25_same.mono_l k
 unfold carcanetlaw25_same.f
 repeat' first
   | (with_reducible exact ih0 _ _ _)
   | (with_reducible exact carcanetref25_Same.mono _ _ _ _ _ _ _ _ _ _ _ _ _ _ _)
   | (with_reducible exact LeO.refl _)
   | (with_reducible exact LeO.none _)
   | (with_reducible refine LeO.ite ?_ ?_)
   | (with_reducible refine LeO.bind ?_ (fun _ => ?_))
   | exact ih0 _ _ _
   | exact carcanetref25_Same.mono _ _ _ _ _ _ _ _ _ _ _ _ _ _ _
   | exact LeO.none _
   | refine LeO.ite ?_ ?_
   | refine LeO.bind ?_ (fun _ => ?_)
def carcanetlaw25_same.T6 : Bool × List (List Nat × List Nat) := (true, [([], []), ([], []), ([0, 1], [0, 1]), ([2], [2]), ([], []), ([], []), ([4, 5], [4, 5]), ([6], [6]), ([3, 7], [3, 7]), ([8], [8])])
def carcanetlaw25_same.B6 : List Nat := [0, 0, 3, 7, 0, 0, 48, 112, 255, 511]
theorem carcanetlaw25_same.tab6 : rtab .any (opsOf Tryz.f7 6) = carcanetlaw25_same.T6 := by kernel_rfl
theorem carcanetlaw25_same.bits6 : waitsOk carcanetlaw25_same.T6.2 carcanetlaw25_same.B6 = true := by kernel_rfl
set_option maxHeartbeats 8000000 in
set_option maxRecDepth 100000 in
theorem carcanetlaw25_same.calls (k : Nat) (A0 : Option Addr) (c0 : Nat) (l0 : List (S36)) (A1 : Option Addr) (c1 : Nat) (l1 : List (S50)) (r : Bool) (w : World) (hr0 : Kd.C k36 w A0 l0.length l0) (hc0 : l0.length ≤ c0) (hr1 : Kd.C k50 w A1 l1.length l1) (hc1 : l1.length ≤ c1) (h : carcanetlaw25_same.f k l0 l1 = some r) :
  Calls Tryz.prog 7 #[.slice A0 l0.length c0, .slice A1 l1.length c1] w fun e w' => e = .returned (.bool r) ∧ Below w.heap.size w w' := by
 have hu36 := Tryz.underlying36
 have hu50 := Tryz.underlying50
 have HR0 := Aside0.mk hr0
 have HC0 := Aside0.mk hc0
 clear hr0 hc0
 have HR1 := Aside0.mk hr1
 have HC1 := Aside0.mk hc1
 clear hr1 hc1
 have HB := Aside0.mk (Below.refl w.heap.size w)
 have H : (if (l0.length : Int) = (l1.length : Int) then (carcanetlaw25_same.l0 k l0 l1 0) else (some false)) = some r := h
 clear h
 by_cases c3 : (l0.length : Int) = (l1.length : Int)
 ·rw [if_pos c3] at H
  have c3b0 : ((l0.length : Int) == (l1.length : Int)) = true := beq_iff_eq.mpr c3
  have c3b1 : ((l0.length : Int) != (l1.length : Int)) = false := bne_eq_false_iff_eq.mpr c3
  have c3b2 : (l0.length == l1.length) = true := by first | simpa using c3 | (simp at c3 ⊢; omega)
  clear c3
  have H' := Aside0.mk H
  clear H
  go_enter Tryz.func7, Tryz.ntmps7
  go_wp2
  go_loopg [5] k (fun kq v5 w' => ∃ (x5_1 : Int), v5 = .int .i64 x5_1 ∧ Aside0 (carcanetlaw25_same.l0 kq l0 l1 x5_1 = some r) ∧ Aside0 (kq ≤ k) ∧ Aside0 (Below w.heap.size w w'))
  case atStart => exact ⟨(0), (by first | rfl | (simp; done) | (simp [*]; done)), H', ⟨Nat.le_refl _⟩, ⟨by repeat (first | (with_reducible first | exact HB.out | apply below_alloc | apply pw_below_drewN | apply below_drew1) | exact HB.out)⟩⟩
  case round =>
   clear H'
   try clear c1
   try clear p2
   try clear c3
   try clear c3b0
   try clear c3b1
   try clear c3b2
   obtain ⟨x5_1, rfl, HA, HK1, HB⟩ := hrel
   cases gk with
   | zero => exact absurd HA.out (by simp [carcanetlaw25_same.l0])
   | succ k1 =>
    have H := HA.out
    clear HA
    simp only [carcanetlaw25_same.l0] at H
    by_cases c4 : x5_1 < (l0.length : Int)
    ·rw [if_pos c4] at H
     have c4b0 : decide (x5_1 < (l0.length : Int)) = true := decide_eq_true c4
     clear c4
     by_cases c5 : 0 ≤ x5_1
     ·rw [if_pos c5] at H
      have c5b0 : decide (0 ≤ x5_1) = true := decide_eq_true c5
      clear c5
      by_cases c6 : x5_1 < (l1.length : Int)
      ·rw [if_pos c6] at H
       have c6b0 : decide (x5_1 < (l1.length : Int)) = true := decide_eq_true c6
       clear c6
       replace H := Option.bind_eq_some_iff.mp H
       obtain ⟨t240, A70, H⟩ := H
       replace H : (if t240 = true then (carcanetlaw25_same.l0 k1 l0 l1 (wrap64 (x5_1 + 1))) else (some false)) = some r := H
       have A7 := Aside0.mk A70
       clear A70
       by_cases c8 : t240 = true
       ·subst c8
        have H1 : (carcanetlaw25_same.l0 k1 l0 l1 (wrap64 (x5_1 + 1))) = some r := by rw [if_pos rfl] at H; exact H
        clear H
        have H := H1
        clear H1
        have H' := Aside0.mk H
        clear H
        try go_wp2
        have n0_ := Aside0.mk (below_drew1 HB.out)
        clear HB
        have HB := n0_
        clear n0_
        have p238 : 0 ≤ (x5_1 : Int) := of_decide_eq_true (by first | (with_reducible assumption) | assumption)
        have q238 : x5_1 < (l0.length : Int) := of_decide_eq_true (by first | (with_reducible assumption) | assumption)
        obtain ⟨ad238, A238_3, c238_3, e238, hx238_0, hx238_1, hx238_2, hx238_3, hx238_4, hx238_5, hx238_6, hl238_3, hi238_3⟩ := at_T36 HR0.out x5_1 p238 q238
        have hw238_6 := hx238_6
        have hw238_5 := hx238_5
        have hw238_4 := hx238_4
        have hw238_3 := hx238_3
        have hw238_2 := hx238_2
        have hw238_1 := hx238_1
        have hw238_0 := hx238_0
        cases e238
        replace hx238_0 := (HB.out.cell (World.block_lt_of_cell? w _ hx238_0)).trans hx238_0
        replace hx238_1 := (HB.out.cell (World.block_lt_of_cell? w _ hx238_1)).trans hx238_1
        replace hx238_2 := (HB.out.cell (World.block_lt_of_cell? w _ hx238_2)).trans hx238_2
        replace hx238_3 := (HB.out.cell (World.block_lt_of_cell? w _ hx238_3)).trans hx238_3
        replace hx238_4 := (HB.out.cell (World.block_lt_of_cell? w _ hx238_4)).trans hx238_4
        replace hx238_5 := (HB.out.cell (World.block_lt_of_cell? w _ hx238_5)).trans hx238_5
        replace hx238_6 := (HB.out.cell (World.block_lt_of_cell? w _ hx238_6)).trans hx238_6
        have HR238_3 := Aside0.mk hi238_3
        have HC238_3 := Aside0.mk hl238_3
        clear hi238_3 hl238_3
        replace p238 := eq_true p238
        replace q238 := eq_true q238
        have p239 : 0 ≤ (x5_1 : Int) := of_decide_eq_true (by first | (with_reducible assumption) | assumption)
        have q239 : x5_1 < (l1.length : Int) := of_decide_eq_true (by first | (with_reducible assumption) | assumption)
        obtain ⟨ad239, A239_3, c239_3, e239, hx239_0, hx239_1, hx239_2, hx239_3, hx239_4, hx239_5, hx239_6, hl239_3, hi239_3⟩ := at_T50 HR1.out x5_1 p239 q239
        have hw239_6 := hx239_6
        have hw239_5 := hx239_5
        have hw239_4 := hx239_4
        have hw239_3 := hx239_3
        have hw239_2 := hx239_2
        have hw239_1 := hx239_1
        have hw239_0 := hx239_0
        cases e239
        replace hx239_0 := (HB.out.cell (World.block_lt_of_cell? w _ hx239_0)).trans hx239_0
        replace hx239_1 := (HB.out.cell (World.block_lt_of_cell? w _ hx239_1)).trans hx239_1
        replace hx239_2 := (HB.out.cell (World.block_lt_of_cell? w _ hx239_2)).trans hx239_2
        replace hx239_3 := (HB.out.cell (World.block_lt_of_cell? w _ hx239_3)).trans hx239_3
        replace hx239_4 := (HB.out.cell (World.block_lt_of_cell? w _ hx239_4)).trans hx239_4
        replace hx239_5 := (HB.out.cell (World.block_lt_of_cell? w _ hx239_5)).trans hx239_5
        replace hx239_6 := (HB.out.cell (World.block_lt_of_cell? w _ hx239_6)).trans hx239_6
        have HR239_3 := Aside0.mk hi239_3
        have HC239_3 := Aside0.mk hl239_3
        clear hi239_3 hl239_3
        replace p239 := eq_true p239
        replace q239 := eq_true q239
        refine start_ (n := 10) (S := fun w' => w'.cell? (ad238.add ((x5_1).toNat * 7)) = some (.int .i64 ((rd_T36 l0 x5_1).f0)) ∧ w'.cell? ⟨(ad238.add ((x5_1).toNat * 7)).block, (ad238.add ((x5_1).toNat * 7)).off + 1, none⟩ = some (.string ((rd_T36 l0 x5_1).f1)) ∧ w'.cell? ⟨(ad238.add ((x5_1).toNat * 7)).block, (ad238.add ((x5_1).toNat * 7)).off + 2, none⟩ = some (.int .i64 ((rd_T36 l0 x5_1).f2.f0)) ∧ w'.cell? ⟨(ad238.add ((x5_1).toNat * 7)).block, (ad238.add ((x5_1).toNat * 7)).off + 3, none⟩ = some (.slice A238_3 ((rd_T36 l0 x5_1).f2.f1).length c238_3) ∧ w'.cell? ⟨(ad238.add ((x5_1).toNat * 7)).block, (ad238.add ((x5_1).toNat * 7)).off + 4, none⟩ = some (.int .i64 ((rd_T36 l0 x5_1).f3)) ∧ w'.cell? ⟨(ad238.add ((x5_1).toNat * 7)).block, (ad238.add ((x5_1).toNat * 7)).off + 5, none⟩ = some (.int .i64 ((rd_T36 l0 x5_1).f4)) ∧ w'.cell? ⟨(ad238.add ((x5_1).toNat * 7)).block, (ad238.add ((x5_1).toNat * 7)).off + 6, none⟩ = some (.int .i64 ((rd_T36 l0 x5_1).f5)) ∧ w'.cell? (ad239.add ((x5_1).toNat * 7)) = some (.int .i64 ((rd_T50 l1 x5_1).f0)) ∧ w'.cell? ⟨(ad239.add ((x5_1).toNat * 7)).block, (ad239.add ((x5_1).toNat * 7)).off + 1, none⟩ = some (.string ((rd_T50 l1 x5_1).f1)) ∧ w'.cell? ⟨(ad239.add ((x5_1).toNat * 7)).block, (ad239.add ((x5_1).toNat * 7)).off + 2, none⟩ = some (.int .i64 ((rd_T50 l1 x5_1).f2.f0)) ∧ w'.cell? ⟨(ad239.add ((x5_1).toNat * 7)).block, (ad239.add ((x5_1).toNat * 7)).off + 3, none⟩ = some (.slice A239_3 ((rd_T50 l1 x5_1).f2.f1).length c239_3) ∧ w'.cell? ⟨(ad239.add ((x5_1).toNat * 7)).block, (ad239.add ((x5_1).toNat * 7)).off + 4, none⟩ = some (.int .i64 ((rd_T50 l1 x5_1).f3)) ∧ w'.cell? ⟨(ad239.add ((x5_1).toNat * 7)).block, (ad239.add ((x5_1).toNat * 7)).off + 5, none⟩ = some (.int .i64 ((rd_T50 l1 x5_1).f4)) ∧ w'.cell? ⟨(ad239.add ((x5_1).toNat * 7)).block, (ad239.add ((x5_1).toNat * 7)).off + 6, none⟩ = some (.int .i64 ((rd_T50 l1 x5_1).f5))) (ds := []) #[false, false, false, false, false, false, false, false, false, false] (by kernel_rfl) rfl rfl ⟨((HB.out.cell (World.block_lt_of_cell? w _ hw238_0)).trans hw238_0), ((HB.out.cell (World.block_lt_of_cell? w _ hw238_1)).trans hw238_1), ((HB.out.cell (World.block_lt_of_cell? w _ hw238_2)).trans hw238_2), ((HB.out.cell (World.block_lt_of_cell? w _ hw238_3)).trans hw238_3), ((HB.out.cell (World.block_lt_of_cell? w _ hw238_4)).trans hw238_4), ((HB.out.cell (World.block_lt_of_cell? w _ hw238_5)).trans hw238_5), ((HB.out.cell (World.block_lt_of_cell? w _ hw238_6)).trans hw238_6), ((HB.out.cell (World.block_lt_of_cell? w _ hw239_0)).trans hw239_0), ((HB.out.cell (World.block_lt_of_cell? w _ hw239_1)).trans hw239_1), ((HB.out.cell (World.block_lt_of_cell? w _ hw239_2)).trans hw239_2), ((HB.out.cell (World.block_lt_of_cell? w _ hw239_3)).trans hw239_3), ((HB.out.cell (World.block_lt_of_cell? w _ hw239_4)).trans hw239_4), ((HB.out.cell (World.block_lt_of_cell? w _ hw239_5)).trans hw239_5), ((HB.out.cell (World.block_lt_of_cell? w _ hw239_6)).trans hw239_6)⟩ (fun hHeld => ?_); refine with_tabW carcanetlaw25_same.tab6 carcanetlaw25_same.bits6 (fun HT_ HW_ => ?_)
        generalize wr.drew = w9 at HB HR238_3 HR239_3 hx238_0 hx238_1 hx238_2 hx238_3 hx238_4 hx238_5 hx238_6 hx239_0 hx239_1 hx239_2 hx239_3 hx239_4 hx239_5 hx239_6 hHeld ⊢
        refine pure_ (i := 0) (N := some 17) (v := ?_) (a' := ?_) #[true, false, false, false, false, false, false, false, false, false] rfl rfl (any_of HT_.out (by kernel_rfl)) (fun _ _ _ h => h) (Or.inl ⟨by rfl, ?_⟩) ?_ ?_
        rotate_left
        ·intro w'
         go_simp
         with_reducible rfl
        rotate_left
        ·simp only [Act.put, List.setIfInBounds_toArray, List.set_cons_zero, List.set_cons_succ, i64_w, i32_w]
         rfl
        refine pure_ (i := 1) (N := some 18) (v := ?_) (a' := ?_) #[true, true, false, false, false, false, false, false, false, false] rfl rfl (any_of HT_.out (by kernel_rfl)) (fun _ _ _ h => h) (Or.inl ⟨by rfl, ?_⟩) ?_ ?_
        rotate_left
        ·intro w'
         go_simp
         with_reducible rfl
        rotate_left
        ·simp only [Act.put, List.setIfInBounds_toArray, List.set_cons_zero, List.set_cons_succ, i64_w, i32_w]
         rfl
        refine pure_ (i := 2) (N := some 19) (v := ?_) (a' := ?_) #[true, true, true, false, false, false, false, false, false, false] rfl rfl (any_of HT_.out (by kernel_rfl)) (fun _ _ _ h => h) (Or.inl ⟨by rfl, ?_⟩) ?_ ?_
        rotate_left
        ·intro w'
         go_simp
         with_reducible rfl
        rotate_left
        ·simp only [Act.put, List.setIfInBounds_toArray, List.set_cons_zero, List.set_cons_succ, i64_w, i32_w]
         rfl
        refine pure_ (i := 4) (N := some 21) (v := ?_) (a' := ?_) #[true, true, true, false, true, false, false, false, false, false] rfl rfl (any_of HT_.out (by kernel_rfl)) (fun _ _ _ h => h) (Or.inl ⟨by rfl, ?_⟩) ?_ ?_
        rotate_left
        ·intro w'
         go_simp
         with_reducible rfl
        rotate_left
        ·simp only [Act.put, List.setIfInBounds_toArray, List.set_cons_zero, List.set_cons_succ, i64_w, i32_w]
         rfl
        refine pure_ (i := 5) (N := some 22) (v := ?_) (a' := ?_) #[true, true, true, false, true, true, false, false, false, false] rfl rfl (any_of HT_.out (by kernel_rfl)) (fun _ _ _ h => h) (Or.inl ⟨by rfl, ?_⟩) ?_ ?_
        rotate_left
        ·intro w'
         go_simp
         with_reducible rfl
        rotate_left
        ·simp only [Act.put, List.setIfInBounds_toArray, List.set_cons_zero, List.set_cons_succ, i64_w, i32_w]
         rfl
        refine pure_ (i := 6) (N := some 23) (v := ?_) (a' := ?_) #[true, true, true, false, true, true, true, false, false, false] rfl rfl (any_of HT_.out (by kernel_rfl)) (fun _ _ _ h => h) (Or.inl ⟨by rfl, ?_⟩) ?_ ?_
        rotate_left
        ·intro w'
         go_simp
         with_reducible rfl
        rotate_left
        ·simp only [Act.put, List.setIfInBounds_toArray, List.set_cons_zero, List.set_cons_succ, i64_w, i32_w]
         rfl
        refine take_ (i := 3) (N := some 20) (v := ?_) (a' := ?_) #[true, true, true, true, true, true, true, false, false, false] rfl rfl (take_ofW HT_.out HW_.out (by kernel_rfl)) (fun _ _ _ h => h) (Or.inl ⟨by rfl, ?_⟩) hHeld ?_ ?_
        rotate_left
        ·rintro w' ⟨s0, s1, s2, s3, s4, s5, s6, s7, s8, s9, s10, s11, s12, s13⟩
         go_simp
         with_reducible rfl
        rotate_left
        ·simp only [Act.put, List.setIfInBounds_toArray, List.set_cons_zero, List.set_cons_succ, i64_w, i32_w]
         rfl
        refine take_ (i := 7) (N := some 24) (v := ?_) (a' := ?_) #[true, true, true, true, true, true, true, true, false, false] rfl rfl (take_ofW HT_.out HW_.out (by kernel_rfl)) (fun _ _ _ h => h) (Or.inl ⟨by rfl, ?_⟩) hHeld ?_ ?_
        rotate_left
        ·rintro w' ⟨s0, s1, s2, s3, s4, s5, s6, s7, s8, s9, s10, s11, s12, s13⟩
         go_simp
         with_reducible rfl
        rotate_left
        ·simp only [Act.put, List.setIfInBounds_toArray, List.set_cons_zero, List.set_cons_succ, i64_w, i32_w]
         rfl
        refine one_ (i := 8) (N := some 25) #[true, true, true, true, true, true, true, true, true, false] rfl rfl (one_of HT_.out (by kernel_rfl)) (by decide) (fun K hK => ?_)
        refine goes_ Tryz.func14 (by kernel_rfl) rfl #[.agg #[.int .i64 ((rd_T36 l0 x5_1).f0), .string ((rd_T36 l0 x5_1).f1), .int .i64 ((rd_T36 l0 x5_1).f2.f0), .slice A238_3 ((rd_T36 l0 x5_1).f2.f1).length c238_3, .int .i64 ((rd_T36 l0 x5_1).f3), .int .i64 ((rd_T36 l0 x5_1).f4), .int .i64 ((rd_T36 l0 x5_1).f5)], .agg #[.int .i64 ((rd_T50 l1 x5_1).f0), .string ((rd_T50 l1 x5_1).f1), .int .i64 ((rd_T50 l1 x5_1).f2.f0), .slice A239_3 ((rd_T50 l1 x5_1).f2.f1).length c239_3, .int .i64 ((rd_T50 l1 x5_1).f3), .int .i64 ((rd_T50 l1 x5_1).f4), .int .i64 ((rd_T50 l1 x5_1).f5)]] (by rfl) rfl rfl (by (try simp only [List.map_toArray, List.map_cons, List.map_nil]); first | done | rfl | (simp only [List.length_drop, List.length_take]; rfl)) ?_
        with_reducible refine (carcanetref25_Same.calls k1 ((rd_T36 l0 x5_1).f0) ((rd_T36 l0 x5_1).f1) ((rd_T36 l0 x5_1).f2.f0) _ _ ((rd_T36 l0 x5_1).f2.f1) ((rd_T36 l0 x5_1).f3) ((rd_T36 l0 x5_1).f4) ((rd_T36 l0 x5_1).f5) ((rd_T50 l1 x5_1).f0) ((rd_T50 l1 x5_1).f1) ((rd_T50 l1 x5_1).f2.f0) _ _ ((rd_T50 l1 x5_1).f2.f1) ((rd_T50 l1 x5_1).f3) ((rd_T50 l1 x5_1).f4) ((rd_T50 l1 x5_1).f5) true _ ?side1 ?side2 ?side3 ?side4 A7.out).mono ?_
        (case side1 => repeat (first | exact (Kd.C_below HR238_3.out HB.out) | (with_reducible refine Kd.C_alloc ?_ _) | (with_reducible refine Kd.C_drewN ?_ _) | (with_reducible refine Kd.C_drew ?_)))
        (case side2 => exact HC238_3.out)
        (case side3 => repeat (first | exact (Kd.C_below HR239_3.out HB.out) | (with_reducible refine Kd.C_alloc ?_ _) | (with_reducible refine Kd.C_drewN ?_ _) | (with_reducible refine Kd.C_drew ?_)))
        (case side4 => exact HC239_3.out)
        rintro e w10 ⟨rfl, hb⟩
        refine ⟨_, rfl, ?_⟩
        have n0_ := Aside0.mk (below_step (by repeat (first | (with_reducible first | exact HB.out | apply below_alloc | apply pw_below_drewN | apply below_drew1) | exact HB.out)) hb)
        clear HB
        have HB := n0_
        clear n0_
        (try clear hb)
        (try clear hb2)
        (try clear hk)
        (try clear hi)
        refine hK.out _ _ ⟨((HB.out.cell (World.block_lt_of_cell? w _ hw238_0)).trans hw238_0), ((HB.out.cell (World.block_lt_of_cell? w _ hw238_1)).trans hw238_1), ((HB.out.cell (World.block_lt_of_cell? w _ hw238_2)).trans hw238_2), ((HB.out.cell (World.block_lt_of_cell? w _ hw238_3)).trans hw238_3), ((HB.out.cell (World.block_lt_of_cell? w _ hw238_4)).trans hw238_4), ((HB.out.cell (World.block_lt_of_cell? w _ hw238_5)).trans hw238_5), ((HB.out.cell (World.block_lt_of_cell? w _ hw238_6)).trans hw238_6), ((HB.out.cell (World.block_lt_of_cell? w _ hw239_0)).trans hw239_0), ((HB.out.cell (World.block_lt_of_cell? w _ hw239_1)).trans hw239_1), ((HB.out.cell (World.block_lt_of_cell? w _ hw239_2)).trans hw239_2), ((HB.out.cell (World.block_lt_of_cell? w _ hw239_3)).trans hw239_3), ((HB.out.cell (World.block_lt_of_cell? w _ hw239_4)).trans hw239_4), ((HB.out.cell (World.block_lt_of_cell? w _ hw239_5)).trans hw239_5), ((HB.out.cell (World.block_lt_of_cell? w _ hw239_6)).trans hw239_6)⟩ (fun hHeld => ?_)
        clear hK K
        refine norm_ (a' := ?_) ?_ ?_
        rotate_left
        ·show Act.put _ (some 25) _ = _
         simp only [Act.put, List.setIfInBounds_toArray, List.set_cons_zero, List.set_cons_succ, i64_w, i32_w]
         rfl
        refine pure_ (i := 9) (N := some 26) (v := ?_) (a' := ?_) #[true, true, true, true, true, true, true, true, true, true] rfl rfl (any_of HT_.out (by kernel_rfl)) (fun _ _ _ h => h) (Or.inl ⟨by rfl, ?_⟩) ?_ ?_
        rotate_left
        ·intro w'
         go_simp
         with_reducible rfl
        rotate_left
        ·simp only [Act.put, List.setIfInBounds_toArray, List.set_cons_zero, List.set_cons_succ, i64_w, i32_w]
         rfl
        refine done_ (done_of HT_.out (by kernel_rfl)) ?_
        try go_wp2
        go_roundg k1
        case measure => have := HK1.out; omega
        case rel => exact ⟨(wrap64 (x5_1 + 1)), (by first | rfl | (simp; done) | (simp [*]; done)), H', ⟨by have := HK1.out; omega⟩, ⟨by repeat (first | (with_reducible first | exact HB.out | apply below_alloc | apply pw_below_drewN | apply below_drew1) | exact HB.out)⟩⟩
       ·replace c8 := Bool.eq_false_iff.mpr c8
        subst c8
        have H1 : (some false) = some r := by rw [if_neg (show ¬ (false = true) by decide)] at H; exact H
        clear H
        have H := H1
        clear H1
        obtain rfl := Option.some.inj H
        try go_wp2
        have n0_ := Aside0.mk (below_drew1 HB.out)
        clear HB
        have HB := n0_
        clear n0_
        have p238 : 0 ≤ (x5_1 : Int) := of_decide_eq_true (by first | (with_reducible assumption) | assumption)
        have q238 : x5_1 < (l0.length : Int) := of_decide_eq_true (by first | (with_reducible assumption) | assumption)
        obtain ⟨ad238, A238_3, c238_3, e238, hx238_0, hx238_1, hx238_2, hx238_3, hx238_4, hx238_5, hx238_6, hl238_3, hi238_3⟩ := at_T36 HR0.out x5_1 p238 q238
        have hw238_6 := hx238_6
        have hw238_5 := hx238_5
        have hw238_4 := hx238_4
        have hw238_3 := hx238_3
        have hw238_2 := hx238_2
        have hw238_1 := hx238_1
        have hw238_0 := hx238_0
        cases e238
        replace hx238_0 := (HB.out.cell (World.block_lt_of_cell? w _ hx238_0)).trans hx238_0
        replace hx238_1 := (HB.out.cell (World.block_lt_of_cell? w _ hx238_1)).trans hx238_1
        replace hx238_2 := (HB.out.cell (World.block_lt_of_cell? w _ hx238_2)).trans hx238_2
        replace hx238_3 := (HB.out.cell (World.block_lt_of_cell? w _ hx238_3)).trans hx238_3
        replace hx238_4 := (HB.out.cell (World.block_lt_of_cell? w _ hx238_4)).trans hx238_4
        replace hx238_5 := (HB.out.cell (World.block_lt_of_cell? w _ hx238_5)).trans hx238_5
        replace hx238_6 := (HB.out.cell (World.block_lt_of_cell? w _ hx238_6)).trans hx238_6
        have HR238_3 := Aside0.mk hi238_3
        have HC238_3 := Aside0.mk hl238_3
        clear hi238_3 hl238_3
        replace p238 := eq_true p238
        replace q238 := eq_true q238
        have p239 : 0 ≤ (x5_1 : Int) := of_decide_eq_true (by first | (with_reducible assumption) | assumption)
        have q239 : x5_1 < (l1.length : Int) := of_decide_eq_true (by first | (with_reducible assumption) | assumption)
        obtain ⟨ad239, A239_3, c239_3, e239, hx239_0, hx239_1, hx239_2, hx239_3, hx239_4, hx239_5, hx239_6, hl239_3, hi239_3⟩ := at_T50 HR1.out x5_1 p239 q239
        have hw239_6 := hx239_6
        have hw239_5 := hx239_5
        have hw239_4 := hx239_4
        have hw239_3 := hx239_3
        have hw239_2 := hx239_2
        have hw239_1 := hx239_1
        have hw239_0 := hx239_0
        cases e239
        replace hx239_0 := (HB.out.cell (World.block_lt_of_cell? w _ hx239_0)).trans hx239_0
        replace hx239_1 := (HB.out.cell (World.block_lt_of_cell? w _ hx239_1)).trans hx239_1
        replace hx239_2 := (HB.out.cell (World.block_lt_of_cell? w _ hx239_2)).trans hx239_2
        replace hx239_3 := (HB.out.cell (World.block_lt_of_cell? w _ hx239_3)).trans hx239_3
        replace hx239_4 := (HB.out.cell (World.block_lt_of_cell? w _ hx239_4)).trans hx239_4
        replace hx239_5 := (HB.out.cell (World.block_lt_of_cell? w _ hx239_5)).trans hx239_5
        replace hx239_6 := (HB.out.cell (World.block_lt_of_cell? w _ hx239_6)).trans hx239_6
        have HR239_3 := Aside0.mk hi239_3
        have HC239_3 := Aside0.mk hl239_3
        clear hi239_3 hl239_3
        replace p239 := eq_true p239
        replace q239 := eq_true q239
        refine start_ (n := 10) (S := fun w' => w'.cell? (ad238.add ((x5_1).toNat * 7)) = some (.int .i64 ((rd_T36 l0 x5_1).f0)) ∧ w'.cell? ⟨(ad238.add ((x5_1).toNat * 7)).block, (ad238.add ((x5_1).toNat * 7)).off + 1, none⟩ = some (.string ((rd_T36 l0 x5_1).f1)) ∧ w'.cell? ⟨(ad238.add ((x5_1).toNat * 7)).block, (ad238.add ((x5_1).toNat * 7)).off + 2, none⟩ = some (.int .i64 ((rd_T36 l0 x5_1).f2.f0)) ∧ w'.cell? ⟨(ad238.add ((x5_1).toNat * 7)).block, (ad238.add ((x5_1).toNat * 7)).off + 3, none⟩ = some (.slice A238_3 ((rd_T36 l0 x5_1).f2.f1).length c238_3) ∧ w'.cell? ⟨(ad238.add ((x5_1).toNat * 7)).block, (ad238.add ((x5_1).toNat * 7)).off + 4, none⟩ = some (.int .i64 ((rd_T36 l0 x5_1).f3)) ∧ w'.cell? ⟨(ad238.add ((x5_1).toNat * 7)).block, (ad238.add ((x5_1).toNat * 7)).off + 5, none⟩ = some (.int .i64 ((rd_T36 l0 x5_1).f4)) ∧ w'.cell? ⟨(ad238.add ((x5_1).toNat * 7)).block, (ad238.add ((x5_1).toNat * 7)).off + 6, none⟩ = some (.int .i64 ((rd_T36 l0 x5_1).f5)) ∧ w'.cell? (ad239.add ((x5_1).toNat * 7)) = some (.int .i64 ((rd_T50 l1 x5_1).f0)) ∧ w'.cell? ⟨(ad239.add ((x5_1).toNat * 7)).block, (ad239.add ((x5_1).toNat * 7)).off + 1, none⟩ = some (.string ((rd_T50 l1 x5_1).f1)) ∧ w'.cell? ⟨(ad239.add ((x5_1).toNat * 7)).block, (ad239.add ((x5_1).toNat * 7)).off + 2, none⟩ = some (.int .i64 ((rd_T50 l1 x5_1).f2.f0)) ∧ w'.cell? ⟨(ad239.add ((x5_1).toNat * 7)).block, (ad239.add ((x5_1).toNat * 7)).off + 3, none⟩ = some (.slice A239_3 ((rd_T50 l1 x5_1).f2.f1).length c239_3) ∧ w'.cell? ⟨(ad239.add ((x5_1).toNat * 7)).block, (ad239.add ((x5_1).toNat * 7)).off + 4, none⟩ = some (.int .i64 ((rd_T50 l1 x5_1).f3)) ∧ w'.cell? ⟨(ad239.add ((x5_1).toNat * 7)).block, (ad239.add ((x5_1).toNat * 7)).off + 5, none⟩ = some (.int .i64 ((rd_T50 l1 x5_1).f4)) ∧ w'.cell? ⟨(ad239.add ((x5_1).toNat * 7)).block, (ad239.add ((x5_1).toNat * 7)).off + 6, none⟩ = some (.int .i64 ((rd_T50 l1 x5_1).f5))) (ds := []) #[false, false, false, false, false, false, false, false, false, false] (by kernel_rfl) rfl rfl ⟨((HB.out.cell (World.block_lt_of_cell? w _ hw238_0)).trans hw238_0), ((HB.out.cell (World.block_lt_of_cell? w _ hw238_1)).trans hw238_1), ((HB.out.cell (World.block_lt_of_cell? w _ hw238_2)).trans hw238_2), ((HB.out.cell (World.block_lt_of_cell? w _ hw238_3)).trans hw238_3), ((HB.out.cell (World.block_lt_of_cell? w _ hw238_4)).trans hw238_4), ((HB.out.cell (World.block_lt_of_cell? w _ hw238_5)).trans hw238_5), ((HB.out.cell (World.block_lt_of_cell? w _ hw238_6)).trans hw238_6), ((HB.out.cell (World.block_lt_of_cell? w _ hw239_0)).trans hw239_0), ((HB.out.cell (World.block_lt_of_cell? w _ hw239_1)).trans hw239_1), ((HB.out.cell (World.block_lt_of_cell? w _ hw239_2)).trans hw239_2), ((HB.out.cell (World.block_lt_of_cell? w _ hw239_3)).trans hw239_3), ((HB.out.cell (World.block_lt_of_cell? w _ hw239_4)).trans hw239_4), ((HB.out.cell (World.block_lt_of_cell? w _ hw239_5)).trans hw239_5), ((HB.out.cell (World.block_lt_of_cell? w _ hw239_6)).trans hw239_6)⟩ (fun hHeld => ?_); refine with_tabW carcanetlaw25_same.tab6 carcanetlaw25_same.bits6 (fun HT_ HW_ => ?_)
        generalize wr.drew = w11 at HB HR238_3 HR239_3 hx238_0 hx238_1 hx238_2 hx238_3 hx238_4 hx238_5 hx238_6 hx239_0 hx239_1 hx239_2 hx239_3 hx239_4 hx239_5 hx239_6 hHeld ⊢
        refine pure_ (i := 0) (N := some 17) (v := ?_) (a' := ?_) #[true, false, false, false, false, false, false, false, false, false] rfl rfl (any_of HT_.out (by kernel_rfl)) (fun _ _ _ h => h) (Or.inl ⟨by rfl, ?_⟩) ?_ ?_
        rotate_left
        ·intro w'
         go_simp
         with_reducible rfl
        rotate_left
        ·simp only [Act.put, List.setIfInBounds_toArray, List.set_cons_zero, List.set_cons_succ, i64_w, i32_w]
         rfl
        refine pure_ (i := 1) (N := some 18) (v := ?_) (a' := ?_) #[true, true, false, false, false, false, false, false, false, false] rfl rfl (any_of HT_.out (by kernel_rfl)) (fun _ _ _ h => h) (Or.inl ⟨by rfl, ?_⟩) ?_ ?_
        rotate_left
        ·intro w'
         go_simp
         with_reducible rfl
        rotate_left
        ·simp only [Act.put, List.setIfInBounds_toArray, List.set_cons_zero, List.set_cons_succ, i64_w, i32_w]
         rfl
        refine pure_ (i := 2) (N := some 19) (v := ?_) (a' := ?_) #[true, true, true, false, false, false, false, false, false, false] rfl rfl (any_of HT_.out (by kernel_rfl)) (fun _ _ _ h => h) (Or.inl ⟨by rfl, ?_⟩) ?_ ?_
        rotate_left
        ·intro w'
         go_simp
         with_reducible rfl
        rotate_left
        ·simp only [Act.put, List.setIfInBounds_toArray, List.set_cons_zero, List.set_cons_succ, i64_w, i32_w]
         rfl
        refine pure_ (i := 4) (N := some 21) (v := ?_) (a' := ?_) #[true, true, true, false, true, false, false, false, false, false] rfl rfl (any_of HT_.out (by kernel_rfl)) (fun _ _ _ h => h) (Or.inl ⟨by rfl, ?_⟩) ?_ ?_
        rotate_left
        ·intro w'
         go_simp
         with_reducible rfl
        rotate_left
        ·simp only [Act.put, List.setIfInBounds_toArray, List.set_cons_zero, List.set_cons_succ, i64_w, i32_w]
         rfl
        refine pure_ (i := 5) (N := some 22) (v := ?_) (a' := ?_) #[true, true, true, false, true, true, false, false, false, false] rfl rfl (any_of HT_.out (by kernel_rfl)) (fun _ _ _ h => h) (Or.inl ⟨by rfl, ?_⟩) ?_ ?_
        rotate_left
        ·intro w'
         go_simp
         with_reducible rfl
        rotate_left
        ·simp only [Act.put, List.setIfInBounds_toArray, List.set_cons_zero, List.set_cons_succ, i64_w, i32_w]
         rfl
        refine pure_ (i := 6) (N := some 23) (v := ?_) (a' := ?_) #[true, true, true, false, true, true, true, false, false, false] rfl rfl (any_of HT_.out (by kernel_rfl)) (fun _ _ _ h => h) (Or.inl ⟨by rfl, ?_⟩) ?_ ?_
        rotate_left
        ·intro w'
         go_simp
         with_reducible rfl
        rotate_left
        ·simp only [Act.put, List.setIfInBounds_toArray, List.set_cons_zero, List.set_cons_succ, i64_w, i32_w]
         rfl
        refine take_ (i := 3) (N := some 20) (v := ?_) (a' := ?_) #[true, true, true, true, true, true, true, false, false, false] rfl rfl (take_ofW HT_.out HW_.out (by kernel_rfl)) (fun _ _ _ h => h) (Or.inl ⟨by rfl, ?_⟩) hHeld ?_ ?_
        rotate_left
        ·rintro w' ⟨s0, s1, s2, s3, s4, s5, s6, s7, s8, s9, s10, s11, s12, s13⟩
         go_simp
         with_reducible rfl
        rotate_left
        ·simp only [Act.put, List.setIfInBounds_toArray, List.set_cons_zero, List.set_cons_succ, i64_w, i32_w]
         rfl
        refine take_ (i := 7) (N := some 24) (v := ?_) (a' := ?_) #[true, true, true, true, true, true, true, true, false, false] rfl rfl (take_ofW HT_.out HW_.out (by kernel_rfl)) (fun _ _ _ h => h) (Or.inl ⟨by rfl, ?_⟩) hHeld ?_ ?_
        rotate_left
        ·rintro w' ⟨s0, s1, s2, s3, s4, s5, s6, s7, s8, s9, s10, s11, s12, s13⟩
         go_simp
         with_reducible rfl
        rotate_left
        ·simp only [Act.put, List.setIfInBounds_toArray, List.set_cons_zero, List.set_cons_succ, i64_w, i32_w]
         rfl
        refine one_ (i := 8) (N := some 25) #[true, true, true, true, true, true, true, true, true, false] rfl rfl (one_of HT_.out (by kernel_rfl)) (by decide) (fun K hK => ?_)
        refine goes_ Tryz.func14 (by kernel_rfl) rfl #[.agg #[.int .i64 ((rd_T36 l0 x5_1).f0), .string ((rd_T36 l0 x5_1).f1), .int .i64 ((rd_T36 l0 x5_1).f2.f0), .slice A238_3 ((rd_T36 l0 x5_1).f2.f1).length c238_3, .int .i64 ((rd_T36 l0 x5_1).f3), .int .i64 ((rd_T36 l0 x5_1).f4), .int .i64 ((rd_T36 l0 x5_1).f5)], .agg #[.int .i64 ((rd_T50 l1 x5_1).f0), .string ((rd_T50 l1 x5_1).f1), .int .i64 ((rd_T50 l1 x5_1).f2.f0), .slice A239_3 ((rd_T50 l1 x5_1).f2.f1).length c239_3, .int .i64 ((rd_T50 l1 x5_1).f3), .int .i64 ((rd_T50 l1 x5_1).f4), .int .i64 ((rd_T50 l1 x5_1).f5)]] (by rfl) rfl rfl (by (try simp only [List.map_toArray, List.map_cons, List.map_nil]); first | done | rfl | (simp only [List.length_drop, List.length_take]; rfl)) ?_
        with_reducible refine (carcanetref25_Same.calls k1 ((rd_T36 l0 x5_1).f0) ((rd_T36 l0 x5_1).f1) ((rd_T36 l0 x5_1).f2.f0) _ _ ((rd_T36 l0 x5_1).f2.f1) ((rd_T36 l0 x5_1).f3) ((rd_T36 l0 x5_1).f4) ((rd_T36 l0 x5_1).f5) ((rd_T50 l1 x5_1).f0) ((rd_T50 l1 x5_1).f1) ((rd_T50 l1 x5_1).f2.f0) _ _ ((rd_T50 l1 x5_1).f2.f1) ((rd_T50 l1 x5_1).f3) ((rd_T50 l1 x5_1).f4) ((rd_T50 l1 x5_1).f5) false _ ?side1 ?side2 ?side3 ?side4 A7.out).mono ?_
        (case side1 => repeat (first | exact (Kd.C_below HR238_3.out HB.out) | (with_reducible refine Kd.C_alloc ?_ _) | (with_reducible refine Kd.C_drewN ?_ _) | (with_reducible refine Kd.C_drew ?_)))
        (case side2 => exact HC238_3.out)
        (case side3 => repeat (first | exact (Kd.C_below HR239_3.out HB.out) | (with_reducible refine Kd.C_alloc ?_ _) | (with_reducible refine Kd.C_drewN ?_ _) | (with_reducible refine Kd.C_drew ?_)))
        (case side4 => exact HC239_3.out)
        rintro e w12 ⟨rfl, hb⟩
        refine ⟨_, rfl, ?_⟩
        have n0_ := Aside0.mk (below_step (by repeat (first | (with_reducible first | exact HB.out | apply below_alloc | apply pw_below_drewN | apply below_drew1) | exact HB.out)) hb)
        clear HB
        have HB := n0_
        clear n0_
        (try clear hb)
        (try clear hb2)
        (try clear hk)
        (try clear hi)
        refine hK.out _ _ ⟨((HB.out.cell (World.block_lt_of_cell? w _ hw238_0)).trans hw238_0), ((HB.out.cell (World.block_lt_of_cell? w _ hw238_1)).trans hw238_1), ((HB.out.cell (World.block_lt_of_cell? w _ hw238_2)).trans hw238_2), ((HB.out.cell (World.block_lt_of_cell? w _ hw238_3)).trans hw238_3), ((HB.out.cell (World.block_lt_of_cell? w _ hw238_4)).trans hw238_4), ((HB.out.cell (World.block_lt_of_cell? w _ hw238_5)).trans hw238_5), ((HB.out.cell (World.block_lt_of_cell? w _ hw238_6)).trans hw238_6), ((HB.out.cell (World.block_lt_of_cell? w _ hw239_0)).trans hw239_0), ((HB.out.cell (World.block_lt_of_cell? w _ hw239_1)).trans hw239_1), ((HB.out.cell (World.block_lt_of_cell? w _ hw239_2)).trans hw239_2), ((HB.out.cell (World.block_lt_of_cell? w _ hw239_3)).trans hw239_3), ((HB.out.cell (World.block_lt_of_cell? w _ hw239_4)).trans hw239_4), ((HB.out.cell (World.block_lt_of_cell? w _ hw239_5)).trans hw239_5), ((HB.out.cell (World.block_lt_of_cell? w _ hw239_6)).trans hw239_6)⟩ (fun hHeld => ?_)
        clear hK K
        refine norm_ (a' := ?_) ?_ ?_
        rotate_left
        ·show Act.put _ (some 25) _ = _
         simp only [Act.put, List.setIfInBounds_toArray, List.set_cons_zero, List.set_cons_succ, i64_w, i32_w]
         rfl
        refine pure_ (i := 9) (N := some 26) (v := ?_) (a' := ?_) #[true, true, true, true, true, true, true, true, true, true] rfl rfl (any_of HT_.out (by kernel_rfl)) (fun _ _ _ h => h) (Or.inl ⟨by rfl, ?_⟩) ?_ ?_
        rotate_left
        ·intro w'
         go_simp
         with_reducible rfl
        rotate_left
        ·simp only [Act.put, List.setIfInBounds_toArray, List.set_cons_zero, List.set_cons_succ, i64_w, i32_w]
         rfl
        refine done_ (done_of HT_.out (by kernel_rfl)) ?_
        try go_wp2
        go_ret
        exact ⟨by first | rfl | (simp [errW_none, errW_some] <;> rfl) | (simp [*, errW_none, errW_some] <;> rfl), by repeat (first | (with_reducible first | exact HB.out | apply below_alloc | apply pw_below_drewN | apply below_drew1) | exact HB.out)⟩
      ·rw [if_neg c6] at H
       exact absurd H (by simp)
     ·rw [if_neg c5] at H
      exact absurd H (by simp)
    ·rw [if_neg c4] at H
     have c4b0 : decide (x5_1 < (l0.length : Int)) = false := decide_eq_false c4
     clear c4
     obtain rfl := Option.some.inj H
     go_wp2
     go_ret
     exact ⟨by first | rfl | (simp [errW_none, errW_some] <;> rfl) | (simp [*, errW_none, errW_some] <;> rfl), by repeat (first | (with_reducible first | exact HB.out | apply below_alloc | apply pw_below_drewN | apply below_drew1) | exact HB.out)⟩
 ·rw [if_neg c3] at H
  have c3b0 : ((l0.length : Int) == (l1.length : Int)) = false := beq_eq_false_iff_ne.mpr c3
  have c3b1 : ((l0.length : Int) != (l1.length : Int)) = true := bne_iff_ne.mpr c3
  have c3b2 : (l0.length == l1.length) = false := by first | simpa using c3 | (simp at c3 ⊢; omega)
  obtain rfl := Option.some.inj H
  go_enter Tryz.func7, Tryz.ntmps7
  go_wp2
  go_ret
  exact ⟨by first | rfl | (simp [errW_none, errW_some] <;> rfl) | (simp [*, errW_none, errW_some] <;> rfl), by repeat (first | (with_reducible first | exact HB.out | apply below_alloc | apply pw_below_drewN | apply below_drew1) | exact HB.out)⟩

/-! ### carcanetlaw25_ScriptTells: function 3 -/
def carcanetlaw25_ScriptTells.f (k : Nat) (a0 : ByteArray) : Option (Bool) := (carcanetlaw25_shown.f).bind fun t241 => (if 0 ≤ (mn (a0.size : Int) 1500) then (if (mn (a0.size : Int) 1500) ≤ (a0.size : Int) then ((script_Parse.f k (a0.extract 0 ((mn (a0.size : Int) 1500) : Int).toNat)).bind fun bt242 => ((carcanetref25_Parse.f k (a0.extract 0 ((mn (a0.size : Int) 1500) : Int).toNat)).bind fun bt247 => (if t241 = true then (if bt242.2.2 = bt247.2.2 then (if bt242.2.1 = bt247.2.1 then ((carcanetlaw25_same.f k bt242.1 bt247.1).bind fun t252 => (some t252)) else (some false)) else (some false)) else (some false)))) else (none)) else (none))
theorem carcanetlaw25_ScriptTells.mono : ∀ a0 k, LeO (carcanetlaw25_ScriptTells.f k a0) (carcanetlaw25_ScriptTells.f (k + 1) a0) := by
 intro a0 k
 unfold carcanetlaw25_ScriptTells.f
 repeat' first
   | (with_reducible exact carcanetlaw25_same.mono _ _ _)
   | (with_reducible exact carcanetref25_Parse.mono _ _)
   | (with_reducible exact script_Parse.mono _ _)
   | (with_reducible exact LeO.refl _)
   | (with_reducible exact LeO.none _)
   | (with_reducible refine LeO.ite ?_ ?_)
   | (with_reducible refine LeO.bind ?_ (fun _ => ?_))
   | exact carcanetlaw25_same.mono _ _ _
   | exact carcanetref25_Parse.mono _ _
   | exact script_Parse.mono _ _
   | exact LeO.none _
   | refine LeO.ite ?_ ?_
   | refine LeO.bind ?_ (fun _ => ?_)
set_option maxHeartbeats 8000000 in
set_option maxRecDepth 100000 in
theorem carcanetlaw25_ScriptTells.calls (k : Nat) (a0 : ByteArray) (r : Bool) (w : World) (hGW : GW w) (h : carcanetlaw25_ScriptTells.f k a0 = some r) :
  Calls Tryz.prog 3 #[.string a0] w fun e w' => e = .returned (.bool r) ∧ Below w.heap.size w w' := by
 have HGW := Aside0.mk hGW
 clear hGW
 have HB := Aside0.mk (Below.refl w.heap.size w)
 have H : ((carcanetlaw25_shown.f).bind fun t241 => (if 0 ≤ (mn (a0.size : Int) 1500) then (if (mn (a0.size : Int) 1500) ≤ (a0.size : Int) then ((script_Parse.f k (a0.extract 0 ((mn (a0.size : Int) 1500) : Int).toNat)).bind fun bt242 => ((carcanetref25_Parse.f k (a0.extract 0 ((mn (a0.size : Int) 1500) : Int).toNat)).bind fun bt247 => (if t241 = true then (if bt242.2.2 = bt247.2.2 then (if bt242.2.1 = bt247.2.1 then ((carcanetlaw25_same.f k bt242.1 bt247.1).bind fun t252 => (some t252)) else (some false)) else (some false)) else (some false)))) else (none)) else (none))) = some r := h
 clear h
 replace H := Option.bind_eq_some_iff.mp H
 obtain ⟨t241, A20, H⟩ := H
 replace H : (if 0 ≤ (mn (a0.size : Int) 1500) then (if (mn (a0.size : Int) 1500) ≤ (a0.size : Int) then ((script_Parse.f k (a0.extract 0 ((mn (a0.size : Int) 1500) : Int).toNat)).bind fun bt242 => ((carcanetref25_Parse.f k (a0.extract 0 ((mn (a0.size : Int) 1500) : Int).toNat)).bind fun bt247 => (if t241 = true then (if bt242.2.2 = bt247.2.2 then (if bt242.2.1 = bt247.2.1 then ((carcanetlaw25_same.f k bt242.1 bt247.1).bind fun t252 => (some t252)) else (some false)) else (some false)) else (some false)))) else (none)) else (none)) = some r := H
 have A2 := Aside0.mk A20
 clear A20
 obtain ⟨ji3, hji3⟩ : ∃ j_ : Int, (mn (a0.size : Int) 1500) = j_ := ⟨_, rfl⟩
 replace H : (if 0 ≤ (ji3) then (if (ji3) ≤ (a0.size : Int) then ((script_Parse.f k (a0.extract 0 ((ji3) : Int).toNat)).bind fun bt242 => ((carcanetref25_Parse.f k (a0.extract 0 ((ji3) : Int).toNat)).bind fun bt247 => (if t241 = true then (if bt242.2.2 = bt247.2.2 then (if bt242.2.1 = bt247.2.1 then ((carcanetlaw25_same.f k bt242.1 bt247.1).bind fun t252 => (some t252)) else (some false)) else (some false)) else (some false)))) else (none)) else (none)) = some r := by first | (rw [hji3] at H; exact H) | (simp only [hji3] at H ⊢; exact H)
 (try rw [hji3] at A2)
 (try (have hji3h : ji3 ≤ 1500 := by (rw [← hji3]; unfold mn; (repeat' split) <;> omega)))
 (try (have hji3g : ji3 ≤ 64 := by omega))
 (try (have hji3l : 0 ≤ ji3 := by (rw [← hji3]; unfold mn; (repeat' split) <;> omega)))
 (try (have hji3m : 0 ≤ ji3 := by omega))
 have hji3_ : (if 1500 < (a0.size : Int) then 1500 else (a0.size : Int)) = ji3 := hji3
 by_cases c4 : 0 ≤ (ji3)
 ·rw [if_pos c4] at H
  have c4b0 := eq_true c4
  have c4b1 : decide (0 ≤ (ji3)) = true := decide_eq_true c4
  clear c4
  by_cases c5 : (ji3) ≤ (a0.size : Int)
  ·rw [if_pos c5] at H
   have c5b0 := eq_true c5
   have c5b1 : decide ((ji3) ≤ (a0.size : Int)) = true := decide_eq_true c5
   clear c5
   replace H := Option.bind_eq_some_iff.mp H
   obtain ⟨⟨t242, t243, t244⟩, A60, H⟩ := H
   replace H : ((carcanetref25_Parse.f k (a0.extract 0 ((ji3) : Int).toNat)).bind fun bt247 => (if t241 = true then (if t244 = bt247.2.2 then (if t243 = bt247.2.1 then ((carcanetlaw25_same.f k t242 bt247.1).bind fun t252 => (some t252)) else (some false)) else (some false)) else (some false))) = some r := H
   have A6 := Aside0.mk A60
   clear A60
   replace H := Option.bind_eq_some_iff.mp H
   obtain ⟨⟨t247, t248, t249⟩, A70, H⟩ := H
   replace H : (if t241 = true then (if t244 = t249 then (if t243 = t248 then ((carcanetlaw25_same.f k t242 t247).bind fun t252 => (some t252)) else (some false)) else (some false)) else (some false)) = some r := H
   have A7 := Aside0.mk A70
   clear A70
   by_cases c8 : t241 = true
   ·subst c8
    have H1 : (if t244 = t249 then (if t243 = t248 then ((carcanetlaw25_same.f k t242 t247).bind fun t252 => (some t252)) else (some false)) else (some false)) = some r := by rw [if_pos rfl] at H; exact H
    clear H
    have H := H1
    clear H1
    by_cases c9 : t244 = t249
    ·rw [if_pos c9] at H
     have c9b0 : (t244 == t249) = true := beq_iff_eq.mpr c9
     have c9b1 : (t244 != t249) = false := bne_eq_false_iff_eq.mpr c9
     clear c9
     by_cases c10 : t243 = t248
     ·rw [if_pos c10] at H
      have c10b0 : (t243 == t248) = true := beq_iff_eq.mpr c10
      have c10b1 : (t243 != t248) = false := bne_eq_false_iff_eq.mpr c10
      clear c10
      replace H := Option.bind_eq_some_iff.mp H
      obtain ⟨t252, A110, H⟩ := H
      replace H : (some t252) = some r := H
      have A11 := Aside0.mk A110
      clear A110
      obtain rfl := Option.some.inj H
      go_enter Tryz.func3, Tryz.ntmps3
      go_wp2_with (first | ((with_reducible refine gate_callee (f := 4) rfl ?_); refine goesL_ (some 10) rfl rfl Tryz.func4 (by kernel_rfl) rfl #[] rfl (by (try simp only [List.map_toArray, List.map_cons, List.map_nil]); first | done | rfl | (simp only [List.length_drop, List.length_take]; rfl)) ?_; (with_reducible refine (carcanetlaw25_shown.calls  true _ ?side1 A2.out).mono ?_); (case side1 => exact GW.of_below HGW.out (by repeat (first | (with_reducible first | exact HB.out | apply below_alloc | apply pw_below_drewN | apply below_drew1) | exact HB.out))); rintro e w12 ⟨rfl, hb⟩; refine ⟨_, rfl, ?_⟩; have n0_ := Aside0.mk (below_step (by repeat (first | (with_reducible first | exact HB.out | apply below_alloc | apply pw_below_drewN | apply below_drew1) | exact HB.out)) hb); clear HB; have HB := n0_; clear n0_; (try clear hb); (try clear hb2); (try clear hk); (try clear hi)) | ((with_reducible refine gate_callee (f := 5) rfl ?_); refine goesL_ (some 18) rfl rfl Tryz.func5 (by kernel_rfl) rfl #[.string (a0.extract 0 ((ji3) : Int).toNat)] rfl (by (try simp only [List.map_toArray, List.map_cons, List.map_nil]); first | done | (simp only [hji3]; rfl) | rfl | (simp only [List.length_drop, List.length_take]; rfl)) ?_; (with_reducible refine (script_Parse.calls k (a0.extract 0 ((ji3) : Int).toNat) t242 t243 t244 _ ?side1 A6.out).mono ?_); (case side1 => exact GW.of_below HGW.out (by repeat (first | (with_reducible first | exact HB.out | apply below_alloc | apply pw_below_drewN | apply below_drew1) | exact HB.out))); rintro e w13 ⟨v245, rfl, ho0, hb⟩; refine ⟨_, rfl, ?_⟩; have n0_ := Aside0.mk (Kd.S_lower ho0 (below_size (by repeat (first | (with_reducible first | exact HB.out | apply below_alloc | apply pw_below_drewN | apply below_drew1) | exact HB.out)))); have n1_ := Aside0.mk (below_step (by repeat (first | (with_reducible first | exact HB.out | apply below_alloc | apply pw_below_drewN | apply below_drew1) | exact HB.out)) hb); clear HB; have HO246 := n0_; have HB := n1_; clear n0_ n1_; (try clear hb); (try clear hb2); (try clear hk); (try clear hi); (try clear ho0)) | ((with_reducible refine gate_callee (f := 6) rfl ?_); refine goesL_ (some 24) rfl rfl Tryz.func6 (by kernel_rfl) rfl #[.string (a0.extract 0 ((ji3) : Int).toNat)] rfl (by (try simp only [List.map_toArray, List.map_cons, List.map_nil]); first | done | (simp only [hji3]; rfl) | rfl | (simp only [List.length_drop, List.length_take]; rfl)) ?_; (with_reducible refine (carcanetref25_Parse.calls k (a0.extract 0 ((ji3) : Int).toNat) t247 t248 t249 _ A7.out).mono ?_); rintro e w14 ⟨v250, rfl, ho0, hb⟩; refine ⟨_, rfl, ?_⟩; have n0_ := Aside0.mk (Kd.S_below (by (with_reducible repeat (first | apply Kd.S_alloc | apply Kd.S_drewN | apply Kd.S_drew)); exact HO246.out) hb); have n1_ := Aside0.mk (Kd.S_lower ho0 (below_size (by repeat (first | (with_reducible first | exact HB.out | apply below_alloc | apply pw_below_drewN | apply below_drew1) | exact HB.out)))); have n2_ := Aside0.mk (below_step (by repeat (first | (with_reducible first | exact HB.out | apply below_alloc | apply pw_below_drewN | apply below_drew1) | exact HB.out)) hb); clear HO246; clear HB; have HO246 := n0_; have HO251 := n1_; have HB := n2_; clear n0_ n1_ n2_; (try clear hb); (try clear hb2); (try clear hk); (try clear hi); (try clear ho0); obtain ⟨Ao15, co15, eo15⟩ := Kd.S_slice HO246.out; subst eo15; obtain ⟨Ao16, co16, eo16⟩ := Kd.S_slice HO251.out; subst eo16) | (go_at_call 7; (with_reducible refine (carcanetlaw25_same.calls k _ _ t242 _ _ t247 t252 _ ?side1 ?side2 ?side3 ?side4 A11.out).mono ?_); (case side1 => repeat (first | exact (Kd.S_reads' HO246.out).2.2 | (with_reducible refine Kd.C_alloc ?_ _) | (with_reducible refine Kd.C_drewN ?_ _) | (with_reducible refine Kd.C_drew ?_))); (case side2 => exact (Kd.S_reads' HO246.out).2.1); (case side3 => repeat (first | exact (Kd.S_reads' HO251.out).2.2 | (with_reducible refine Kd.C_alloc ?_ _) | (with_reducible refine Kd.C_drewN ?_ _) | (with_reducible refine Kd.C_drew ?_))); (case side4 => exact (Kd.S_reads' HO251.out).2.1); rintro e w17 ⟨rfl, hb⟩; have n0_ := Aside0.mk (Kd.S_below (by (with_reducible repeat (first | apply Kd.S_alloc | apply Kd.S_drewN | apply Kd.S_drew)); exact HO246.out) hb); have n1_ := Aside0.mk (Kd.S_below (by (with_reducible repeat (first | apply Kd.S_alloc | apply Kd.S_drewN | apply Kd.S_drew)); exact HO251.out) hb); have n2_ := Aside0.mk (below_step (by repeat (first | (with_reducible first | exact HB.out | apply below_alloc | apply pw_below_drewN | apply below_drew1) | exact HB.out)) hb); clear HO246; clear HO251; clear HB; have HO246 := n0_; have HO251 := n1_; have HB := n2_; clear n0_ n1_ n2_; (try clear hb); (try clear hb2); (try clear hk); (try clear hi)))
      go_ret
      exact ⟨by first | rfl | (simp [errW_none, errW_some] <;> rfl) | (simp only [← hji3]; first | rfl | (simp [errW_none, errW_some] <;> rfl)) | (simp [*, errW_none, errW_some] <;> rfl), by repeat (first | (with_reducible first | exact HB.out | apply below_alloc | apply pw_below_drewN | apply below_drew1) | exact HB.out)⟩
     ·rw [if_neg c10] at H
      have c10b0 : (t243 == t248) = false := beq_eq_false_iff_ne.mpr c10
      have c10b1 : (t243 != t248) = true := bne_iff_ne.mpr c10
      obtain rfl := Option.some.inj H
      go_enter Tryz.func3, Tryz.ntmps3
      go_wp2_with (first | ((with_reducible refine gate_callee (f := 4) rfl ?_); refine goesL_ (some 10) rfl rfl Tryz.func4 (by kernel_rfl) rfl #[] rfl (by (try simp only [List.map_toArray, List.map_cons, List.map_nil]); first | done | rfl | (simp only [List.length_drop, List.length_take]; rfl)) ?_; (with_reducible refine (carcanetlaw25_shown.calls  true _ ?side1 A2.out).mono ?_); (case side1 => exact GW.of_below HGW.out (by repeat (first | (with_reducible first | exact HB.out | apply below_alloc | apply pw_below_drewN | apply below_drew1) | exact HB.out))); rintro e w18 ⟨rfl, hb⟩; refine ⟨_, rfl, ?_⟩; have n0_ := Aside0.mk (below_step (by repeat (first | (with_reducible first | exact HB.out | apply below_alloc | apply pw_below_drewN | apply below_drew1) | exact HB.out)) hb); clear HB; have HB := n0_; clear n0_; (try clear hb); (try clear hb2); (try clear hk); (try clear hi)) | ((with_reducible refine gate_callee (f := 5) rfl ?_); refine goesL_ (some 18) rfl rfl Tryz.func5 (by kernel_rfl) rfl #[.string (a0.extract 0 ((ji3) : Int).toNat)] rfl (by (try simp only [List.map_toArray, List.map_cons, List.map_nil]); first | done | (simp only [hji3]; rfl) | rfl | (simp only [List.length_drop, List.length_take]; rfl)) ?_; (with_reducible refine (script_Parse.calls k (a0.extract 0 ((ji3) : Int).toNat) t242 t243 t244 _ ?side1 A6.out).mono ?_); (case side1 => exact GW.of_below HGW.out (by repeat (first | (with_reducible first | exact HB.out | apply below_alloc | apply pw_below_drewN | apply below_drew1) | exact HB.out))); rintro e w19 ⟨v245, rfl, ho0, hb⟩; refine ⟨_, rfl, ?_⟩; have n0_ := Aside0.mk (Kd.S_lower ho0 (below_size (by repeat (first | (with_reducible first | exact HB.out | apply below_alloc | apply pw_below_drewN | apply below_drew1) | exact HB.out)))); have n1_ := Aside0.mk (below_step (by repeat (first | (with_reducible first | exact HB.out | apply below_alloc | apply pw_below_drewN | apply below_drew1) | exact HB.out)) hb); clear HB; have HO246 := n0_; have HB := n1_; clear n0_ n1_; (try clear hb); (try clear hb2); (try clear hk); (try clear hi); (try clear ho0)) | ((with_reducible refine gate_callee (f := 6) rfl ?_); refine goesL_ (some 24) rfl rfl Tryz.func6 (by kernel_rfl) rfl #[.string (a0.extract 0 ((ji3) : Int).toNat)] rfl (by (try simp only [List.map_toArray, List.map_cons, List.map_nil]); first | done | (simp only [hji3]; rfl) | rfl | (simp only [List.length_drop, List.length_take]; rfl)) ?_; (with_reducible refine (carcanetref25_Parse.calls k (a0.extract 0 ((ji3) : Int).toNat) t247 t248 t249 _ A7.out).mono ?_); rintro e w20 ⟨v250, rfl, ho0, hb⟩; refine ⟨_, rfl, ?_⟩; have n0_ := Aside0.mk (Kd.S_below (by (with_reducible repeat (first | apply Kd.S_alloc | apply Kd.S_drewN | apply Kd.S_drew)); exact HO246.out) hb); have n1_ := Aside0.mk (Kd.S_lower ho0 (below_size (by repeat (first | (with_reducible first | exact HB.out | apply below_alloc | apply pw_below_drewN | apply below_drew1) | exact HB.out)))); have n2_ := Aside0.mk (below_step (by repeat (first | (with_reducible first | exact HB.out | apply below_alloc | apply pw_below_drewN | apply below_drew1) | exact HB.out)) hb); clear HO246; clear HB; have HO246 := n0_; have HO251 := n1_; have HB := n2_; clear n0_ n1_ n2_; (try clear hb); (try clear hb2); (try clear hk); (try clear hi); (try clear ho0)))
      go_ret
      exact ⟨by first | rfl | (simp [errW_none, errW_some] <;> rfl) | (simp only [← hji3]; first | rfl | (simp [errW_none, errW_some] <;> rfl)) | (simp [*, errW_none, errW_some] <;> rfl), by repeat (first | (with_reducible first | exact HB.out | apply below_alloc | apply pw_below_drewN | apply below_drew1) | exact HB.out)⟩
    ·rw [if_neg c9] at H
     have c9b0 : (t244 == t249) = false := beq_eq_false_iff_ne.mpr c9
     have c9b1 : (t244 != t249) = true := bne_iff_ne.mpr c9
     obtain rfl := Option.some.inj H
     go_enter Tryz.func3, Tryz.ntmps3
     go_wp2_with (first | ((with_reducible refine gate_callee (f := 4) rfl ?_); refine goesL_ (some 10) rfl rfl Tryz.func4 (by kernel_rfl) rfl #[] rfl (by (try simp only [List.map_toArray, List.map_cons, List.map_nil]); first | done | rfl | (simp only [List.length_drop, List.length_take]; rfl)) ?_; (with_reducible refine (carcanetlaw25_shown.calls  true _ ?side1 A2.out).mono ?_); (case side1 => exact GW.of_below HGW.out (by repeat (first | (with_reducible first | exact HB.out | apply below_alloc | apply pw_below_drewN | apply below_drew1) | exact HB.out))); rintro e w21 ⟨rfl, hb⟩; refine ⟨_, rfl, ?_⟩; have n0_ := Aside0.mk (below_step (by repeat (first | (with_reducible first | exact HB.out | apply below_alloc | apply pw_below_drewN | apply below_drew1) | exact HB.out)) hb); clear HB; have HB := n0_; clear n0_; (try clear hb); (try clear hb2); (try clear hk); (try clear hi)) | ((with_reducible refine gate_callee (f := 5) rfl ?_); refine goesL_ (some 18) rfl rfl Tryz.func5 (by kernel_rfl) rfl #[.string (a0.extract 0 ((ji3) : Int).toNat)] rfl (by (try simp only [List.map_toArray, List.map_cons, List.map_nil]); first | done | (simp only [hji3]; rfl) | rfl | (simp only [List.length_drop, List.length_take]; rfl)) ?_; (with_reducible refine (script_Parse.calls k (a0.extract 0 ((ji3) : Int).toNat) t242 t243 t244 _ ?side1 A6.out).mono ?_); (case side1 => exact GW.of_below HGW.out (by repeat (first | (with_reducible first | exact HB.out | apply below_alloc | apply pw_below_drewN | apply below_drew1) | exact HB.out))); rintro e w22 ⟨v245, rfl, ho0, hb⟩; refine ⟨_, rfl, ?_⟩; have n0_ := Aside0.mk (Kd.S_lower ho0 (below_size (by repeat (first | (with_reducible first | exact HB.out | apply below_alloc | apply pw_below_drewN | apply below_drew1) | exact HB.out)))); have n1_ := Aside0.mk (below_step (by repeat (first | (with_reducible first | exact HB.out | apply below_alloc | apply pw_below_drewN | apply below_drew1) | exact HB.out)) hb); clear HB; have HO246 := n0_; have HB := n1_; clear n0_ n1_; (try clear hb); (try clear hb2); (try clear hk); (try clear hi); (try clear ho0)) | ((with_reducible refine gate_callee (f := 6) rfl ?_); refine goesL_ (some 24) rfl rfl Tryz.func6 (by kernel_rfl) rfl #[.string (a0.extract 0 ((ji3) : Int).toNat)] rfl (by (try simp only [List.map_toArray, List.map_cons, List.map_nil]); first | done | (simp only [hji3]; rfl) | rfl | (simp only [List.length_drop, List.length_take]; rfl)) ?_; (with_reducible refine (carcanetref25_Parse.calls k (a0.extract 0 ((ji3) : Int).toNat) t247 t248 t249 _ A7.out).mono ?_); rintro e w23 ⟨v250, rfl, ho0, hb⟩; refine ⟨_, rfl, ?_⟩; have n0_ := Aside0.mk (Kd.S_below (by (with_reducible repeat (first | apply Kd.S_alloc | apply Kd.S_drewN | apply Kd.S_drew)); exact HO246.out) hb); have n1_ := Aside0.mk (Kd.S_lower ho0 (below_size (by repeat (first | (with_reducible first | exact HB.out | apply below_alloc | apply pw_below_drewN | apply below_drew1) | exact HB.out)))); have n2_ := Aside0.mk (below_step (by repeat (first | (with_reducible first | exact HB.out | apply below_alloc | apply pw_below_drewN | apply below_drew1) | exact HB.out)) hb); clear HO246; clear HB; have HO246 := n0_; have HO251 := n1_; have HB := n2_; clear n0_ n1_ n2_; (try clear hb); (try clear hb2); (try clear hk); (try clear hi); (try clear ho0)))
     go_ret
     exact ⟨by first | rfl | (simp [errW_none, errW_some] <;> rfl) | (simp only [← hji3]; first | rfl | (simp [errW_none, errW_some] <;> rfl)) | (simp [*, errW_none, errW_some] <;> rfl), by repeat (first | (with_reducible first | exact HB.out | apply below_alloc | apply pw_below_drewN | apply below_drew1) | exact HB.out)⟩
   ·replace c8 := Bool.eq_false_iff.mpr c8
    subst c8
    have H1 : (some false) = some r := by rw [if_neg (show ¬ (false = true) by decide)] at H; exact H
    clear H
    have H := H1
    clear H1
    obtain rfl := Option.some.inj H
    go_enter Tryz.func3, Tryz.ntmps3
    go_wp2_with (first | ((with_reducible refine gate_callee (f := 4) rfl ?_); refine goesL_ (some 10) rfl rfl Tryz.func4 (by kernel_rfl) rfl #[] rfl (by (try simp only [List.map_toArray, List.map_cons, List.map_nil]); first | done | rfl | (simp only [List.length_drop, List.length_take]; rfl)) ?_; (with_reducible refine (carcanetlaw25_shown.calls  false _ ?side1 A2.out).mono ?_); (case side1 => exact GW.of_below HGW.out (by repeat (first | (with_reducible first | exact HB.out | apply below_alloc | apply pw_below_drewN | apply below_drew1) | exact HB.out))); rintro e w24 ⟨rfl, hb⟩; refine ⟨_, rfl, ?_⟩; have n0_ := Aside0.mk (below_step (by repeat (first | (with_reducible first | exact HB.out | apply below_alloc | apply pw_below_drewN | apply below_drew1) | exact HB.out)) hb); clear HB; have HB := n0_; clear n0_; (try clear hb); (try clear hb2); (try clear hk); (try clear hi)) | ((with_reducible refine gate_callee (f := 5) rfl ?_); refine goesL_ (some 18) rfl rfl Tryz.func5 (by kernel_rfl) rfl #[.string (a0.extract 0 ((ji3) : Int).toNat)] rfl (by (try simp only [List.map_toArray, List.map_cons, List.map_nil]); first | done | (simp only [hji3]; rfl) | rfl | (simp only [List.length_drop, List.length_take]; rfl)) ?_; (with_reducible refine (script_Parse.calls k (a0.extract 0 ((ji3) : Int).toNat) t242 t243 t244 _ ?side1 A6.out).mono ?_); (case side1 => exact GW.of_below HGW.out (by repeat (first | (with_reducible first | exact HB.out | apply below_alloc | apply pw_below_drewN | apply below_drew1) | exact HB.out))); rintro e w25 ⟨v245, rfl, ho0, hb⟩; refine ⟨_, rfl, ?_⟩; have n0_ := Aside0.mk (Kd.S_lower ho0 (below_size (by repeat (first | (with_reducible first | exact HB.out | apply below_alloc | apply pw_below_drewN | apply below_drew1) | exact HB.out)))); have n1_ := Aside0.mk (below_step (by repeat (first | (with_reducible first | exact HB.out | apply below_alloc | apply pw_below_drewN | apply below_drew1) | exact HB.out)) hb); clear HB; have HO246 := n0_; have HB := n1_; clear n0_ n1_; (try clear hb); (try clear hb2); (try clear hk); (try clear hi); (try clear ho0)) | ((with_reducible refine gate_callee (f := 6) rfl ?_); refine goesL_ (some 24) rfl rfl Tryz.func6 (by kernel_rfl) rfl #[.string (a0.extract 0 ((ji3) : Int).toNat)] rfl (by (try simp only [List.map_toArray, List.map_cons, List.map_nil]); first | done | (simp only [hji3]; rfl) | rfl | (simp only [List.length_drop, List.length_take]; rfl)) ?_; (with_reducible refine (carcanetref25_Parse.calls k (a0.extract 0 ((ji3) : Int).toNat) t247 t248 t249 _ A7.out).mono ?_); rintro e w26 ⟨v250, rfl, ho0, hb⟩; refine ⟨_, rfl, ?_⟩; have n0_ := Aside0.mk (Kd.S_below (by (with_reducible repeat (first | apply Kd.S_alloc | apply Kd.S_drewN | apply Kd.S_drew)); exact HO246.out) hb); have n1_ := Aside0.mk (Kd.S_lower ho0 (below_size (by repeat (first | (with_reducible first | exact HB.out | apply below_alloc | apply pw_below_drewN | apply below_drew1) | exact HB.out)))); have n2_ := Aside0.mk (below_step (by repeat (first | (with_reducible first | exact HB.out | apply below_alloc | apply pw_below_drewN | apply below_drew1) | exact HB.out)) hb); clear HO246; clear HB; have HO246 := n0_; have HO251 := n1_; have HB := n2_; clear n0_ n1_ n2_; (try clear hb); (try clear hb2); (try clear hk); (try clear hi); (try clear ho0)))
    go_ret
    exact ⟨by first | rfl | (simp [errW_none, errW_some] <;> rfl) | (simp only [← hji3]; first | rfl | (simp [errW_none, errW_some] <;> rfl)) | (simp [*, errW_none, errW_some] <;> rfl), by repeat (first | (with_reducible first | exact HB.out | apply below_alloc | apply pw_below_drewN | apply below_drew1) | exact HB.out)⟩
  ·rw [if_neg c5] at H
   exact absurd H (by simp)
 ·rw [if_neg c4] at H
  exact absurd H (by simp)

end Go.Proofs.YtmdmdbiinngneaaGreatDoor.Q
