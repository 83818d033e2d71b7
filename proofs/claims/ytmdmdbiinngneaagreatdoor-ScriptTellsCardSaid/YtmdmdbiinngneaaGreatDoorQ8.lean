-- Laid by prx.py (ours), out of the translation's print. Not trusted: Lean checks it.
import Derived.Test.YtmdmdbiinngneaaGreatDoorQ0
import Derived.Test.YtmdmdbiinngneaaGreatDoorQ1
import Derived.Test.YtmdmdbiinngneaaGreatDoorQ7
import Derived.Shelf.SlSortCmp.NoneTotal
import Derived.WalkSmall
import Derived.OneCell
import Derived.Outline
import Derived.Lib.Hide
import Derived.BigQuiet
import Derived.Test.YtmdmdbiinngneaaGreatDoorShelf
namespace Go.Proofs.YtmdmdbiinngneaaGreatDoor.Q
open Go.RowKit Go.Proofs.YtmdmdbiinngneaaGreatDoorW.PrintWords Go.Proofs.YtmdmdbiinngneaaGreatDoorW.PrintLast Go.Proofs.YtmdmdbiinngneaaGreatDoorW.PrintMore
attribute [local go_sem] max2_int min2_int max_two min_two max_three min_three max_four min_four   -- for this text's walks alone
set_option linter.unusedVariables false
set_option linter.unusedSimpArgs false

/-! ### HAND graph_Normal: function 32 -/
def cmp3 (a b : Int) : Int := if a < b then -1 else if b < a then 1 else 0
theorem cmp_Compare_cmp3 (a b : Int) : cmp_Compare_int.f a b = some (cmp3 a b) := by
  unfold cmp_Compare_int.f cmp3 cmp_isNaN_int.f
  simp only [bne_self_eq_false, Option.bind_some, Bool.false_eq_true, if_false]
  by_cases h1 : a < b
  · simp [h1]
  · by_cases h2 : b < a <;> simp [h1, h2]
def cmpEdge (x y : S64) : Int := if cmp3 x.f0 y.f0 = 0 then cmp3 x.f1 y.f1 else cmp3 x.f0 y.f0
theorem cmp_Or_two (a b : Int) : cmp_Or_int.f 4 [a, b] = some (if a = 0 then b else a) := by
  unfold cmp_Or_int.f
  simp only [cmp_Or_int.l0]
  by_cases ha : a = 0
  · subst ha
    by_cases hb : b = 0
    · subst hb; simp [rd, wrap64]
    · simp [rd, wrap64, hb]
  · simp [rd, wrap64, ha]
/-- The world has grown by blocks, some orders having been drawn. -/
def GrowsTo (w w' : World) : Prop := ∃ q os, w' = Sort.grow (w.drewN q) os
theorem GrowsTo.refl (w : World) : GrowsTo w w := ⟨0, #[], by rw [Sort.grow_empty]; rfl⟩
theorem GrowsTo.drew {w w' : World} (h : GrowsTo w w') : GrowsTo w w'.drew := by
  obtain ⟨q, os, rfl⟩ := h
  exact ⟨q + 1, os, rfl⟩
theorem GrowsTo.drewN {w w' : World} (h : GrowsTo w w') (n : Nat) : GrowsTo w (w'.drewN n) := by
  obtain ⟨q, os, rfl⟩ := h
  exact ⟨q + n, os, by rw [← World.drewN_drewN]; rfl⟩
theorem GrowsTo.alloc {w w' : World} (h : GrowsTo w w') (o : Obj) : GrowsTo w (w'.alloc o) := by
  obtain ⟨q, os, rfl⟩ := h
  exact ⟨q, os ++ #[o], by rw [Sort.alloc_eq_grow, Sort.grow_grow]⟩
set_option maxHeartbeats 8000000 in
set_option maxRecDepth 100000 in
theorem compare_grow (k : Nat) (a0_0 a0_1 a1_0 a1_1 : Int) (w : World) (t108 t109 t113 : Int) (A3 : Aside0 (cmp_Compare_int.f a0_0 a1_0 = some t108)) (A4 : Aside0 (cmp_Compare_int.f a0_1 a1_1 = some t109)) (A5 : Aside0 (cmp_Or_int.f k [t108, t109] = some t113)) :
    Calls Tryz.prog 51 #[.agg #[.int .i64 a0_0, .int .i64 a0_1], .agg #[.int .i64 a1_0, .int .i64 a1_1]] w fun e w' => e = .returned (.int .i64 t113) ∧ GrowsTo w w' := by
  have hu39 := Tryz.underlying64
  go_enter Tryz.func51, Tryz.ntmps51
  go_wp2
  have HGR0 := Aside0.mk (((GrowsTo.refl w).alloc (.cells #[.int .i64 a0_0, .int .i64 a0_1] 64)).alloc (.cells #[.int .i64 a1_0, .int .i64 a1_1] 64))
  have BK106 : Aside0 (((w.alloc (.cells #[.int .i64 a0_0, .int .i64 a0_1] 64)).alloc (.cells #[.int .i64 a1_0, .int .i64 a1_1] 64)).heap[w.heap.size]? = some (.cells #[.int .i64 a0_0, .int .i64 a0_1] 64 (0, 0))) := ⟨heap_alloc2_old w _ _⟩
  have BK107 : Aside0 (((w.alloc (.cells #[.int .i64 a0_0, .int .i64 a0_1] 64)).alloc (.cells #[.int .i64 a1_0, .int .i64 a1_1] 64)).heap[w.heap.size + 1]? = some (.cells #[.int .i64 a1_0, .int .i64 a1_1] 64 (0, 0))) := ⟨heap_alloc2_new w _ _⟩
  generalize (w.alloc (.cells #[.int .i64 a0_0, .int .i64 a0_1] 64)).alloc (.cells #[.int .i64 a1_0, .int .i64 a1_1] 64) = w7 at HGR0 BK106 BK107 ⊢
  refine start_ (n := 13) (S := fun w' => w'.cell? ⟨w.heap.size, 0, none⟩ = some (.int .i64 a0_0) ∧ w'.cell? ⟨w.heap.size, 1, none⟩ = some (.int .i64 a0_1) ∧ w'.cell? ⟨w.heap.size + 1, 0, none⟩ = some (.int .i64 a1_0) ∧ w'.cell? ⟨w.heap.size + 1, 1, none⟩ = some (.int .i64 a1_1)) (ds := []) #[false, false, false, false, false, false, false, false, false, false, false, false, false] (by kernel_rfl) rfl rfl ⟨(blk_cell BK106.out 0).trans rfl, (blk_cell BK106.out 1).trans rfl, (blk_cell BK107.out 0).trans rfl, (blk_cell BK107.out 1).trans rfl⟩ (fun hHeld => ?_); refine with_tabW graph_compare.tab1 graph_compare.bits1 (fun HT_ HW_ => ?_)
  generalize hw8 : w7.drew = w8 at hHeld ⊢
  replace BK106 := (show Aside0 (w8.heap[w.heap.size]? = some (.cells #[.int .i64 a0_0, .int .i64 a0_1] 64 (0, 0))) from hw8 ▸ BK106)
  replace BK107 := (show Aside0 (w8.heap[w.heap.size + 1]? = some (.cells #[.int .i64 a1_0, .int .i64 a1_1] 64 (0, 0))) from hw8 ▸ BK107)
  have HGR := Aside0.mk (show GrowsTo w w8 from hw8 ▸ HGR0.out.drew)
  clear hw8
  refine pure_ (i := 0) (N := some 5) (v := ?_) (a' := ?_) #[true, false, false, false, false, false, false, false, false, false, false, false, false] rfl rfl (any_of HT_.out (by kernel_rfl)) (fun _ _ _ h => h) (Or.inl ⟨by rfl, ?_⟩) ?_ ?_
  rotate_left
  · intro w'
    go_simp
    with_reducible rfl
  rotate_left
  · simp only [Act.put, List.setIfInBounds_toArray, List.set_cons_zero, List.set_cons_succ, i64_w, i32_w]
    rfl
  refine pure_ (i := 2) (N := some 7) (v := ?_) (a' := ?_) #[true, false, true, false, false, false, false, false, false, false, false, false, false] rfl rfl (any_of HT_.out (by kernel_rfl)) (fun _ _ _ h => h) (Or.inl ⟨by rfl, ?_⟩) ?_ ?_
  rotate_left
  · intro w'
    go_simp
    with_reducible rfl
  rotate_left
  · simp only [Act.put, List.setIfInBounds_toArray, List.set_cons_zero, List.set_cons_succ, i64_w, i32_w]
    rfl
  refine pure_ (i := 5) (N := some 10) (v := ?_) (a' := ?_) #[true, false, true, false, false, true, false, false, false, false, false, false, false] rfl rfl (any_of HT_.out (by kernel_rfl)) (fun _ _ _ h => h) (Or.inl ⟨by rfl, ?_⟩) ?_ ?_
  rotate_left
  · intro w'
    go_simp
    with_reducible rfl
  rotate_left
  · simp only [Act.put, List.setIfInBounds_toArray, List.set_cons_zero, List.set_cons_succ, i64_w, i32_w]
    rfl
  refine pure_ (i := 7) (N := some 12) (v := ?_) (a' := ?_) #[true, false, true, false, false, true, false, true, false, false, false, false, false] rfl rfl (any_of HT_.out (by kernel_rfl)) (fun _ _ _ h => h) (Or.inl ⟨by rfl, ?_⟩) ?_ ?_
  rotate_left
  · intro w'
    go_simp
    with_reducible rfl
  rotate_left
  · simp only [Act.put, List.setIfInBounds_toArray, List.set_cons_zero, List.set_cons_succ, i64_w, i32_w]
    rfl
  refine take_ (i := 1) (N := some 6) (v := ?_) (a' := ?_) #[true, true, true, false, false, true, false, true, false, false, false, false, false] rfl rfl (take_ofW HT_.out HW_.out (by kernel_rfl)) (fun _ _ _ h => h) (Or.inl ⟨by rfl, ?_⟩) hHeld ?_ ?_
  rotate_left
  · rintro w' ⟨s0, s1, s2, s3⟩
    go_simp
    with_reducible rfl
  rotate_left
  · simp only [Act.put, List.setIfInBounds_toArray, List.set_cons_zero, List.set_cons_succ, i64_w, i32_w]
    rfl
  refine take_ (i := 3) (N := some 8) (v := ?_) (a' := ?_) #[true, true, true, true, false, true, false, true, false, false, false, false, false] rfl rfl (take_ofW HT_.out HW_.out (by kernel_rfl)) (fun _ _ _ h => h) (Or.inl ⟨by rfl, ?_⟩) hHeld ?_ ?_
  rotate_left
  · rintro w' ⟨s0, s1, s2, s3⟩
    go_simp
    with_reducible rfl
  rotate_left
  · simp only [Act.put, List.setIfInBounds_toArray, List.set_cons_zero, List.set_cons_succ, i64_w, i32_w]
    rfl
  refine take_ (i := 6) (N := some 11) (v := ?_) (a' := ?_) #[true, true, true, true, false, true, true, true, false, false, false, false, false] rfl rfl (take_ofW HT_.out HW_.out (by kernel_rfl)) (fun _ _ _ h => h) (Or.inl ⟨by rfl, ?_⟩) hHeld ?_ ?_
  rotate_left
  · rintro w' ⟨s0, s1, s2, s3⟩
    go_simp
    with_reducible rfl
  rotate_left
  · simp only [Act.put, List.setIfInBounds_toArray, List.set_cons_zero, List.set_cons_succ, i64_w, i32_w]
    rfl
  refine take_ (i := 8) (N := some 13) (v := ?_) (a' := ?_) #[true, true, true, true, false, true, true, true, true, false, false, false, false] rfl rfl (take_ofW HT_.out HW_.out (by kernel_rfl)) (fun _ _ _ h => h) (Or.inl ⟨by rfl, ?_⟩) hHeld ?_ ?_
  rotate_left
  · rintro w' ⟨s0, s1, s2, s3⟩
    go_simp
    with_reducible rfl
  rotate_left
  · simp only [Act.put, List.setIfInBounds_toArray, List.set_cons_zero, List.set_cons_succ, i64_w, i32_w]
    rfl
  refine one_ (i := 4) (N := some 9) #[true, true, true, true, true, true, true, true, true, false, false, false, false] rfl rfl (one_of HT_.out (by kernel_rfl)) (by decide) (fun K hK => ?_)
  refine goes_ Tryz.func70 (by kernel_rfl) rfl #[.int .i64 a0_0, .int .i64 a1_0] (by rfl) rfl rfl (by (try simp only [List.map_toArray, List.map_cons, List.map_nil]); first | done | rfl | (simp only [List.length_drop, List.length_take]; rfl)) ?_
  with_reducible refine (cmp_Compare_int.calls a0_0 a1_0 t108 _ A3.out).mono ?_
  rintro e w' ⟨rfl, ⟨n1, rfl⟩⟩
  refine ⟨_, rfl, ?_⟩
  refine hK.out _ _ ⟨(blk_cell BK106.out 0).trans rfl, (blk_cell BK106.out 1).trans rfl, (blk_cell BK107.out 0).trans rfl, (blk_cell BK107.out 1).trans rfl⟩ (fun hHeld => ?_)
  clear hK K
  refine norm_ (a' := ?_) ?_ ?_
  rotate_left
  · show Act.put _ (some 9) _ = _
    simp only [Act.put, List.setIfInBounds_toArray, List.set_cons_zero, List.set_cons_succ, i64_w, i32_w]
    rfl
  refine one_ (i := 9) (N := some 14) #[true, true, true, true, true, true, true, true, true, true, false, false, false] rfl rfl (one_of HT_.out (by kernel_rfl)) (by decide) (fun K hK => ?_)
  refine goes_ Tryz.func70 (by kernel_rfl) rfl #[.int .i64 a0_1, .int .i64 a1_1] (by rfl) rfl rfl (by (try simp only [List.map_toArray, List.map_cons, List.map_nil]); first | done | rfl | (simp only [List.length_drop, List.length_take]; rfl)) ?_
  with_reducible refine (cmp_Compare_int.calls a0_1 a1_1 t109 _ A4.out).mono ?_
  rintro e w' ⟨rfl, ⟨n2, rfl⟩⟩
  refine ⟨_, rfl, ?_⟩
  refine hK.out _ _ ⟨(blk_cell BK106.out 0).trans rfl, (blk_cell BK106.out 1).trans rfl, (blk_cell BK107.out 0).trans rfl, (blk_cell BK107.out 1).trans rfl⟩ (fun hHeld => ?_)
  clear hK K
  refine norm_ (a' := ?_) ?_ ?_
  rotate_left
  · show Act.put _ (some 14) _ = _
    simp only [Act.put, List.setIfInBounds_toArray, List.set_cons_zero, List.set_cons_succ, i64_w, i32_w]
    rfl
  refine one_ (i := 10) (N := some 15) #[true, true, true, true, true, true, true, true, true, true, true, false, false] rfl rfl (one_of HT_.out (by kernel_rfl)) (by decide) (fun K hK => ?_)
  refine event_step (v := .slice (some ⟨(World.drewN (World.drewN w8 n1) n2).heap.size, 0, none⟩) 2 2) (w1 := World.alloc (World.drewN (World.drewN w8 n1) n2) (.cells #[.int .i64 t108, .int .i64 t109] 3)) (by rfl) ?hr ?_; (case hr => first | (go_simp; done) | (go_simp; rfl))
  have HL9 := Aside0.mk (World.ownsRow_lit (base := 0) (e := 3) (size := 1) (World.drewN (World.drewN w8 n1) n2) #[.int .i64 t108, .int .i64 t109] 2 (Nat.zero_le _) (by decide) rfl)
  have HGR9 := Aside0.mk (((HGR.out.drewN n1).drewN n2).alloc (.cells #[.int .i64 t108, .int .i64 t109] 3))
  replace BK106 := Aside0.mk (blk_below (g := w.heap.size) (o := .cells #[.int .i64 a0_0, .int .i64 a0_1] 64 (0, 0)) (w := World.drewN (World.drewN w8 n1) n2) BK106.out (below_alloc (Below.refl _ _) (.cells #[.int .i64 t108, .int .i64 t109] 3)))
  replace BK107 := Aside0.mk (blk_below (g := w.heap.size + 1) (o := .cells #[.int .i64 a1_0, .int .i64 a1_1] 64 (0, 0)) (w := World.drewN (World.drewN w8 n1) n2) BK107.out (below_alloc (Below.refl _ _) (.cells #[.int .i64 t108, .int .i64 t109] 3)))
  have HC9 : Aside0 (Kd.C (Kd.int .i64) (World.alloc (World.drewN (World.drewN w8 n1) n2) (.cells #[.int .i64 t108, .int .i64 t109] 3)) (some ⟨(World.drewN (World.drewN w8 n1) n2).heap.size, 0, none⟩) 2 [t108, t109]) := by
    obtain ⟨A, c, he, hr⟩ := own_reads (k := .i64) (xs := [t108, t109]) (by simpa [nums] using HL9.out)
    injection he with h1 h2 h3
    subst h1
    exact ⟨Kd.C_of_reads (d := 0) hr⟩
  refine hK.out _ _ ⟨(blk_cell BK106.out 0).trans rfl, (blk_cell BK106.out 1).trans rfl, (blk_cell BK107.out 0).trans rfl, (blk_cell BK107.out 1).trans rfl⟩ (fun hHeld => ?_)
  clear hK K
  refine norm_ (a' := ?_) ?_ ?_
  rotate_left
  · show Act.put _ (some 15) _ = _
    simp only [Act.put, List.setIfInBounds_toArray, List.set_cons_zero, List.set_cons_succ, i64_w, i32_w]
    rfl
  refine one_ (i := 11) (N := some 16) #[true, true, true, true, true, true, true, true, true, true, true, true, false] rfl rfl (one_of HT_.out (by kernel_rfl)) (by decide) (fun K hK => ?_)
  refine goes_ Tryz.func69 (by kernel_rfl) rfl #[.slice (some ⟨(World.drewN (World.drewN w8 n1) n2).heap.size, 0, none⟩) 2 2] (by rfl) rfl rfl (by (try simp only [List.map_toArray, List.map_cons, List.map_nil]); first | done | rfl | (simp only [List.length_drop, List.length_take]; rfl)) ?_
  with_reducible refine (show Calls Tryz.prog 69 #[.slice (some ⟨(World.drewN (World.drewN w8 n1) n2).heap.size, 0, none⟩) 2 2] _ _ from cmp_Or_int.calls k _ 2 [t108, t109] t113 _ HC9.out (Nat.le_refl _) A5.out).mono ?_
  rintro e w' ⟨rfl, ⟨n3, rfl⟩⟩
  refine ⟨_, rfl, ?_⟩
  refine hK.out _ _ ⟨(blk_cell BK106.out 0).trans rfl, (blk_cell BK106.out 1).trans rfl, (blk_cell BK107.out 0).trans rfl, (blk_cell BK107.out 1).trans rfl⟩ (fun hHeld => ?_)
  clear hK K
  refine norm_ (a' := ?_) ?_ ?_
  rotate_left
  · show Act.put _ (some 16) _ = _
    simp only [Act.put, List.setIfInBounds_toArray, List.set_cons_zero, List.set_cons_succ, i64_w, i32_w]
    rfl
  refine pure_ (i := 12) (N := some 4) (v := ?_) (a' := ?_) #[true, true, true, true, true, true, true, true, true, true, true, true, true] rfl rfl (any_of HT_.out (by kernel_rfl)) (fun _ _ _ h => h) (Or.inl ⟨by rfl, ?_⟩) ?_ ?_
  rotate_left
  · intro w'
    go_simp
    with_reducible rfl
  rotate_left
  · simp only [Act.put, List.setIfInBounds_toArray, List.set_cons_zero, List.set_cons_succ, i64_w, i32_w]
    rfl
  refine done_ (done_of HT_.out (by kernel_rfl)) ?_
  try go_wp2
  go_ret
  exact ⟨rfl, by have h9 := HGR9.out.drewN n3; rw [World.drewN_drewN] at h9; exact h9⟩
theorem compare_exact (x y : S64) (w : World) : Calls Tryz.prog 51 #[.agg #[.int .i64 x.f0, .int .i64 x.f1], .agg #[.int .i64 y.f0, .int .i64 y.f1]] w fun e w' => e = .returned (.int .i64 (cmpEdge x y)) ∧ GrowsTo w w' :=
  compare_grow 4 _ _ _ _ w _ _ _ ⟨cmp_Compare_cmp3 _ _⟩ ⟨cmp_Compare_cmp3 _ _⟩ ⟨cmp_Or_two _ _⟩
theorem GrowsTo.trans {w w1 w2 : World} (h : GrowsTo w w1) (k : GrowsTo w1 w2) : GrowsTo w w2 := by
  obtain ⟨q, os, rfl⟩ := h
  obtain ⟨q', os', rfl⟩ := k
  exact ⟨q + q', os ++ os', by rw [← World.drewN_drewN, ← Sort.grow_grow]; rfl⟩
set_option maxHeartbeats 1000000 in
set_option maxRecDepth 100000 in
theorem normal_cmp (x y : S64) (w : World) : Calls Tryz.prog 50 #[.agg #[.int .i64 x.f0, .int .i64 x.f1], .agg #[.int .i64 y.f0, .int .i64 y.f1]] w fun e w' => e = .returned (.int .i64 (cmpEdge x y)) ∧ GrowsTo w w' := by
  have hu39 := Tryz.underlying64
  go_enter Tryz.func50, Tryz.ntmps50
  go_wp2_with (go_at_call 51; refine (compare_exact x y _).mono ?_; rintro e w' ⟨rfl, hg⟩; have HG := Aside0.mk hg; clear hg)
  go_ret
  exact ⟨rfl, (((GrowsTo.refl w).alloc _).alloc _).trans HG.out⟩
attribute [local go_sem high] eqA64
def sameE (x y : S64) : Bool := x.f0 == y.f0 && x.f1 == y.f1
def compactGo (p : S64) : List S64 → List S64
  | [] => []
  | y :: r => if sameE y p then compactGo y r else y :: compactGo y r
def compactE : List S64 → List S64
  | [] => []
  | x :: r => x :: compactGo x r
theorem rd39_lt (xs : List S64) (k : Nat) (h : k < xs.length) : rd_T64 xs (k : Int) = xs[k] := by
  unfold rd_T64; rw [Int.toNat_natCast, List.getD_eq_getElem?_getD, List.getElem?_eq_getElem h]; rfl
structure OutInv (xs : List S64) (k : Nat) : Prop where
  lo : 1 ≤ k
  hi : k ≤ xs.length
  eq : xs.take k ++ compactGo (rd_T64 xs ((k : Int) - 1)) (xs.drop k) = compactE xs
structure InInv (xs : List S64) (m k : Nat) (row : List S64) : Prop where
  lo : 1 ≤ m
  hi : m ≤ xs.length
  k1 : 1 ≤ k
  km : k < m
  len : row.length = xs.length
  keep : ∀ j, m ≤ j + 1 → row[j]? = xs[j]?
  eq : row.take k ++ compactGo (rd_T64 xs ((m : Int) - 1)) (xs.drop m) = compactE xs
theorem OutInv.start {xs : List S64} (h : 2 ≤ xs.length) : OutInv xs 1 := by
  cases xs with
  | nil => simp at h
  | cons x r => exact ⟨Nat.le_refl _, by simp, by simp [compactE, rd_T64]⟩
theorem rd_pred (xs : List S64) (k : Nat) (h1 : 1 ≤ k) (h : k ≤ xs.length) : rd_T64 xs ((k : Int) - 1) = xs[k - 1]'(by omega) := by
  have : ((k : Int) - 1) = ((k - 1 : Nat) : Int) := by omega
  rw [this, rd39_lt]
theorem OutInv.next {xs : List S64} {k : Nat} (h : OutInv xs k) (hk : k < xs.length) (hn : sameE (rd_T64 xs k) (rd_T64 xs ((k : Int) - 1)) = false) : OutInv xs (k + 1) := by
  refine ⟨by omega, hk, ?_⟩
  rw [← h.eq, List.drop_eq_getElem_cons hk, ← rd39_lt xs k hk]
  simp only [compactGo, hn, Bool.false_eq_true, if_false]
  rw [List.take_succ_eq_append_getElem hk, ← rd39_lt xs k hk]
  rw [show ((k + 1 : Nat) : Int) - 1 = (k : Int) by omega]
  simp
theorem OutInv.done {xs : List S64} (h : OutInv xs xs.length) : compactE xs = xs := by
  rw [← h.eq]; simp [compactGo]
theorem OutInv.found {xs : List S64} {k : Nat} (h : OutInv xs k) (hk : k < xs.length) (hn : sameE (rd_T64 xs k) (rd_T64 xs ((k : Int) - 1)) = true) : InInv xs (k + 1) k xs := by
  refine ⟨by omega, hk, h.lo, by omega, rfl, fun _ _ => rfl, ?_⟩
  rw [← h.eq, List.drop_eq_getElem_cons hk, ← rd39_lt xs k hk]
  simp only [compactGo, hn, if_true]
  rw [show ((k + 1 : Nat) : Int) - 1 = (k : Int) by omega]
theorem InInv.same {xs row : List S64} {m k : Nat} (h : InInv xs m k row) (hm : m < xs.length) (hn : sameE (rd_T64 xs m) (rd_T64 xs ((m : Int) - 1)) = true) : InInv xs (m + 1) k row := by
  refine ⟨by omega, hm, h.k1, by have := h.km; omega, h.len, fun j hj => h.keep j (by omega), ?_⟩
  rw [← h.eq, List.drop_eq_getElem_cons hm, ← rd39_lt xs m hm]
  simp only [compactGo, hn, if_true]
  rw [show ((m + 1 : Nat) : Int) - 1 = (m : Int) by omega]
theorem InInv.other {xs row : List S64} {m k : Nat} (h : InInv xs m k row) (hm : m < xs.length) (hn : sameE (rd_T64 xs m) (rd_T64 xs ((m : Int) - 1)) = false) : InInv xs (m + 1) (k + 1) (row.set k (rd_T64 xs m)) := by
  have hk := h.km
  refine ⟨by omega, hm, by omega, by omega, by rw [List.length_set, h.len], fun j hj => ?_, ?_⟩
  · rw [List.getElem?_set_ne (by omega)]
    exact h.keep j (by omega)
  · rw [← h.eq, List.drop_eq_getElem_cons hm, ← rd39_lt xs m hm]
    simp only [compactGo, hn, Bool.false_eq_true, if_false]
    rw [show ((m + 1 : Nat) : Int) - 1 = (m : Int) by omega]
    have hkr : k < row.length := by rw [h.len]; omega
    rw [List.take_succ_eq_append_getElem (by rw [List.length_set]; exact hkr), List.getElem_set_self, List.take_set_of_le (Nat.le_refl _)]
    simp
theorem InInv.done {xs row : List S64} {k : Nat} (h : InInv xs xs.length k row) : row.take k = compactE xs := by
  rw [← h.eq]; simp [compactGo]
theorem InInv.at_ {xs row : List S64} {m k : Nat} (h : InInv xs m k row) (j : Nat) (hj : m ≤ j + 1) : rd_T64 row (j : Int) = rd_T64 xs (j : Int) := by
  unfold rd_T64
  rw [Int.toNat_natCast, List.getD_eq_getElem?_getD, List.getD_eq_getElem?_getD, h.keep j hj]
theorem inf39 : ∃ i, Tryz.prog.info? 64 = some i ∧ i.zero = some (.agg #[(.int .i64 0), (.int .i64 0)]) ∧ i.size = 2 ∧ i.bytes = 16 := by
  have h := info64
  revert h
  cases Tryz.prog.info? 64 with
  | none => simp
  | some i => simp
theorem zero39 (w : World) : (zeroValue 64).run Tryz.prog w = .ok (.agg #[(.int .i64 0), (.int .i64 0)]) w := by
  obtain ⟨i, hi, hz, _⟩ := inf39
  simp [zeroValue, typeInfo, hi, hz]
theorem cut39 (g n cap k : Nat) (hk : k < n) (hc : n ≤ cap) (W : World) :
    (Instr.slice 32 (.slice (some ⟨g, 0, none⟩) n cap) (some (.int .i64 (k : Int))) none none).run Tryz.prog W = .ok (.slice (some ⟨g, k * 2, none⟩) (n - k) (cap - k)) W := by
  obtain ⟨i, hi, _, hs, _⟩ := inf39
  have h := cut_from (P := Tryz.prog) 32 64 .i64 Tryz.underlying32 hi 2 hs (some ⟨g, 0, none⟩) n cap (k : Int) (by omega) (by omega) W
  rw [h, Int.toNat_natCast, if_neg (by omega)]
  simp [Addr.add_lit]
theorem cutto39 (g n cap k : Nat) (hk : k ≤ n) (hc : n ≤ cap) (W : World) :
    (Instr.slice 32 (.slice (some ⟨g, 0, none⟩) n cap) none (some (.int .i64 (k : Int))) none).run Tryz.prog W = .ok (.slice (some ⟨g, 0, none⟩) k cap) W := by
  obtain ⟨i, hi, _, hs, _⟩ := inf39
  have h := cut_to (P := Tryz.prog) 32 64 .i64 Tryz.underlying32 hi (some ⟨g, 0, none⟩) n cap (k : Int) (by omega) (by omega) hc W
  rw [h, Int.toNat_natCast]
theorem clear39 {W : World} {base g n cap k : Nat} {ok : Nat → Prop} {row : List S64} (HO : k64.R 64 W base ok (.slice (some ⟨g, 0, none⟩) n cap) row) (hk : k < n) :
    ∃ W', (∀ ty, (Builtin.clear_ #[32] ty #[.slice (some ⟨g, k * 2, none⟩) (n - k) (cap - k)]).run Tryz.prog W = .ok (.tuple #[]) W') ∧ k64.R 64 W' base ok (.slice (some ⟨g, 0, none⟩) k cap) (row.take k) ∧ W.grownBy W' (some g) := by
  have HT := Kd.R_take HO (m := k) (by have := (Kd.R_reads' HO).1; omega)
  obtain ⟨hn, hnc, _⟩ := Kd.R_reads' HO
  obtain ⟨_, inner0, hown, _⟩ := HO
  rcases hown.2 with ⟨hv, _⟩ | ⟨g', cap', cur, hv, hb, hh, hnc', hcm, hcs, htk⟩
  · cases hv
  injection hv with ha _ hc
  injection ha with ha
  injection ha with hg'
  subst hg'; subst hc
  have hsz : k64.sz = 2 := rfl
  rw [hsz] at hcs
  let zs : List Value := (Builtin.zeroCells (Value.agg #[(.int .i64 0), (.int .i64 0)]).cells (n - k)).toList
  have hzl : zs.length = (n - k) * 2 := by simp [zs, Builtin.zeroCells, Value.cells]
  have hz1 : ∀ v ∈ zs, v.oneCell' = true := by
    intro v hv
    simp only [zs, Builtin.zeroCells, Array.toList_map, List.mem_map] at hv
    obtain ⟨j, _, rfl⟩ := hv
    have hlt : j % (Value.agg #[(.int .i64 0), (.int .i64 0)]).cells.size < 2 := Nat.mod_lt _ (by decide)
    have : j % (Value.agg #[(.int .i64 0), (.int .i64 0)]).cells.size = 0 ∨ j % (Value.agg #[(.int .i64 0), (.int .i64 0)]).cells.size = 1 := by omega
    rcases this with h | h <;> rw [h] <;> rfl
  have hst := run_storeCells_cells (P := Tryz.prog) g (k * 2) zs 0 W (fun j hj => by rw [cell_of_row W g _ cur 64 (0, 0) hh]; simp; omega) (fun j _ => blk_frozen hh _) hz1
  simp only [Nat.add_zero] at hst
  obtain ⟨cur', h3, h4, h5⟩ := setCells_row zs (k * 2) W cur hh (by rw [hzl, hcs]; omega)
  obtain ⟨s1, s2, s3, s4⟩ := setCells_same g zs (k * 2) W
  refine ⟨W.setCells g (k * 2) zs, fun ty => ?_, ?_, ⟨s1, s2, s3, by rw [s4]; exact Nat.le_refl _, fun q _ hq => setCells_far _ _ q (fun he => hq (by rw [he]))⟩⟩
  · obtain ⟨m, hm⟩ : ∃ m, n - k = m + 1 := ⟨n - k - 1, by omega⟩
    have hzz : zs = (Builtin.zeroCells (Value.agg #[(.int .i64 0), (.int .i64 0)]).cells (m + 1)).toList := by rw [← hm]
    rw [hm]
    rw [hzz] at hst ⊢
    simp [Builtin.clear_, run_underlying Tryz.underlying32, zero39, hst]
  · obtain ⟨h0, inner, ho, hr⟩ := HT
    refine ⟨h0, inner, ?_, hr.imp_ (fun _ _ hp => by rw [k64_openM hp]; exact k64_mkM _ _ _ _)⟩
    refine ⟨ho.1, ?_⟩
    rcases ho.2 with ⟨hv2, _⟩ | ⟨g2, cap2, cur2, hv2, hb2, hh2, hnc2, hcm2, hcs2, htk2⟩
    · cases hv2
    injection hv2 with ha2 _ hc2
    injection ha2 with ha2
    injection ha2 with hg2
    subst hg2; subst hc2
    rw [hh] at hh2
    injection hh2 with hh2
    injection hh2 with hh2
    subst hh2
    have hlt : (row.take k).length = k := by rw [List.length_take]; omega
    refine .inr ⟨g, cap, cur', by rw [hlt], hb, h3, hnc2, hcm, by rw [h4]; exact hcs2, ?_⟩
    rw [← htk2, h5]
    rw [hlt, hsz, List.append_assoc, List.take_append_of_le_length (by rw [List.length_take, Array.length_toList]; omega), List.take_take, Nat.min_self]

theorem eqb39 (x y : S64) (d : Nat) (w : World) : (Op.equalIn (d + 2) 64 (.agg #[.int .i64 x.f0, .int .i64 x.f1]) (.agg #[.int .i64 y.f0, .int .i64 y.f1])).run Tryz.prog w = .ok (sameE x y) w := eqA64 d w _ _ _ _
set_option maxHeartbeats 4000000 in
set_option maxRecDepth 100000 in
theorem compact_calls (base : Nat) (ok : Nat → Prop) (v : Value) (xs : List S64) (w : World) (hl : xs.length ≤ 1000000000000) (hbase : base ≤ w.heap.size) (HO : k64.R 64 w base ok v xs) :
    Calls Tryz.prog 52 #[v] w fun e w' => ∃ v', e = .returned v' ∧ k64.R 64 w' base ok v' (compactE xs) ∧ Below base w w' := by
  have hu39 := Tryz.underlying64
  obtain ⟨A, c, rfl⟩ := Kd.R_slice HO
  by_cases h2 : xs.length < 2
  · have b2 : decide ((xs.length : Int) < 2) = true := decide_eq_true (by omega)
    have HO' := Aside0.mk HO
    clear HO
    have HX : compactE xs = xs := by
      match xs, h2 with
      | [], _ => rfl
      | [x], _ => rfl
      | x :: y :: r, h2 => simp at h2; omega
    go_enter Tryz.func52, Tryz.ntmps52
    go_wp2
    go_ret
    exact ⟨_, rfl, by rw [HX]; exact HO'.out, Below.refl _ _⟩
  · have b2 : decide ((xs.length : Int) < 2) = false := decide_eq_false (by omega)
    obtain ⟨g, cap, hv, hbg, hgw, cells, hcells⟩ := Kd.R_form HO (by omega)
    injection hv with hA _ hc
    subst hA; subst hc
    have HCAP := (Kd.R_reads' HO).2.1
    have HO' := Aside0.mk HO
    clear HO
    have HN := Aside0.mk hl
    have HBB := Aside0.mk (And.intro hbase hbg)
    clear hl hbase hbg hgw hcells
    have HST := Aside0.mk (OutInv.start (xs := xs) (by omega))
    clear h2
    go_enter Tryz.func52, Tryz.ntmps52
    go_wp2
    go_loopg [3] xs.length (fun kq v3 wr => ∃ (k : Nat), v3 = .int .i64 (k : Int) ∧ Aside0 (OutInv xs k) ∧ Aside0 (xs.length ≤ k + kq) ∧ Aside0 (k64.R 64 wr base ok (.slice (some ⟨g, 0, none⟩) xs.length c) xs) ∧ Aside0 (Below base w wr))
    case atStart => exact ⟨1, rfl, HST, ⟨by omega⟩, HO', ⟨Below.refl _ _⟩⟩
    case round =>
      clear HST HO'
      obtain ⟨k, rfl, HI, HQ, HO, HB⟩ := hrel
      by_cases hk : k < xs.length
      · cases gk with
        | zero => exact absurd HQ.out (by omega)
        | succ kq =>
        have hn1 := HN.out
        have hk1 := HI.out.lo
        have HC := Aside0.mk ((Kd.R_reads' HO.out).2.2)
        obtain ⟨j, hj⟩ : ∃ j : Nat, (k : Int) - 1 = (j : Int) := ⟨k - 1, by omega⟩
        have hjl : j < xs.length := by omega
        obtain ⟨ad, hA, hx0, hx1⟩ := at_T64 HC.out (k : Int) (by omega) (by omega)
        injection hA with hA
        subst hA
        obtain ⟨ad, hA, hy0, hy1⟩ := at_T64 HC.out (j : Int) (by omega) (by omega)
        injection hA with hA
        subst hA
        rw [Int.toNat_natCast] at hx0 hx1 hy0 hy1
        simp only [Addr.add_lit, Nat.zero_add] at hx0 hx1 hy0 hy1
        have hw1 : IntKind.i64.wrap ((k : Int) - 1) = (j : Int) := (wrap_small _ (by omega) (by omega)).trans hj
        have hw2 : IntKind.i64.wrap ((k : Int) + 1) = ((k + 1 : Nat) : Int) := by rw [wrap_small _ (by omega) (by omega)]; rfl
        have HJ := Aside0.mk hj
        by_cases hs : sameE (rd_T64 xs k) (rd_T64 xs (j : Int)) = true
        · have HF := Aside0.mk (HI.out.found hk (by rw [hj]; exact hs))
          clear hj
          unfold sameE at hs
          have hcut := cut39 g xs.length c k hk HCAP
          have hkk : k ≤ 1000000000000 := by omega
          obtain ⟨L, hL⟩ : ∃ L, xs.length - k = L := ⟨_, rfl⟩
          rw [hL] at hcut
          have HLL := Aside0.mk hL
          clear hL
          clear HI
          go_wp2
          go_quiet (fail)
          go_wp2
          go_loopg [5, 3] xs.length (fun kq v5 v3 wr2 => ∃ (k2 k' : Nat) (row : List S64), v5 = .int .i64 (k2 : Int) ∧ v3 = .int .i64 (k' : Int) ∧ Aside0 (InInv xs (k + k2) k' row) ∧ Aside0 (1 ≤ k2) ∧ Aside0 (xs.length ≤ k + k2 + kq) ∧ Aside0 (k64.R 64 wr2 base ok (.slice (some ⟨g, 0, none⟩) xs.length c) row) ∧ Aside0 (Below base w wr2))
          case atStart => exact ⟨1, k, xs, rfl, rfl, HF, ⟨Nat.le_refl _⟩, ⟨by omega⟩, ⟨Kd.R_drewN HO.out _⟩, ⟨pw_below_drewN HB.out _⟩⟩
          case round =>
            clear HF HO HB HC HQ hx0 hx1 hy0 hy1 hs
            obtain ⟨k2, k', row, rfl, rfl, HI, H1, HQ, HO, HB⟩ := hrel
            by_cases hm : k2 < L
            · cases gk with
              | zero => exact absurd HQ.out (by have := HLL.out; omega)
              | succ kq2 =>
              have hk21 := H1.out
              have HC := Aside0.mk ((Kd.R_reads' HO.out).2.2)
              have hlen := HI.out.len
              have hkm := HI.out.km
              have hLL := HLL.out
              have hk'l : k' < xs.length := by omega
              obtain ⟨j2, hj2⟩ : ∃ j2 : Nat, (k2 : Int) - 1 = (j2 : Int) := ⟨k2 - 1, by omega⟩
              have hj2l : j2 < L := by omega
              obtain ⟨ad, hA, hx0, hx1⟩ := at_T64 HC.out ((k + k2 : Nat) : Int) (by omega) (by omega)
              injection hA with hA
              subst hA
              obtain ⟨ad, hA, hy0, hy1⟩ := at_T64 HC.out ((k + j2 : Nat) : Int) (by omega) (by omega)
              injection hA with hA
              subst hA
              rw [Int.toNat_natCast, HI.out.at_ _ (by omega)] at hx0 hx1 hy0 hy1
              simp only [Addr.add_lit, Nat.zero_add, Nat.add_mul] at hx0 hx1 hy0 hy1
              have hw3 : IntKind.i64.wrap ((k2 : Int) - 1) = (j2 : Int) := (wrap_small _ (by omega) (by omega)).trans hj2
              have hw4 : IntKind.i64.wrap ((k2 : Int) + 1) = ((k2 + 1 : Nat) : Int) := by rw [wrap_small _ (by omega) (by omega)]; rfl
              have hw5 : IntKind.i64.wrap ((k' : Int) + 1) = ((k' + 1 : Nat) : Int) := by rw [wrap_small _ (by omega) (by omega)]; rfl
              have hpm : ((k + k2 : Nat) : Int) - 1 = ((k + j2 : Nat) : Int) := by omega
              have HPM := Aside0.mk hpm
              have HM := Aside0.mk (show k + k2 < xs.length by omega)
              clear hlen hLL hpm hj2 HC hkm
              by_cases hs : sameE (rd_T64 xs ((k + k2 : Nat) : Int)) (rd_T64 xs ((k + j2 : Nat) : Int)) = true
              · have HNX := Aside0.mk (HI.out.same HM.out (by rw [HPM.out]; exact hs))
                unfold sameE at hs
                generalize hgx : rd_T64 xs ((k + k2 : Nat) : Int) = X at hx0 hx1 hs
                generalize hgy : rd_T64 xs ((k + j2 : Nat) : Int) = Y at hy0 hy1 hs
                clear hgx hgy
                have hs2 : (!(X.f0 == Y.f0 && X.f1 == Y.f1)) = false := by rw [hs]; rfl
                go_wp2
                go_quiet (fail)
                go_wp2
                go_roundg kq2
                case measure => omega
                case rel => exact ⟨k2 + 1, k', row, rfl, rfl, HNX, ⟨by omega⟩, ⟨by have := HQ.out; omega⟩, ⟨Kd.R_drewN HO.out _⟩, ⟨pw_below_drewN HB.out _⟩⟩
              · have hs' : sameE (rd_T64 xs ((k + k2 : Nat) : Int)) (rd_T64 xs ((k + j2 : Nat) : Int)) = false := by simpa using hs
                clear hs
                have HNX := Aside0.mk (HI.out.other HM.out (by rw [HPM.out]; exact hs'))
                unfold sameE at hs'
                generalize hgx : rd_T64 xs ((k + k2 : Nat) : Int) = X at hx0 hx1 hs' HNX
                generalize hgy : rd_T64 xs ((k + j2 : Nat) : Int) = Y at hy0 hy1 hs'
                clear hgx hgy
                have hs2 : (!(X.f0 == Y.f0 && X.f1 == Y.f1)) = true := by rw [hs']; rfl
                have HB0 := HBB.out.1
                have HBW : base ≤ wr.heap.size := Nat.le_trans HB0 HB.out.size
                clear HB0
                obtain ⟨cs, hcl, _, hcc, _⟩ := Kd.R_elem HO.out z64 (k' : Int) (by omega) (by omega)
                have HCS := Aside0.mk (And.intro hcl hcc)
                clear hcl hcc
                go_wp2
                go_quiet (fail)
                go_wp2_with (first | ((with_reducible refine gate_ (.store 64 (.tmp 51) (.tmp 50)) rfl ?_); refine Kd.R_store k64 (w0 := w) base rfl rfl 64 (.tmp 51) (.tmp 50) rfl 64 (g := g) (n := xs.length) (cap := c) (k' : Int) 0 row X (.agg #[.int .i64 X.f0, .int .i64 X.f1]) [.int .i64 X.f0, .int .i64 X.f1] cs ok (fun _ => False) rfl (by rw [Int.toNat_natCast]; rfl) rfl rfl (by rfl) (by intro q hq; simp at hq; rcases hq with rfl | rfl <;> rfl) (Kd.R_drewN HO.out _) (by omega) (by omega) HCS.out.1 HCS.out.2 (Nat.le_refl _) (by have h9 := HCS.out.1; have : cs.drop 2 = [] := List.drop_eq_nil_of_le (by rw [h9]; exact Nat.le_refl 2); show k64.M _ _ _ X (List.take 0 cs ++ [.int .i64 X.f0, .int .i64 X.f1] ++ cs.drop 2); rw [this]; exact k64_mkM _ _ _ X) (fun _ h => h.elim) (pw_below_drewN HB.out _) ?_; intro w5 ho5 hb5 hg5; rw [Int.toNat_natCast] at ho5; have HO5 := Aside0.mk ho5; have HB5 := Aside0.mk hb5; clear ho5 hb5 hg5))
                go_roundg kq2
                case measure => omega
                case rel => exact ⟨k2 + 1, k' + 1, row.set k' X, rfl, rfl, HNX, ⟨by omega⟩, ⟨by have := HQ.out; omega⟩, HO5, HB5⟩
            · have hme : k + k2 = xs.length := by have := HI.out.hi; have := HLL.out; omega
              have hkm := HI.out.km
              have HEQ := Aside0.mk ((InInv.done (hme ▸ HI.out)))
              have hk'l : k' < xs.length := by omega
              have hc1 := cut39 g xs.length c k' hk'l HCAP
              have hc2 := cutto39 g xs.length c k' (Nat.le_of_lt hk'l) HCAP
              obtain ⟨w6, hclr, hr6, hg6⟩ := clear39 HO.out hk'l
              have HR6 := Aside0.mk hr6
              have HB6 := Aside0.mk (show Below base w w6 from HB.out.grown hg6 (Nat.le_trans HBB.out.1 HB.out.size) (fun q hq => by injection hq with hq; rw [← hq]; exact HBB.out.2))
              clear hr6 hg6 hme hkm
              go_wp2
              go_ret
              exact ⟨_, rfl, HEQ.out ▸ HR6.out, HB6.out⟩
        · have HNX := Aside0.mk (HI.out.next hk (by rw [hj]; simpa using hs))
          clear hj
          have hs' := Bool.eq_false_iff.2 hs
          clear hs
          unfold sameE at hs'
          go_wp2
          go_quiet (fail)
          go_wp2
          go_roundg kq
          case measure => omega
          case rel => exact ⟨k + 1, rfl, HNX, ⟨by have := HQ.out; omega⟩, ⟨Kd.R_drewN HO.out _⟩, ⟨pw_below_drewN HB.out _⟩⟩
      · have hke : k = xs.length := by have := HI.out.hi; omega
        subst hke
        go_wp2
        go_ret
        exact ⟨_, rfl, by rw [HI.out.done]; exact HO.out, HB.out⟩
open Go.Sort
instance : Inhabited S64 := ⟨z64⟩
def encE (x : S64) : List Value := [.int .i64 x.f0, .int .i64 x.f1]
theorem ltOf_edge (x y : S64) : ltOf cmpEdge x y = (decide (x.f0 < y.f0) || (decide (x.f0 = y.f0) && decide (x.f1 < y.f1))) := by
  unfold ltOf cmpEdge cmp3
  by_cases h1 : x.f0 < y.f0
  · simp [h1]
  · by_cases h2 : y.f0 < x.f0
    · have : x.f0 ≠ y.f0 := by omega
      simp [h1, h2, this]
    · have h3 : x.f0 = y.f0 := by omega
      by_cases h4 : x.f1 < y.f1
      · simp [h3, h4]
      · by_cases h5 : y.f1 < x.f1 <;> simp [h3, h4, h5]
theorem swoEdge : SWO (ltOf cmpEdge) where
  irrefl x := by rw [ltOf_edge]; simp
  trans x y z h1 h2 := by rw [ltOf_edge] at *; simp at *; omega
  ntrans x y z h1 h2 := by rw [ltOf_edge] at *; simp at *; omega
theorem totEdge (x y : S64) (h1 : ltOf cmpEdge x y = false) (h2 : ltOf cmpEdge y x = false) : x = y := by
  rw [ltOf_edge] at h1 h2
  simp at h1 h2
  cases x; cases y
  simp at *
  omega
def sortE (xs : List S64) : List S64 := xs.mergeSort fun x y => !(ltOf cmpEdge) y x
theorem sortE_length (xs : List S64) : (sortE xs).length = xs.length := (List.mergeSort_perm xs _).length_eq
theorem holds39 {w : World} {base g n cap : Nat} {ok : Nat → Prop} {xs : List S64} (HO : k64.R 64 w base ok (.slice (some ⟨g, 0, none⟩) n cap) xs) : HoldsK encE 2 w g 0 xs.toArray := by
  intro t ht
  have hC := (Kd.R_reads' HO).2.2
  have hlen := (Kd.R_reads' HO).1
  rw [size_flatK, List.size_toArray] at ht
  have hfr : ∀ o, w.frozen? ⟨g, o, none⟩ = false := by
    obtain ⟨_, inner, ho, _⟩ := HO
    obtain ⟨cells, hc⟩ := own_typed ho g (by simp [Value.ownBlock])
    exact fun o => blk_frozen hc _
  refine ⟨?_, hfr _⟩
  rw [get_flatK _ _ _ _ (by simpa using ht)]
  have hi : t / 2 < xs.length := by omega
  obtain ⟨ad, hA, hx0, hx1⟩ := at_T64 hC ((t / 2 : Nat) : Int) (by omega) (by omega)
  injection hA with hA
  subst hA
  rw [Int.toNat_natCast] at hx0 hx1
  simp only [Addr.add_lit, Nat.zero_add] at hx0 hx1
  have he : xs.toArray[t / 2]! = rd_T64 xs ((t / 2 : Nat) : Int) := by
    unfold rd_T64
    rw [Int.toNat_natCast, getElem!_pos _ _ (by simpa using hi), List.getD_eq_getElem?_getD, List.getElem?_eq_getElem hi]
    simp
  rw [he]
  rcases Nat.mod_two_eq_zero_or_one t with h | h
  · rw [h, show 0 + t = t / 2 * 2 by omega, hx0]; rfl
  · rw [h, show 0 + t = t / 2 * 2 + 1 by omega, hx1]; rfl
theorem row39_of {w' : World} {base g n cap : Nat} {ok : Nat → Prop} {ys : List S64} {cur' : Array Value} (hn : ys.length = n) (hok : ok g) (hb : base ≤ g) (hnc : n ≤ cap) (hcm : cap ≤ maxLen) (hs : cur'.size = cap * 2)
    (hh : w'.heap[g]? = some (.cells cur' 64 (0, 0))) (hH : HoldsK encE 2 w' g 0 ys.toArray) : k64.R 64 w' base ok (.slice (some ⟨g, 0, none⟩) n cap) ys := by
  subst hn
  refine ⟨fun k hk => by simp [Value.ownBlock] at hk; subst hk; exact hok, cur'.toList.take (ys.length * 2), ⟨?_, .inr ⟨g, cap, cur', rfl, hb, hh, hnc, hcm, hs, rfl⟩⟩, ?_, ?_⟩
  · have h2 : cur'.toList.length = cap * 2 := by rw [Array.length_toList]; exact hs
    have h3 : (cur'.toList.take (ys.length * 2)).length = ys.length * 2 := by rw [List.length_take, h2]; omega
    exact h3
  · have h2 : cur'.toList.length = cap * 2 := by rw [Array.length_toList]; exact hs
    have h3 : (cur'.toList.take (ys.length * 2)).length = ys.length * 2 := by rw [List.length_take, h2]; omega
    exact h3
  · intro j p hj
    have hjl : j < ys.length := by
      rcases Nat.lt_or_ge j ys.length with h | h
      · exact h
      · rw [List.getElem?_eq_none h] at hj; cases hj
    have hp : ys.toArray[j]! = p := by
      rw [getElem!_pos _ _ (by simpa using hjl)]
      rw [List.getElem?_eq_getElem hjl] at hj
      simpa using hj
    have h0 := (HoldsK.cell hH (i := j) (c := 0) (by simpa using hjl) (by omega)).1
    have h1 := (HoldsK.cell hH (i := j) (c := 1) (by simpa using hjl) (by omega)).1
    rw [hp, cell_of_row w' g _ cur' 64 (0, 0) hh] at h0 h1
    have : ((cur'.toList.take (ys.length * 2)).drop (j * k64.sz)).take k64.sz = [.int .i64 p.f0, .int .i64 p.f1] := by
      show ((cur'.toList.take (ys.length * 2)).drop (j * 2)).take 2 = _
      apply List.ext_getElem?
      intro q
      rw [List.getElem?_take]
      by_cases hq : q < 2
      · rw [if_pos hq, List.getElem?_drop, List.getElem?_take, if_pos (by omega), Array.getElem?_toList]
        have : q = 0 ∨ q = 1 := by omega
        rcases this with rfl | rfl
        · rw [show j * 2 + 0 = 0 + j * 2 + 0 by omega, h0]; rfl
        · rw [show j * 2 + 1 = 0 + j * 2 + 1 by omega, h1]; rfl
      · rw [if_neg hq]
        exact (List.getElem?_eq_none (by simp; omega)).symm
    rw [this]
    exact k64_mkM _ _ _ p
theorem isAgg39 (w : World) : (isAgg (Tryz.sortEdge_ren.t 24)).run Tryz.prog w = .ok true w := by
  have h := Tryz.underlying64
  simp [Tryz.sortEdge_ren, isAgg, run_underlying h]
theorem sizeOf39 (w : World) : (Go.sizeOf (Tryz.sortEdge_ren.t 24)).run Tryz.prog w = .ok 2 w := by
  obtain ⟨i, hi, _, hs, _⟩ := inf39
  simp [Tryz.sortEdge_ren, Go.sizeOf, typeInfo, hi, hs]
theorem sort_calls (base : Nat) (ok : Nat → Prop) (v : Value) (xs : List S64) (w : World) (hl : xs.length ≤ 1000000000000) (hbase : base ≤ w.heap.size) (HO : k64.R 64 w base ok v xs) :
    Calls Tryz.prog 49 #[v, .func (.func 50) #[] #[]] w fun e w' => e = .returned (.tuple #[]) ∧ k64.R 64 w' base ok v (sortE xs) ∧ Below base w w' := by
  by_cases h0 : xs.length = 0
  · obtain ⟨A, c, rfl⟩ := Kd.R_slice HO
    have : xs = [] := List.length_eq_zero_iff.1 h0
    subst this
    have hS := AnyF.slices_SortFunc_none (P := Tryz.prog) (ρ := Tryz.sortEdge_ren) Tryz.sortEdge A c (.func (.func 50) #[] #[]) w
    refine Calls.mono (show Calls Tryz.prog 49 _ _ _ from hS) ?_
    rintro e w' ⟨rfl, rfl⟩
    exact ⟨rfl, by simpa [sortE] using HO, Below.refl _ _⟩
  · obtain ⟨g, cap, rfl, hbg, hgw, _⟩ := Kd.R_form HO (by omega)
    have eg : ∀ args w, (callFunc 50 args).run Tryz.prog w = .ok (.enter 50 args) w := enters_of Tryz.func50 (by kernel_rfl) rfl
    have hlays : CmpLays Tryz.prog 50 #[] encE 2 cmpEdge g 0 xs.toArray.size w := fun m os dk _ x y => (normal_cmp x y _).mono fun _ _ h => h
    have hH := holds39 HO
    set_option maxRecDepth 100000 in
    have hS := AnyQ.slices_SortFunc_total Tryz.sortEdge 2 isAgg39 sizeOf39 encE (fun _ => rfl) (fun x v hv => by simp [encE] at hv; rcases hv with rfl | rfl <;> rfl) cmpEdge swoEdge 50 #[] g 0 cap xs.toArray w eg hlays hH hgw (by simp; omega) totEdge
    refine Calls.mono (show Calls Tryz.prog 49 #[.slice (some ⟨g, 0, none⟩) xs.length cap, .func (.func 50) #[] #[]] w _ from hS) ?_
    rintro e w' ⟨rfl, m, os, rfl⟩
    obtain ⟨hok, inner, hown, _⟩ := HO
    rcases hown.2 with ⟨hv, _⟩ | ⟨g', cap', cur, hv, hb, hh, hnc', hcm, hcs, htk⟩
    · cases hv
    injection hv with ha _ hc
    injection ha with ha
    injection ha with hg'
    subst hg'; subst hc
    have hfar : ∀ k, k < w.heap.size → k ≠ g → (sortWorldK encE 2 w g 0 m (sortE xs).toArray os).heap[k]? = w.heap[k]? := by
      intro k hk hne
      unfold sortWorldK putRowK putRow mapBlock grow Sort.ahead
      rw [Array.getElem?_append_left (by simpa using hk), Array.getElem?_modify, if_neg (Ne.symm hne)]
    have hat : (sortWorldK encE 2 w g 0 m (sortE xs).toArray os).heap[g]? = some (.cells (putCells id 0 (flatK encE 2 (sortE xs).toArray) cur) 64 (0, 0)) := by
      unfold sortWorldK putRowK putRow mapBlock grow Sort.ahead
      rw [Array.getElem?_append_left (by simpa using hgw), Array.getElem?_modify, if_pos rfl]
      show Option.map _ (w.heap[g]?) = _
      rw [hh]
      rfl
    have hlen := sortE_length xs
    have hH2 := holdsK_sortWorldK_c encE 2 w g 0 xs.toArray (sortE xs).toArray m os hH hgw (by simp [hlen])
    refine ⟨rfl, row39_of hlen (hok g (by simp [Value.ownBlock])) hbg hnc' hcm ?_ hat hH2, ?_⟩
    · simp [putCells]; exact hcs
    · exact ⟨rfl, rfl, rfl, size_sortWorldK_c encE 2 w g 0 m _ os, fun k hk => hfar k (by omega) (by omega)⟩
def mnE (x y : Int) : Int := if y < x then y else x
def mxE (x y : Int) : Int := if x < y then y else x
theorem max2_mx (k k' : IntKind) (x y : Int) : Builtin.max2 (.int k x) (.int k' y) = pure (.int k (mxE x y)) := max2_int k k' x y
theorem min2_mn (k k' : IntKind) (x y : Int) : Builtin.min2 (.int k x) (.int k' y) = pure (.int k (mnE x y)) := min2_int k k' x y
attribute [local go_sem high] max2_mx min2_mn max_two min_two
def edgeOf (x : S64) : S64 := ⟨mnE x.f0 x.f1, mxE x.f0 x.f1⟩
def normGo (n : Int) : List S64 → List S64 → Option (List S64)
  | [], acc => some acc
  | x :: r, acc => if mnE x.f0 x.f1 < 0 ∨ n ≤ mxE x.f0 x.f1 then none else normGo n r (if x.f0 = x.f1 then acc else acc ++ [edgeOf x])
def graphNormal (n : Int) (l : List S64) : Int × List S64 × Int :=
  if n < 0 then (0, [], 1) else if n > 1000 then (0, [], 5) else
  match normGo n l [] with
  | none => (0, [], 4)
  | some all => if 4000 < (compactE (sortE all)).length then (0, [], 5) else (n, compactE (sortE all), 0)
def graph_Normal.f (a0 : Int) (l1 : List S64) : Option (Int × List S64 × Int) := if l1.length ≤ 1000000000000 then some (graphNormal a0 l1) else none
theorem inf31 : ∃ i, Tryz.prog.info? 34 = some i ∧ i.size = 2 := by
  have h : (Tryz.prog.info? 34).map (fun i => i.size) = some 2 := by kernel_rfl
  revert h
  cases Tryz.prog.info? 34 with
  | none => simp
  | some i => simp
theorem load31 {W : World} {p : Nat} {x y : Value} (hx : W.cell? ⟨p, 0, none⟩ = some x) (hy : W.cell? ⟨p, 1, none⟩ = some y) : (loadVar 34 ⟨p, 0, none⟩).run Tryz.prog W = .ok (.agg #[x, y]) W := by
  have hu31 := Tryz.underlying34
  go_simp
theorem store_step {P : Program} {ops : Array Oper} {rest : List Oper} {o : Oper} {a : Act} {Q : Exit → Act → World → Prop} {W w1 : World} (hN : o.dst = none) (hgd : o.guard = none) (t : TypeId) (p x : Operand) (ho : o.op = .store t p x) {addr u : Value} (haddr : a.eval p = addr) (hx : a.eval x = u)
    (hrun : (Instr.storeAt t addr u).run P W = .ok () w1) (h : wpList P ops Q rest a w1) : wpList P ops Q (o :: rest) a W := by
  refine wpList_plain hgd fun K hK => ?_
  unfold Oper.wp execOp
  simp only [ho, haddr, hx, Sem.run_bind, Sem.run_pure, Result.andThen_ok, hrun]
  show K (a.put o.dst undef) _
  rw [hN]
  exact hK a _ h
theorem results_14 (tmps : Array Value) (W : World) (p : Nat) (x y z : Value) (h4 : tmps[4]?.getD undef = .pointer (some ⟨p, 0, none⟩)) (h5 : tmps[5]?.getD undef = z) (hx : W.cell? ⟨p, 0, none⟩ = some x) (hy : W.cell? ⟨p, 1, none⟩ = some y) :
    (results Tryz.f32 tmps).run Tryz.prog W = .ok (.tuple #[.agg #[x, y], z]) W := by
  have hr : Tryz.f32.results = #[.cell 4 34, .tmp 5] := by kernel_rfl
  have hl := load31 hx hy
  unfold results
  rw [hr]
  simp [h4, h5, asAddr, hl]
theorem store31 {W : World} {p : Nat} {a b x y : Value} (h : W.heap[p]? = some (.cells #[a, b] 34 (0, 0))) (hx : x.cells = #[x] ∧ x.oneCell' = true) (hy : y.cells = #[y] ∧ y.oneCell' = true) :
    ∃ W', (Instr.storeAt 34 (.pointer (some ⟨p, 0, none⟩)) (.agg #[x, y])).run Tryz.prog W = .ok () W' ∧ W'.heap[p]? = some (.cells #[x, y] 34 (0, 0)) ∧ W.grownBy W' (some p) := by
  have hrun := run_store_run (P := Tryz.prog) (w := W) (g := p) (o := 0) 34 (.agg #[x, y]) [x, y] h (by simp [Value.cells, hx.1, hy.1]) (by kernel_rfl) (by simp) (by intro q hq; simp at hq; rcases hq with rfl | rfl; exact hx.2; exact hy.2)
  obtain ⟨cur', h3, h4, h5⟩ := setCells_row [x, y] 0 W #[a, b] h (by simp)
  obtain ⟨s1, s2, s3, s4⟩ := setCells_same p [x, y] 0 W
  refine ⟨_, hrun, ?_, ⟨s1, s2, s3, by rw [s4]; exact Nat.le_refl _, fun k _ hk => setCells_far _ _ k (fun he => hk (by rw [he]))⟩⟩
  rw [h3]
  have : cur' = #[x, y] := by
    apply Array.toList_inj.1
    rw [h5]; rfl
  rw [this]
set_option maxHeartbeats 4000000 in
set_option maxRecDepth 100000 in
theorem graph_Normal.calls (a0 : Int) (A1 : Option Addr) (c1 : Nat) (l1 : List S64) (r1 : Int) (r2 : List S64) (r3 : Int) (w : World) (hr1 : Kd.C k64 w A1 l1.length l1) (hc1 : l1.length ≤ c1) (h : graph_Normal.f a0 l1 = some (r1, r2, r3)) :
    Calls Tryz.prog 32 #[.int .i64 a0, .slice A1 l1.length c1] w fun e w' => ∃ v1_ : Value, e = .returned (.tuple #[.agg #[.int .i64 r1, v1_], .int .i64 r3]) ∧ Kd.R k64 64 w' w.heap.size (fun _ => True) v1_ r2 ∧ Below w.heap.size w w' := by
  have hu39 := Tryz.underlying64
  have hu31 := Tryz.underlying34
  unfold graph_Normal.f at h
  by_cases hlim : l1.length ≤ 1000000000000
  case neg => rw [if_neg hlim] at h; cases h
  rw [if_pos hlim] at h
  replace h := Option.some.inj h
  unfold graphNormal at h
  by_cases hn : a0 < 0
  · rw [if_pos hn] at h
    simp only [Prod.mk.injEq] at h
    obtain ⟨rfl, rfl, rfl⟩ := h
    have b1 : decide (a0 < 0) = true := decide_eq_true hn
    go_enter Tryz.func32, Tryz.ntmps32
    go_wp2
    have hcl := blk_new w (.cells #[.int .i64 0, .slice none 0 0] 34)
    refine bodyPost_ret_by (results_14 _ _ w.heap.size (.int .i64 0) (.slice none 0 0) (.int .i64 1) rfl rfl ((blk_cell hcl 0).trans rfl) ((blk_cell hcl 1).trans rfl)) rfl ?_
    exact ⟨_, rfl, Kd.R_nil _ _ _ _ _, below_alloc (Below.refl _ _) _⟩
  rw [if_neg hn] at h
  have b1 : decide (a0 < 0) = false := decide_eq_false hn
  clear hn
  by_cases hn : a0 > 1000
  · rw [if_pos hn] at h
    simp only [Prod.mk.injEq] at h
    obtain ⟨rfl, rfl, rfl⟩ := h
    have b2 : decide (1000 < a0) = true := decide_eq_true hn
    go_enter Tryz.func32, Tryz.ntmps32
    go_wp2
    have hcl := blk_new w (.cells #[.int .i64 0, .slice none 0 0] 34)
    refine bodyPost_ret_by (results_14 _ _ w.heap.size (.int .i64 0) (.slice none 0 0) (.int .i64 5) rfl rfl ((blk_cell hcl 0).trans rfl) ((blk_cell hcl 1).trans rfl)) rfl ?_
    exact ⟨_, rfl, Kd.R_nil _ _ _ _ _, below_alloc (Below.refl _ _) _⟩
  rw [if_neg hn] at h
  have b2 : decide (1000 < a0) = false := decide_eq_false hn
  clear hn
  have HG := Aside0.mk h
  clear h
  have HC := Aside0.mk hr1
  clear hr1
  have HLIM := Aside0.mk hlim
  clear hlim
  have HNIL := Aside0.mk (show normGo a0 (l1.drop 0) [] = normGo a0 l1 [] from rfl)
  go_enter Tryz.func32, Tryz.ntmps32
  go_wp2
  go_loopg [19, 6, 8] l1.length (fun gb v19 v6 v8 wr => ∃ (i : Nat) (acc : List S64), v19 = .int .i64 (i : Int) ∧ Aside0 (normGo a0 (l1.drop i) acc = normGo a0 l1 []) ∧ Aside0 (i ≤ l1.length) ∧ Aside0 (acc.length ≤ i) ∧ Aside0 (l1.length ≤ i + gb) ∧ Aside0 (Kd.R k64 64 wr (w.heap.size + 1) (fun _ => True) v6 acc) ∧ Aside0 (Below w.heap.size w wr) ∧ Aside0 (wr.heap[w.heap.size]? = some (.cells #[.int .i64 0, .slice none 0 0] 34 (0, 0))))
  case atStart => exact ⟨0, [], rfl, HNIL, ⟨Nat.zero_le _⟩, ⟨Nat.le_refl _⟩, ⟨by omega⟩, ⟨Kd.R_nil _ _ _ _ _⟩, ⟨below_alloc (Below.refl _ _) _⟩, ⟨blk_new w _⟩⟩
  case round =>
    clear HNIL
    obtain ⟨i, acc, rfl, HN, HI, HACC, HQ, HO, HB, HR⟩ := hrel
    by_cases hi : i < l1.length
    · cases gk with
      | zero => exact absurd HQ.out (by omega)
      | succ gb =>
      have hlim := HLIM.out
      have HCr := Aside0.mk (Kd.C_below HC.out HB.out)
      obtain ⟨ad, hA, hx0, hx1⟩ := at_T64 HCr.out (i : Int) (by omega) (by omega)
      subst hA
      rw [Int.toNat_natCast] at hx0 hx1
      have hnx := HN.out
      generalize hN0 : normGo a0 l1 [] = N0 at hnx
      rw [List.drop_eq_getElem_cons hi, ← rd39_lt l1 i hi] at hnx
      generalize rd_T64 l1 (i : Int) = x at hx0 hx1 hnx
      simp only [normGo] at hnx
      subst hN0
      have hw2 : IntKind.i64.wrap ((i : Int) + 1) = ((i + 1 : Nat) : Int) := by rw [wrap_small _ (by omega) (by omega)]; rfl
      by_cases hbad : mnE x.f0 x.f1 < 0 ∨ a0 ≤ mxE x.f0 x.f1
      · rw [if_pos hbad] at hnx
        have hg := HG.out
        rw [← hnx] at hg
        simp only [Prod.mk.injEq] at hg
        obtain ⟨rfl, rfl, rfl⟩ := hg
        obtain ⟨W5, hst, hW5, hg5⟩ := store31 (W := wr.alloc (.cells #[.int .i64 x.f0, .int .i64 x.f1] 64)) (p := w.heap.size) (x := .int .i64 0) (y := .slice none 0 0) (blk_alloc HR.out _) ⟨rfl, rfl⟩ ⟨rfl, rfl⟩
        have HST := Aside0.mk hst
        have HW5 := Aside0.mk hW5
        have HB5 := Aside0.mk (show Below w.heap.size w W5 from (below_alloc HB.out _).grown hg5 (by have := blk_lt HR.out; simp; omega) (fun q hq => by injection hq with hq; omega))
        clear hst hW5 hg5 hnx
        by_cases hm : mnE x.f0 x.f1 < 0
        · have hb3 : decide (mnE x.f0 x.f1 < 0) = true := decide_eq_true hm
          clear hbad hm
          go_wp2_with (first | ((with_reducible refine gate_ (.store 34 (.tmp 4) (.tmp 38)) rfl ?_); refine store_step rfl rfl 34 (.tmp 4) (.tmp 38) rfl rfl rfl HST.out ?_))
          refine bodyPost_ret_by (results_14 _ _ w.heap.size (.int .i64 0) (.slice none 0 0) (.int .i64 4) rfl rfl ((blk_cell HW5.out 0).trans rfl) ((blk_cell HW5.out 1).trans rfl)) rfl ?_
          exact ⟨_, rfl, Kd.R_nil _ _ _ _ _, HB5.out⟩
        · have hb3 : decide (mnE x.f0 x.f1 < 0) = false := decide_eq_false hm
          have hb4 : decide (a0 ≤ mxE x.f0 x.f1) = true := decide_eq_true (hbad.resolve_left hm)
          clear hbad hm
          go_wp2_with (first | ((with_reducible refine gate_ (.store 34 (.tmp 4) (.tmp 38)) rfl ?_); refine store_step rfl rfl 34 (.tmp 4) (.tmp 38) rfl rfl rfl HST.out ?_))
          refine bodyPost_ret_by (results_14 _ _ w.heap.size (.int .i64 0) (.slice none 0 0) (.int .i64 4) rfl rfl ((blk_cell HW5.out 0).trans rfl) ((blk_cell HW5.out 1).trans rfl)) rfl ?_
          exact ⟨_, rfl, Kd.R_nil _ _ _ _ _, HB5.out⟩
      · rw [if_neg hbad] at hnx
        have hb3 : decide (mnE x.f0 x.f1 < 0) = false := decide_eq_false (fun h => hbad (.inl h))
        have hb4 : decide (a0 ≤ mxE x.f0 x.f1) = false := decide_eq_false (fun h => hbad (.inr h))
        clear hbad
        by_cases hsame : x.f0 = x.f1
        · rw [if_pos hsame] at hnx
          have HNX := Aside0.mk hnx
          have hb5 : (x.f0 == x.f1) = true := by simpa using hsame
          clear hnx hsame
          go_wp2
          go_roundg gb
          case measure => omega
          case rel => exact ⟨i + 1, acc, rfl, ⟨HNX.out⟩, ⟨by omega⟩, ⟨by have := HACC.out; omega⟩, ⟨by have := HQ.out; omega⟩, ⟨Kd.R_below HO.out (Below.alloc (Below.refl _ _) (Nat.le_refl _) _)⟩, ⟨below_alloc HB.out _⟩, ⟨blk_alloc HR.out _⟩⟩
        · rw [if_neg hsame] at hnx
          have HNX := Aside0.mk hnx
          have hb5 : (x.f0 == x.f1) = false := by simpa using hsame
          clear hnx hsame
          have HLT := Aside0.mk (blk_lt HR.out)
          go_wp2_with (first | ((with_reducible refine gate_builtin (b := .append) (xs := #[.tmp 44, .tmp 56]) rfl ?_); at_builtin; refine Kd.R_append k64 (w0 := wr.alloc (.cells #[.int .i64 x.f0, .int .i64 x.f1] 64)) (w.heap.size + 1) rfl (.tmp 44) (.tmp 56) 32 64 (.agg #[(.int .i64 0), (.int .i64 0)]) 16 rfl Tryz.underlying32 info64 rfl (by decide) (by omega) u6 acc (edgeOf x) [.int .i64 (mnE x.f0 x.f1), .int .i64 (mxE x.f0 x.f1)] (fun _ => True) (fun _ => False) rfl (by simp only [World.alloc, Array.size_push]; rfl) ?aP (fun _ hk => hk.elim) ?aF ?aO ?aB ?aS ?aL ?_; (case aP => exact k64_mkM _ _ _ (edgeOf x)); (case aF => exact (fun _ _ => trivial)); (case aO => exact (Kd.R_below HO.out (Below.alloc (Below.refl _ _) (Nat.le_refl _) _))); (case aB => exact Below.refl _ _); (case aS => have := HLT.out; simp; omega); (case aL => have := HACC.out; omega); intro v1 w5 ho hb hg hat; have HR2 := Aside0.mk ((hb.block w.heap.size (Nat.lt_succ_self _)).trans (blk_alloc HR.out _)); have HB2 := Aside0.mk ((below_alloc HB.out _).trans (hb.mono (Nat.le_succ _))); have HO2 := Aside0.mk ho; clear ho hb hg hat))
          go_roundg gb
          case measure => omega
          case rel => exact ⟨i + 1, acc ++ [edgeOf x], rfl, ⟨HNX.out⟩, ⟨by omega⟩, ⟨by have := HACC.out; simp; omega⟩, ⟨by have := HQ.out; omega⟩, HO2, HB2, HR2⟩
    · have hie : i = l1.length := by have := HI.out; omega
      have hnx := HN.out
      rw [hie, List.drop_length] at hnx
      simp only [normGo] at hnx
      have hg := HG.out
      rw [← hnx] at hg
      simp only at hg
      have HG2 := Aside0.mk hg
      clear hg hnx
      have hlt := blk_lt HR.out
      have HLEN := Aside0.mk (show acc.length ≤ 1000000000000 by have := HACC.out; have := HLIM.out; omega)
      have HS := Aside0.mk (sortE_length acc)
      obtain ⟨E, hE⟩ : ∃ E, compactE (sortE acc) = E := ⟨_, rfl⟩
      have HE := Aside0.mk hE
      have hg := HG2.out
      rw [hE] at hg
      clear hE
      by_cases hbig : 4000 < E.length
      · rw [if_pos hbig] at hg
        simp only [Prod.mk.injEq] at hg
        obtain ⟨rfl, rfl, rfl⟩ := hg
        have hbb : decide (4000 < (E.length : Int)) = true := decide_eq_true (by omega)
        clear hbig
        go_wp2_with (first | (go_at_call 49; refine (sort_calls (w.heap.size + 1) (fun _ => True) u6 acc _ HLEN.out (by omega) HO.out).mono ?_; rintro e w3 ⟨rfl, hR3, hB3⟩; have HR3 := Aside0.mk hR3; have HB3 := Aside0.mk hB3; clear hR3 hB3) | (go_at_call 52; refine (compact_calls (w.heap.size + 1) (fun _ => True) u6 (sortE acc) _ (by rw [HS.out]; exact HLEN.out) (Nat.le_trans hlt HB3.out.size) HR3.out).mono ?_; rintro e w4 ⟨v4, rfl, hR4, hB4⟩; rw [HE.out] at hR4; obtain ⟨A4, c4, rfl⟩ := Kd.R_slice hR4; have HR4 := Aside0.mk hR4; have HB4 := Aside0.mk hB4; clear hR4 hB4; obtain ⟨W5, hst, hW5, hg5⟩ := store31 (W := w4) (p := w.heap.size) (x := .int .i64 0) (y := .slice none 0 0) ((HB4.out.block _ (Nat.lt_succ_self _)).trans ((HB3.out.block _ (Nat.lt_succ_self _)).trans HR.out)) ⟨rfl, rfl⟩ ⟨rfl, rfl⟩; have HST := Aside0.mk hst; have HW5 := Aside0.mk hW5; have HG5 := Aside0.mk hg5; have HB5 := Aside0.mk (show Below w.heap.size w W5 from ((HB.out.trans (HB3.out.mono (Nat.le_succ _))).trans (HB4.out.mono (Nat.le_succ _))).grown hg5 (by have := HB3.out.size; have := HB4.out.size; omega) (fun q hq => by injection hq with hq; omega)); clear hst hW5 hg5) | ((with_reducible refine gate_ (.store 34 (.tmp 4) (.tmp 66)) rfl ?_); refine store_step rfl rfl 34 (.tmp 4) (.tmp 66) rfl rfl rfl HST.out ?_))
        refine bodyPost_ret_by (results_14 _ _ w.heap.size (.int .i64 0) (.slice none 0 0) (.int .i64 5) rfl rfl ((blk_cell HW5.out 0).trans rfl) ((blk_cell HW5.out 1).trans rfl)) rfl ?_
        exact ⟨_, rfl, Kd.R_nil _ _ _ _ _, HB5.out⟩
      · rw [if_neg hbig] at hg
        simp only [Prod.mk.injEq] at hg
        obtain ⟨rfl, rfl, rfl⟩ := hg
        have hbb : decide (4000 < (E.length : Int)) = false := decide_eq_false (by omega)
        clear hbig
        go_wp2_with (first | (go_at_call 49; refine (sort_calls (w.heap.size + 1) (fun _ => True) u6 acc _ HLEN.out (by omega) HO.out).mono ?_; rintro e w3 ⟨rfl, hR3, hB3⟩; have HR3 := Aside0.mk hR3; have HB3 := Aside0.mk hB3; clear hR3 hB3) | (go_at_call 52; refine (compact_calls (w.heap.size + 1) (fun _ => True) u6 (sortE acc) _ (by rw [HS.out]; exact HLEN.out) (Nat.le_trans hlt HB3.out.size) HR3.out).mono ?_; rintro e w4 ⟨v4, rfl, hR4, hB4⟩; rw [HE.out] at hR4; obtain ⟨A4, c4, rfl⟩ := Kd.R_slice hR4; have HR4 := Aside0.mk hR4; have HB4 := Aside0.mk hB4; clear hR4 hB4; obtain ⟨W5, hst, hW5, hg5⟩ := store31 (W := w4) (p := w.heap.size) (x := .int .i64 a0) (y := .slice A4 E.length c4) ((HB4.out.block _ (Nat.lt_succ_self _)).trans ((HB3.out.block _ (Nat.lt_succ_self _)).trans HR.out)) ⟨rfl, rfl⟩ ⟨rfl, rfl⟩; have HST := Aside0.mk hst; have HW5 := Aside0.mk hW5; have HG5 := Aside0.mk hg5; have HB5 := Aside0.mk (show Below w.heap.size w W5 from ((HB.out.trans (HB3.out.mono (Nat.le_succ _))).trans (HB4.out.mono (Nat.le_succ _))).grown hg5 (by have := HB3.out.size; have := HB4.out.size; omega) (fun q hq => by injection hq with hq; omega)); clear hst hW5 hg5) | ((with_reducible refine gate_ (.store 34 (.tmp 4) (.tmp 69)) rfl ?_); refine store_step rfl rfl 34 (.tmp 4) (.tmp 69) rfl rfl rfl HST.out ?_))
        refine bodyPost_ret_by (results_14 _ _ w.heap.size (.int .i64 a0) (.slice A4 E.length c4) (.int .i64 0) rfl rfl ((blk_cell HW5.out 0).trans rfl) ((blk_cell HW5.out 1).trans rfl)) rfl ?_
        exact ⟨_, rfl, Kd.R_lower (Kd.R_grown1 HR4.out rfl HG5.out (fun he => by have := Kd.R_base HR4.out _ he.symm; omega)) (Nat.le_succ _), HB5.out⟩

end Go.Proofs.YtmdmdbiinngneaaGreatDoor.Q
