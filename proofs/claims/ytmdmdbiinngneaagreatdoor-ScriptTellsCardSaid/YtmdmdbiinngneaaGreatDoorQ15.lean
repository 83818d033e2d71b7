-- Laid by prx.py (ours), out of the translation's print. Not trusted: Lean checks it.
import Derived.Test.YtmdmdbiinngneaaGreatDoorQ0
import Derived.Test.YtmdmdbiinngneaaGreatDoorQ14
namespace Go.Proofs.YtmdmdbiinngneaaGreatDoor.Q
open Go.RowKit Go.Proofs.YtmdmdbiinngneaaGreatDoorW.PrintWords Go.Proofs.YtmdmdbiinngneaaGreatDoorW.PrintLast Go.Proofs.YtmdmdbiinngneaaGreatDoorW.PrintMore
attribute [local go_sem] max2_int min2_int max_two min_two max_three min_three max_four min_four   -- for this text's walks alone
set_option linter.unusedVariables false
set_option linter.unusedSimpArgs false

/-! ### carcanetref02_Lex: function 12 -/
mutual
def carcanetref02_Lex.l0 : Nat → ByteArray → List (S49) → Int → Option ((List (S49)) × Int × Int)
 | 0, _, _, _ => none
 | k + 1, x0, x8, x9 => if x9 < (x0.size : Int) then ((carcanetref02_kind.f k x0 x9).bind fun bt151 => (if 0 ≤ x9 then (if (bt x0 x9) = 35 then (carcanetref02_Lex.l1 k x0 x8 (wrap64 (x9 + bt151.2))) else (if bt151.1 = 2 then (if x8.length < 3518437208883 then (carcanetref02_Lex.l0 k x0 (x8 ++ [(⟨4, x9, (⟨#[]⟩ : ByteArray), 0⟩ : S49)]) (wrap64 (x9 + bt151.2))) else (none)) else (if bt151.1 = 3 then (carcanetref02_Lex.l2 k x0 x8 x9 (wrap64 (x9 + bt151.2)) 0) else (if bt151.1 = 4 then (carcanetref02_Lex.l4 k x0 x8 x9 (wrap64 (x9 + bt151.2))) else (if bt151.1 = 5 then (if x9 ≤ (wrap64 (x9 + bt151.2)) then (if (wrap64 (x9 + bt151.2)) ≤ (x0.size : Int) then (if x8.length < 3518437208883 then (carcanetref02_Lex.l0 k x0 (x8 ++ [(⟨3, x9, x0.extract (x9 : Int).toNat ((wrap64 (x9 + bt151.2)) : Int).toNat, 0⟩ : S49)]) (wrap64 (x9 + bt151.2))) else (none)) else (none)) else (none)) else (if bt151.1 = 1 then (carcanetref02_Lex.l0 k x0 x8 (wrap64 (x9 + bt151.2))) else (some (([] : List (S49)), x9, 3)))))))) else (none))) else (some (x8, 0, 0))
def carcanetref02_Lex.l1 : Nat → ByteArray → List (S49) → Int → Option ((List (S49)) × Int × Int)
 | 0, _, _, _ => none
 | k + 1, x0, x8, x12 => if x12 < (x0.size : Int) then (if 0 ≤ x12 then (if (bt x0 x12) = 10 then (carcanetref02_Lex.l0 k x0 x8 x12) else (carcanetref02_Lex.l1 k x0 x8 (wrap64 (x12 + 1)))) else (none)) else (carcanetref02_Lex.l0 k x0 x8 x12)
def carcanetref02_Lex.j3 : Nat → ByteArray → List (S49) → Int → Int → Int → Option ((List (S49)) × Int × Int)
 | 0, _, _, _, _, _ => none
 | k + 1, x0, x8, x9, x12, x13 => if (wrap64 (x12 - x9)) > 9 then (some (([] : List (S49)), x9, 4)) else (carcanetref02_Lex.l3 k x0 x8 x9 x12 x13 x9)
def carcanetref02_Lex.l3 : Nat → ByteArray → List (S49) → Int → Int → Int → Int → Option ((List (S49)) × Int × Int)
 | 0, _, _, _, _, _, _ => none
 | k + 1, x0, x8, x9, x12, x13, x14 => if x14 < x12 then (if 0 ≤ x14 then (if x14 < (x0.size : Int) then (carcanetref02_Lex.l3 k x0 x8 x9 x12 (wrap64 ((wrap64 ((wrap64 (x13 * 10)) + (wrap64 (bt x0 x14)))) - 48)) (wrap64 (x14 + 1))) else (none)) else (none)) else (if 0 ≤ x9 then (if x9 ≤ x12 then (if x12 ≤ (x0.size : Int) then (if x8.length < 3518437208883 then (carcanetref02_Lex.l0 k x0 (x8 ++ [(⟨2, x9, x0.extract (x9 : Int).toNat (x12 : Int).toNat, x13⟩ : S49)]) x12) else (none)) else (none)) else (none)) else (none))
def carcanetref02_Lex.l2 : Nat → ByteArray → List (S49) → Int → Int → Int → Option ((List (S49)) × Int × Int)
 | 0, _, _, _, _, _ => none
 | k + 1, x0, x8, x9, x12, x13 => if x12 < (x0.size : Int) then (if 0 ≤ x12 then (if (bt x0 x12) ≥ 48 then (if (bt x0 x12) ≤ 57 then (carcanetref02_Lex.l2 k x0 x8 x9 (wrap64 (x12 + 1)) x13) else (carcanetref02_Lex.j3 k x0 x8 x9 x12 x13)) else (carcanetref02_Lex.j3 k x0 x8 x9 x12 x13)) else (none)) else (carcanetref02_Lex.j3 k x0 x8 x9 x12 x13)
def carcanetref02_Lex.l4 : Nat → ByteArray → List (S49) → Int → Int → Option ((List (S49)) × Int × Int)
 | 0, _, _, _, _ => none
 | k + 1, x0, x8, x9, x12 => if x12 < (x0.size : Int) then ((carcanetref02_kind.f k x0 x12).bind fun bt159 => (if bt159.1 = 3 then (carcanetref02_Lex.l4 k x0 x8 x9 (wrap64 (x12 + bt159.2))) else (if bt159.1 = 4 then (carcanetref02_Lex.l4 k x0 x8 x9 (wrap64 (x12 + bt159.2))) else (if (wrap64 (x12 - x9)) > 32 then (some (([] : List (S49)), x9, 5)) else (if 0 ≤ x9 then (if x9 ≤ x12 then (if x12 ≤ (x0.size : Int) then (if x8.length < 3518437208883 then (carcanetref02_Lex.l0 k x0 (x8 ++ [(⟨1, x9, x0.extract (x9 : Int).toNat (x12 : Int).toNat, 0⟩ : S49)]) x12) else (none)) else (none)) else (none)) else (none)))))) else (if (wrap64 (x12 - x9)) > 32 then (some (([] : List (S49)), x9, 5)) else (if 0 ≤ x9 then (if x9 ≤ x12 then (if x12 ≤ (x0.size : Int) then (if x8.length < 3518437208883 then (carcanetref02_Lex.l0 k x0 (x8 ++ [(⟨1, x9, x0.extract (x9 : Int).toNat (x12 : Int).toNat, 0⟩ : S49)]) x12) else (none)) else (none)) else (none)) else (none)))
end
def carcanetref02_Lex.f (k : Nat) (a0 : ByteArray) : Option ((List (S49)) × Int × Int) := (carcanetref01_Decode.f k a0).bind fun bt146 => (if bt146.2.2 = 0 then (carcanetref02_Lex.l0 k a0 ([] : List (S49)) 0) else (some (([] : List (S49)), bt146.2.1, bt146.2.2)))
theorem carcanetref02_Lex.mono_l : ∀ k, (∀ y0 y1 y2, LeO (carcanetref02_Lex.l0 k y0 y1 y2) (carcanetref02_Lex.l0 (k + 1) y0 y1 y2)) ∧ (∀ y0 y1 y2, LeO (carcanetref02_Lex.l1 k y0 y1 y2) (carcanetref02_Lex.l1 (k + 1) y0 y1 y2)) ∧ (∀ y0 y1 y2 y3 y4, LeO (carcanetref02_Lex.j3 k y0 y1 y2 y3 y4) (carcanetref02_Lex.j3 (k + 1) y0 y1 y2 y3 y4)) ∧ (∀ y0 y1 y2 y3 y4 y5, LeO (carcanetref02_Lex.l3 k y0 y1 y2 y3 y4 y5) (carcanetref02_Lex.l3 (k + 1) y0 y1 y2 y3 y4 y5)) ∧ (∀ y0 y1 y2 y3 y4, LeO (carcanetref02_Lex.l2 k y0 y1 y2 y3 y4) (carcanetref02_Lex.l2 (k + 1) y0 y1 y2 y3 y4)) ∧ (∀ y0 y1 y2 y3, LeO (carcanetref02_Lex.l4 k y0 y1 y2 y3) (carcanetref02_Lex.l4 (k + 1) y0 y1 y2 y3))
 | 0 => ⟨fun _ _ _ r h => by simp [carcanetref02_Lex.l0] at h, fun _ _ _ r h => by simp [carcanetref02_Lex.l1] at h, fun _ _ _ _ _ r h => by simp [carcanetref02_Lex.j3] at h, fun _ _ _ _ _ _ r h => by simp [carcanetref02_Lex.l3] at h, fun _ _ _ _ _ r h => by simp [carcanetref02_Lex.l2] at h, fun _ _ _ _ r h => by simp [carcanetref02_Lex.l4] at h⟩
 | k + 1 => by
  obtain ⟨ih0, ih1, ih2, ih3, ih4, ih5⟩ := carcanetref02_Lex.mono_l k
  refine ⟨?_, ?_, ?_, ?_, ?_, ?_⟩
  ·intro y0 y1 y2
   unfold carcanetref02_Lex.l0
   repeat' first
   | (with_reducible exact ih0 _ _ _)
   | (with_reducible exact ih1 _ _ _)
   | (with_reducible exact ih2 _ _ _ _ _)
   | (with_reducible exact ih3 _ _ _ _ _ _)
   | (with_reducible exact ih4 _ _ _ _ _)
   | (with_reducible exact ih5 _ _ _ _)
   | (with_reducible exact carcanetref01_Decode.mono _ _)
   | (with_reducible exact carcanetref02_kind.mono _ _ _)
   | (with_reducible exact LeO.refl _)
   | (with_reducible exact LeO.none _)
   | (with_reducible refine LeO.ite ?_ ?_)
   | (with_reducible refine LeO.bind ?_ (fun _ => ?_))
   | exact ih0 _ _ _
   | exact ih1 _ _ _
   | exact ih2 _ _ _ _ _
   | exact ih3 _ _ _ _ _ _
   | exact ih4 _ _ _ _ _
   | exact ih5 _ _ _ _
   | exact carcanetref01_Decode.mono _ _
   | exact carcanetref02_kind.mono _ _ _
   | exact LeO.none _
   | refine LeO.ite ?_ ?_
   | refine LeO.bind ?_ (fun _ => ?_)
  ·intro y0 y1 y2
   unfold carcanetref02_Lex.l1
   repeat' first
   | (with_reducible exact ih0 _ _ _)
   | (with_reducible exact ih1 _ _ _)
   | (with_reducible exact ih2 _ _ _ _ _)
   | (with_reducible exact ih3 _ _ _ _ _ _)
   | (with_reducible exact ih4 _ _ _ _ _)
   | (with_reducible exact ih5 _ _ _ _)
   | (with_reducible exact carcanetref01_Decode.mono _ _)
   | (with_reducible exact carcanetref02_kind.mono _ _ _)
   | (with_reducible exact LeO.refl _)
   | (with_reducible exact LeO.none _)
   | (with_reducible refine LeO.ite ?_ ?_)
   | (with_reducible refine LeO.bind ?_ (fun _ => ?_))
   | exact ih0 _ _ _
   | exact ih1 _ _ _
   | exact ih2 _ _ _ _ _
   | exact ih3 _ _ _ _ _ _
   | exact ih4 _ _ _ _ _
   | exact ih5 _ _ _ _
   | exact carcanetref01_Decode.mono _ _
   | exact carcanetref02_kind.mono _ _ _
   | exact LeO.none _
   | refine LeO.ite ?_ ?_
   | refine LeO.bind ?_ (fun _ => ?_)
  ·intro y0 y1 y2 y3 y4
   unfold carcanetref02_Lex.j3
   repeat' first
   | (with_reducible exact ih0 _ _ _)
   | (with_reducible exact ih1 _ _ _)
   | (with_reducible exact ih2 _ _ _ _ _)
   | (with_reducible exact ih3 _ _ _ _ _ _)
   | (with_reducible exact ih4 _ _ _ _ _)
   | (with_reducible exact ih5 _ _ _ _)
   | (with_reducible exact carcanetref01_Decode.mono _ _)
   | (with_reducible exact carcanetref02_kind.mono _ _ _)
   | (with_reducible exact LeO.refl _)
   | (with_reducible exact LeO.none _)
   | (with_reducible refine LeO.ite ?_ ?_)
   | (with_reducible refine LeO.bind ?_ (fun _ => ?_))
   | exact ih0 _ _ _
   | exact ih1 _ _ _
   | exact ih2 _ _ _ _ _
   | exact ih3 _ _ _ _ _ _
   | exact ih4 _ _ _ _ _
   | exact ih5 _ _ _ _
   | exact carcanetref01_Decode.mono _ _
   | exact carcanetref02_kind.mono _ _ _
   | exact LeO.none _
   | refine LeO.ite ?_ ?_
   | refine LeO.bind ?_ (fun _ => ?_)
  ·intro y0 y1 y2 y3 y4 y5
   unfold carcanetref02_Lex.l3
   repeat' first
   | (with_reducible exact ih0 _ _ _)
   | (with_reducible exact ih1 _ _ _)
   | (with_reducible exact ih2 _ _ _ _ _)
   | (with_reducible exact ih3 _ _ _ _ _ _)
   | (with_reducible exact ih4 _ _ _ _ _)
   | (with_reducible exact ih5 _ _ _ _)
   | (with_reducible exact carcanetref01_Decode.mono _ _)
   | (with_reducible exact carcanetref02_kind.mono _ _ _)
   | (with_reducible exact LeO.refl _)
   | (with_reducible exact LeO.none _)
   | (with_reducible refine LeO.ite ?_ ?_)
   | (with_reducible refine LeO.bind ?_ (fun _ => ?_))
   | exact ih0 _ _ _
   | exact ih1 _ _ _
   | exact ih2 _ _ _ _ _
   | exact ih3 _ _ _ _ _ _
   | exact ih4 _ _ _ _ _
   | exact ih5 _ _ _ _
   | exact carcanetref01_Decode.mono _ _
   | exact carcanetref02_kind.mono _ _ _
   | exact LeO.none _
   | refine LeO.ite ?_ ?_
   | refine LeO.bind ?_ (fun _ => ?_)
  ·intro y0 y1 y2 y3 y4
   unfold carcanetref02_Lex.l2
   repeat' first
   | (with_reducible exact ih0 _ _ _)
   | (with_reducible exact ih1 _ _ _)
   | (with_reducible exact ih2 _ _ _ _ _)
   | (with_reducible exact ih3 _ _ _ _ _ _)
   | (with_reducible exact ih4 _ _ _ _ _)
   | (with_reducible exact ih5 _ _ _ _)
   | (with_reducible exact carcanetref01_Decode.mono _ _)
   | (with_reducible exact carcanetref02_kind.mono _ _ _)
   | (with_reducible exact LeO.refl _)
   | (with_reducible exact LeO.none _)
   | (with_reducible refine LeO.ite ?_ ?_)
   | (with_reducible refine LeO.bind ?_ (fun _ => ?_))
   | exact ih0 _ _ _
   | exact ih1 _ _ _
   | exact ih2 _ _ _ _ _
   | exact ih3 _ _ _ _ _ _
   | exact ih4 _ _ _ _ _
   | exact ih5 _ _ _ _
   | exact carcanetref01_Decode.mono _ _
   | exact carcanetref02_kind.mono _ _ _
   | exact LeO.none _
   | refine LeO.ite ?_ ?_
   | refine LeO.bind ?_ (fun _ => ?_)
  ·intro y0 y1 y2 y3
   unfold carcanetref02_Lex.l4
   repeat' first
   | (with_reducible exact ih0 _ _ _)
   | (with_reducible exact ih1 _ _ _)
   | (with_reducible exact ih2 _ _ _ _ _)
   | (with_reducible exact ih3 _ _ _ _ _ _)
   | (with_reducible exact ih4 _ _ _ _ _)
   | (with_reducible exact ih5 _ _ _ _)
   | (with_reducible exact carcanetref01_Decode.mono _ _)
   | (with_reducible exact carcanetref02_kind.mono _ _ _)
   | (with_reducible exact LeO.refl _)
   | (with_reducible exact LeO.none _)
   | (with_reducible refine LeO.ite ?_ ?_)
   | (with_reducible refine LeO.bind ?_ (fun _ => ?_))
   | exact ih0 _ _ _
   | exact ih1 _ _ _
   | exact ih2 _ _ _ _ _
   | exact ih3 _ _ _ _ _ _
   | exact ih4 _ _ _ _ _
   | exact ih5 _ _ _ _
   | exact carcanetref01_Decode.mono _ _
   | exact carcanetref02_kind.mono _ _ _
   | exact LeO.none _
   | refine LeO.ite ?_ ?_
   | refine LeO.bind ?_ (fun _ => ?_)
theorem carcanetref02_Lex.mono : ∀ a0 k, LeO (carcanetref02_Lex.f k a0) (carcanetref02_Lex.f (k + 1) a0) := by
 intro a0 k
 obtain ⟨ih0, ih1, ih2, ih3, ih4, ih5⟩ := carcanetref02_Lex.mono_l k
 unfold carcanetref02_Lex.f
 repeat' first
   | (with_reducible exact ih0 _ _ _)
   | (with_reducible exact ih1 _ _ _)
   | (with_reducible exact ih2 _ _ _ _ _)
   | (with_reducible exact ih3 _ _ _ _ _ _)
   | (with_reducible exact ih4 _ _ _ _ _)
   | (with_reducible exact ih5 _ _ _ _)
   | (with_reducible exact carcanetref01_Decode.mono _ _)
   | (with_reducible exact carcanetref02_kind.mono _ _ _)
   | (with_reducible exact LeO.refl _)
   | (with_reducible exact LeO.none _)
   | (with_reducible refine LeO.ite ?_ ?_)
   | (with_reducible refine LeO.bind ?_ (fun _ => ?_))
   | exact ih0 _ _ _
   | exact ih1 _ _ _
   | exact ih2 _ _ _ _ _
   | exact ih3 _ _ _ _ _ _
   | exact ih4 _ _ _ _ _
   | exact ih5 _ _ _ _
   | exact carcanetref01_Decode.mono _ _
   | exact carcanetref02_kind.mono _ _ _
   | exact LeO.none _
   | refine LeO.ite ?_ ?_
   | refine LeO.bind ?_ (fun _ => ?_)
set_option maxHeartbeats 8000000 in
set_option maxRecDepth 100000 in
theorem carcanetref02_Lex.calls (k : Nat) (a0 : ByteArray) (r1 : List (S49)) (r2 : Int) (r3 : Int) (w : World) (h : carcanetref02_Lex.f k a0 = some (r1, r2, r3)) :
  Calls Tryz.prog 12 #[.string a0] w fun e w' => ∃ v0_ : Value, e = .returned (.tuple #[v0_, .int .i64 r2, .int .i64 r3]) ∧ Kd.R k49 49 w' w.heap.size (fun _ => True) v0_ r1 ∧ Below w.heap.size w w' := by
 have hu49 := Tryz.underlying49
 have HB := Aside0.mk (Below.refl w.heap.size w)
 have H : ((carcanetref01_Decode.f k a0).bind fun bt146 => (if bt146.2.2 = 0 then (carcanetref02_Lex.l0 k a0 ([] : List (S49)) 0) else (some (([] : List (S49)), bt146.2.1, bt146.2.2)))) = some (r1, r2, r3) := h
 clear h
 replace H := Option.bind_eq_some_iff.mp H
 obtain ⟨⟨t146, t147, t148⟩, A20, H⟩ := H
 replace H : (if t148 = 0 then (carcanetref02_Lex.l0 k a0 ([] : List (S49)) 0) else (some (([] : List (S49)), t147, t148))) = some (r1, r2, r3) := H
 have A2 := Aside0.mk A20
 clear A20
 by_cases c3 : t148 = 0
 ·rw [if_pos c3] at H
  have c3b0 : (t148 == 0) = true := beq_iff_eq.mpr c3
  have c3b1 : (t148 != 0) = false := bne_eq_false_iff_eq.mpr c3
  clear c3
  have H' := Aside0.mk H
  clear H
  go_enter Tryz.func12, Tryz.ntmps12
  go_wp2_with (first | ((with_reducible refine gate_callee (f := 33) rfl ?_); refine goesL_ (some 19) rfl rfl Tryz.func33 (by kernel_rfl) rfl #[.string a0] rfl (by (try simp only [List.map_toArray, List.map_cons, List.map_nil]); first | done | rfl | (simp only [List.length_drop, List.length_take]; rfl)) ?_; (with_reducible refine (carcanetref01_Decode.calls k a0 t146 t147 t148 _ A2.out).mono ?_); rintro e w4 ⟨v149, rfl, ho0, hb⟩; refine ⟨_, rfl, ?_⟩; have n0_ := Aside0.mk (Kd.R_lower ho0 (below_size (by repeat (first | (with_reducible first | exact HB.out | apply below_alloc | apply pw_below_drewN | apply below_drew1) | exact HB.out)))); have n1_ := Aside0.mk (below_step (by repeat (first | (with_reducible first | exact HB.out | apply below_alloc | apply pw_below_drewN | apply below_drew1) | exact HB.out)) hb); clear HB; have HO150 := n0_; have HB := n1_; clear n0_ n1_; (try clear hb); (try clear hb2); (try clear hk); (try clear hi); (try clear ho0)))
  go_loopg [8, 9] k (fun kq v8 v9 w' => ∃ (x8_1 : List (S49)) (x9_1 : Int), v9 = .int .i64 x9_1 ∧ Aside0 (carcanetref02_Lex.l0 kq a0 x8_1 x9_1 = some (r1, r2, r3)) ∧ Aside0 (kq ≤ k) ∧ Aside0 (Kd.R k49 49 w' w.heap.size (fun _ => True) v8 x8_1) ∧ Aside0 (Below w.heap.size w w'))
  case atStart => exact ⟨(([] : List (S49))), (0), (by first | rfl | (simp; done) | (simp [*]; done)), H', ⟨Nat.le_refl _⟩, ⟨by first | exact Kd.R_nil _ _ _ _ _ | exact Kd.N_nil _ _ _ _ _ | exact Kd.V_nil _ _ _ _ _ | exact Kd.Q_nil _ _ _ _ _ | exact Kd.S_nil _ _ _ _ _⟩, ⟨by repeat (first | (with_reducible first | exact HB.out | apply below_alloc | apply pw_below_drewN | apply below_drew1) | exact HB.out)⟩⟩
  case round =>
   clear H'
   try clear c1
   try clear p2
   try clear c3
   try clear c3b0
   try clear c3b1
   obtain ⟨x8_1, x9_1, rfl, HA, HK1, HO_8, HB⟩ := hrel
   cases gk with
   | zero => exact absurd HA.out (by simp [carcanetref02_Lex.l0])
   | succ k1 =>
    have H := HA.out
    clear HA
    simp only [carcanetref02_Lex.l0] at H
    by_cases c5 : x9_1 < (a0.size : Int)
    ·rw [if_pos c5] at H
     have c5b0 : decide (x9_1 < (a0.size : Int)) = true := decide_eq_true c5
     clear c5
     replace H := Option.bind_eq_some_iff.mp H
     obtain ⟨⟨t151, t152⟩, A60, H⟩ := H
     replace H : (if 0 ≤ x9_1 then (if (bt a0 x9_1) = 35 then (carcanetref02_Lex.l1 k1 a0 x8_1 (wrap64 (x9_1 + t152))) else (if t151 = 2 then (if x8_1.length < 3518437208883 then (carcanetref02_Lex.l0 k1 a0 (x8_1 ++ [(⟨4, x9_1, (⟨#[]⟩ : ByteArray), 0⟩ : S49)]) (wrap64 (x9_1 + t152))) else (none)) else (if t151 = 3 then (carcanetref02_Lex.l2 k1 a0 x8_1 x9_1 (wrap64 (x9_1 + t152)) 0) else (if t151 = 4 then (carcanetref02_Lex.l4 k1 a0 x8_1 x9_1 (wrap64 (x9_1 + t152))) else (if t151 = 5 then (if x9_1 ≤ (wrap64 (x9_1 + t152)) then (if (wrap64 (x9_1 + t152)) ≤ (a0.size : Int) then (if x8_1.length < 3518437208883 then (carcanetref02_Lex.l0 k1 a0 (x8_1 ++ [(⟨3, x9_1, a0.extract (x9_1 : Int).toNat ((wrap64 (x9_1 + t152)) : Int).toNat, 0⟩ : S49)]) (wrap64 (x9_1 + t152))) else (none)) else (none)) else (none)) else (if t151 = 1 then (carcanetref02_Lex.l0 k1 a0 x8_1 (wrap64 (x9_1 + t152))) else (some (([] : List (S49)), x9_1, 3)))))))) else (none)) = some (r1, r2, r3) := H
     have A6 := Aside0.mk A60
     clear A60
     by_cases c7 : 0 ≤ x9_1
     ·rw [if_pos c7] at H
      have c7b0 : decide (0 ≤ x9_1) = true := decide_eq_true c7
      clear c7
      by_cases c9 : (bt a0 x9_1) = 35
      ·rw [if_pos c9] at H
       have c9b0 : ((bt a0 x9_1) == 35) = true := beq_iff_eq.mpr c9
       have c9b1 : ((bt a0 x9_1) != 35) = false := bne_eq_false_iff_eq.mpr c9
       clear c9
       have H' := Aside0.mk H
       clear H
       go_wp2_with (first | ((with_reducible refine gate_callee (f := 34) rfl ?_); refine goesL_ (some 34) rfl rfl Tryz.func34 (by kernel_rfl) rfl #[.string a0, .int .i64 x9_1] rfl (by (try simp only [List.map_toArray, List.map_cons, List.map_nil]); first | done | rfl | (simp only [List.length_drop, List.length_take]; rfl)) ?_; (with_reducible refine (carcanetref02_kind.calls k1 a0 x9_1 t151 t152 _ A6.out).mono ?_); rintro e w' ⟨rfl, ⟨nd, rfl⟩⟩; refine ⟨_, rfl, ?_⟩; have p8 : 0 ≤ (x9_1 : Int) := of_decide_eq_true (by first | (with_reducible assumption) | assumption); have q8 : x9_1 < (a0.size : Int) := of_decide_eq_true (by first | (with_reducible assumption) | assumption); have hx8 := bt_at a0 x9_1; replace p8 := eq_true p8; replace q8 := eq_true q8))
       go_loopg [12] k1 (fun kq v12 w' => ∃ (x12_2 : Int), v12 = .int .i64 x12_2 ∧ Aside0 (carcanetref02_Lex.l1 kq a0 x8_1 x12_2 = some (r1, r2, r3)) ∧ Aside0 (kq ≤ k1) ∧ Aside0 (Kd.R k49 49 w' w.heap.size (fun _ => True) u8 x8_1) ∧ Aside0 (Below w.heap.size w w'))
       case atStart => exact ⟨(wrap64 (x9_1 + t152)), (by first | rfl | (simp; done) | (simp [*]; done)), H', ⟨Nat.le_refl _⟩, ⟨by (with_reducible repeat (first | apply Kd.R_alloc | apply Kd.R_drewN | apply Kd.R_drew)); exact HO_8.out⟩, ⟨by repeat (first | (with_reducible first | exact HB.out | apply below_alloc | apply pw_below_drewN | apply below_drew1) | exact HB.out)⟩⟩
       case round =>
        clear H'
        try clear c1
        try clear p2
        try clear c3
        try clear c3b0
        try clear c3b1
        try clear c5
        try clear c5b0
        try clear p6
        try clear c7
        try clear c7b0
        try clear p8
        try clear q8
        try clear hx8
        try clear c9
        try clear c9b0
        try clear c9b1
        try clear p2
        try clear p8
        try clear q8
        obtain ⟨x12_2, rfl, HA, HK2, HO_8, HB⟩ := hrel
        cases gk with
        | zero => exact absurd HA.out (by simp [carcanetref02_Lex.l1])
        | succ k2 =>
         have H := HA.out
         clear HA
         simp only [carcanetref02_Lex.l1] at H
         by_cases c10 : x12_2 < (a0.size : Int)
         ·rw [if_pos c10] at H
          have c10b0 : decide (x12_2 < (a0.size : Int)) = true := decide_eq_true c10
          clear c10
          by_cases c11 : 0 ≤ x12_2
          ·rw [if_pos c11] at H
           have c11b0 : decide (0 ≤ x12_2) = true := decide_eq_true c11
           clear c11
           by_cases c13 : (bt a0 x12_2) = 10
           ·rw [if_pos c13] at H
            have c13b0 : ((bt a0 x12_2) == 10) = true := beq_iff_eq.mpr c13
            have c13b1 : ((bt a0 x12_2) != 10) = false := bne_eq_false_iff_eq.mpr c13
            clear c13
            have H' := Aside0.mk H
            clear H
            have p12 : 0 ≤ (x12_2 : Int) := of_decide_eq_true (by first | (with_reducible assumption) | assumption)
            have q12 : x12_2 < (a0.size : Int) := of_decide_eq_true (by first | (with_reducible assumption) | assumption)
            have hx12 := bt_at a0 x12_2
            replace p12 := eq_true p12
            replace q12 := eq_true q12
            go_wp2
            go_roundg k2
            case measure => have := HK1.out; have := HK2.out; omega
            case rel => exact ⟨(x8_1), (x12_2), (by first | rfl | (simp; done) | (simp [*]; done)), H', ⟨by have := HK1.out; have := HK2.out; omega⟩, ⟨by (with_reducible repeat (first | apply Kd.R_alloc | apply Kd.R_drewN | apply Kd.R_drew)); exact HO_8.out⟩, ⟨by repeat (first | (with_reducible first | exact HB.out | apply below_alloc | apply pw_below_drewN | apply below_drew1) | exact HB.out)⟩⟩
           ·rw [if_neg c13] at H
            have c13b0 : ((bt a0 x12_2) == 10) = false := beq_eq_false_iff_ne.mpr c13
            have c13b1 : ((bt a0 x12_2) != 10) = true := bne_iff_ne.mpr c13
            have H' := Aside0.mk H
            clear H
            have p12 : 0 ≤ (x12_2 : Int) := of_decide_eq_true (by first | (with_reducible assumption) | assumption)
            have q12 : x12_2 < (a0.size : Int) := of_decide_eq_true (by first | (with_reducible assumption) | assumption)
            have hx12 := bt_at a0 x12_2
            replace p12 := eq_true p12
            replace q12 := eq_true q12
            go_wp2
            go_roundg k2
            case measure => have := HK1.out; have := HK2.out; omega
            case rel => exact ⟨(wrap64 (x12_2 + 1)), (by first | rfl | (simp; done) | (simp [*]; done)), H', ⟨by have := HK1.out; have := HK2.out; omega⟩, ⟨by (with_reducible repeat (first | apply Kd.R_alloc | apply Kd.R_drewN | apply Kd.R_drew)); exact HO_8.out⟩, ⟨by repeat (first | (with_reducible first | exact HB.out | apply below_alloc | apply pw_below_drewN | apply below_drew1) | exact HB.out)⟩⟩
          ·rw [if_neg c11] at H
           exact absurd H (by simp)
         ·rw [if_neg c10] at H
          have c10b0 : decide (x12_2 < (a0.size : Int)) = false := decide_eq_false c10
          clear c10
          have H' := Aside0.mk H
          clear H
          go_wp2
          go_roundg k2
          case measure => have := HK1.out; have := HK2.out; omega
          case rel => exact ⟨(x8_1), (x12_2), (by first | rfl | (simp; done) | (simp [*]; done)), H', ⟨by have := HK1.out; have := HK2.out; omega⟩, ⟨by (with_reducible repeat (first | apply Kd.R_alloc | apply Kd.R_drewN | apply Kd.R_drew)); exact HO_8.out⟩, ⟨by repeat (first | (with_reducible first | exact HB.out | apply below_alloc | apply pw_below_drewN | apply below_drew1) | exact HB.out)⟩⟩
      ·rw [if_neg c9] at H
       have c9b0 : ((bt a0 x9_1) == 35) = false := beq_eq_false_iff_ne.mpr c9
       have c9b1 : ((bt a0 x9_1) != 35) = true := bne_iff_ne.mpr c9
       by_cases c14 : t151 = 2
       ·rw [if_pos c14] at H
        have c14b0 : (t151 == 2) = true := beq_iff_eq.mpr c14
        have c14b1 : (t151 != 2) = false := bne_eq_false_iff_eq.mpr c14
        clear c14
        by_cases c15 : x8_1.length < 3518437208883
        ·rw [if_pos c15] at H
         have LMc15 := Aside0.mk c15
         clear c15
         obtain ⟨y153, hy153⟩ : ∃ y_ : List (S49), y_ = (x8_1 ++ [(⟨4, x9_1, (⟨#[]⟩ : ByteArray), 0⟩ : S49)]) := ⟨_, rfl⟩
         replace H : (carcanetref02_Lex.l0 k1 a0 y153 (wrap64 (x9_1 + t152))) = some (r1, r2, r3) := by first | (rw [hy153]; with_reducible exact H) | (have H2_ := (Option.bind_some _ _).symm.trans H; rw [hy153]; with_reducible exact H2_) | (have H2_ := (Option.bind_some _ _).symm.trans H; with_reducible exact H2_) | with_reducible exact H | (rw [hy153]; exact H) | exact H
         have Ny153 := Aside0.mk hy153
         clear hy153
         have H' := Aside0.mk H
         clear H
         go_wp2_with (first | ((with_reducible refine gate_callee (f := 34) rfl ?_); refine goesL_ (some 34) rfl rfl Tryz.func34 (by kernel_rfl) rfl #[.string a0, .int .i64 x9_1] rfl (by (try simp only [List.map_toArray, List.map_cons, List.map_nil]); first | done | rfl | (simp only [List.length_drop, List.length_take]; rfl)) ?_; (with_reducible refine (carcanetref02_kind.calls k1 a0 x9_1 t151 t152 _ A6.out).mono ?_); rintro e w' ⟨rfl, ⟨nd, rfl⟩⟩; refine ⟨_, rfl, ?_⟩; have p8 : 0 ≤ (x9_1 : Int) := of_decide_eq_true (by first | (with_reducible assumption) | assumption); have q8 : x9_1 < (a0.size : Int) := of_decide_eq_true (by first | (with_reducible assumption) | assumption); have hx8 := bt_at a0 x9_1; replace p8 := eq_true p8; replace q8 := eq_true q8) | ((with_reducible refine gate_builtin (b := .append) (xs := #[.tmp 58, .tmp 61]) rfl ?_); at_builtin; refine Kd.R_append k49 (w0 := w) w.heap.size rfl (.tmp 58) (.tmp 61) 46 49 (.agg #[(.int .i64 0), (.int .i64 0), (.string ⟨#[]⟩), (.int .i64 0)]) 40 rfl Tryz.underlying46 info49 rfl (by decide) (by omega) u8 x8_1 (⟨4, x9_1, (⟨#[]⟩ : ByteArray), 0⟩ : S49) [.int .i64 4, .int .i64 x9_1, .string (⟨#[]⟩ : ByteArray), .int .i64 0] (fun _ => True) (fun _ => False) rfl rfl ?aP (fun _ hk => hk.elim) ?aF ?aO ?aB ?aS ?aL ?_; (case aP => exact k49_mkM _ _ _ (⟨4, x9_1, (⟨#[]⟩ : ByteArray), 0⟩ : S49)); (case aB => exact (by repeat (first | (with_reducible first | exact HB.out | apply below_alloc | apply pw_below_drewN | apply below_drew1) | exact HB.out))); (case aF => exact (fun _ _ => trivial)); (case aO => exact (by (with_reducible repeat (first | apply Kd.R_alloc | apply Kd.R_drewN | apply Kd.R_drew)); exact HO_8.out)); (case aS => exact (below_size (by repeat (first | (with_reducible first | exact HB.out | apply below_alloc | apply pw_below_drewN | apply below_drew1) | exact HB.out)))); (case aL => have := LMc15.out; omega); intro v154 w16 ho hb hg hat; rw [← Ny153.out] at ho; have n0_ := Aside0.mk (hb); have n1_ := Aside0.mk (ho); clear HB; clear HO_8; have HB := n0_; have HO155 := n1_; clear n0_ n1_; clear ho hb hg hat))
         go_roundg k1
         case measure => have := HK1.out; omega
         case rel => exact ⟨(y153), (wrap64 (x9_1 + t152)), (by first | rfl | (simp; done) | (simp [*]; done)), H', ⟨by have := HK1.out; omega⟩, ⟨by (with_reducible repeat (first | apply Kd.R_alloc | apply Kd.R_drewN | apply Kd.R_drew)); exact HO155.out⟩, ⟨by repeat (first | (with_reducible first | exact HB.out | apply below_alloc | apply pw_below_drewN | apply below_drew1) | exact HB.out)⟩⟩
        ·rw [if_neg c15] at H
         exact absurd H (by simp)
       ·rw [if_neg c14] at H
        have c14b0 : (t151 == 2) = false := beq_eq_false_iff_ne.mpr c14
        have c14b1 : (t151 != 2) = true := bne_iff_ne.mpr c14
        by_cases c17 : t151 = 3
        ·rw [if_pos c17] at H
         have c17b0 : (t151 == 3) = true := beq_iff_eq.mpr c17
         have c17b1 : (t151 != 3) = false := bne_eq_false_iff_eq.mpr c17
         clear c17
         have HC18 := Aside0.mk H
         clear H
         go_upto_block 4 with (first | ((with_reducible refine gate_callee (f := 34) rfl ?_); refine goesL_ (some 34) rfl rfl Tryz.func34 (by kernel_rfl) rfl #[.string a0, .int .i64 x9_1] rfl (by (try simp only [List.map_toArray, List.map_cons, List.map_nil]); first | done | rfl | (simp only [List.length_drop, List.length_take]; rfl)) ?_; (with_reducible refine (carcanetref02_kind.calls k1 a0 x9_1 t151 t152 _ A6.out).mono ?_); rintro e w' ⟨rfl, ⟨nd, rfl⟩⟩; refine ⟨_, rfl, ?_⟩; have p8 : 0 ≤ (x9_1 : Int) := of_decide_eq_true (by first | (with_reducible assumption) | assumption); have q8 : x9_1 < (a0.size : Int) := of_decide_eq_true (by first | (with_reducible assumption) | assumption); have hx8 := bt_at a0 x9_1; replace p8 := eq_true p8; replace q8 := eq_true q8))
         (try simp only [Act.put, List.setIfInBounds_toArray, List.set_cons_zero, List.set_cons_succ])
         go_cut [12] (fun v12 wc => ∃ (kq : Nat) (x12_17 : Int), v12 = .int .i64 x12_17 ∧ Aside0 (carcanetref02_Lex.j3 kq a0 x8_1 x9_1 x12_17 0 = some (r1, r2, r3)) ∧ Aside0 (kq ≤ k1) ∧ Aside0 (Kd.R k49 49 wc w.heap.size (fun _ => True) u8 x8_1) ∧ Aside0 (Below w.heap.size w wc))
         case first =>
          have H := HC18.out
          clear HC18
          have H' := Aside0.mk H
          clear H
          go_wp2
          go_loopg [12] k1 (fun kq v12 w' => ∃ (x12_2 : Int), v12 = .int .i64 x12_2 ∧ Aside0 (carcanetref02_Lex.l2 kq a0 x8_1 x9_1 x12_2 0 = some (r1, r2, r3)) ∧ Aside0 (kq ≤ k1) ∧ Aside0 (Kd.R k49 49 w' w.heap.size (fun _ => True) u8 x8_1) ∧ Aside0 (Below w.heap.size w w'))
          case atStart => exact ⟨(wrap64 (x9_1 + t152)), (by first | rfl | (simp; done) | (simp [*]; done)), H', ⟨Nat.le_refl _⟩, ⟨by (with_reducible repeat (first | apply Kd.R_alloc | apply Kd.R_drewN | apply Kd.R_drew)); exact HO_8.out⟩, ⟨by repeat (first | (with_reducible first | exact HB.out | apply below_alloc | apply pw_below_drewN | apply below_drew1) | exact HB.out)⟩⟩
          case round =>
           clear H'
           try clear c1
           try clear p1
           try clear q1
           try clear hx1
           try clear p2
           try clear c3
           try clear c3b0
           try clear c3b1
           try clear c5
           try clear c5b0
           try clear p6
           try clear c7
           try clear c7b0
           try clear p8
           try clear q8
           try clear hx8
           try clear c9
           try clear c9b0
           try clear c9b1
           try clear c10
           try clear c10b0
           try clear c11
           try clear c11b0
           try clear c12
           try clear p12
           try clear q12
           try clear hx12
           try clear c13
           try clear c13b0
           try clear c13b1
           try clear c14
           try clear c14b0
           try clear c14b1
           try clear c15
           try clear c17
           try clear c17b0
           try clear c17b1
           try clear p12
           try clear p2
           try clear p6
           try clear p8
           try clear q12
           try clear q8
           obtain ⟨x12_2, rfl, HA, HK2, HO_8, HB⟩ := hrel
           cases gk with
           | zero => exact absurd HA.out (by simp [carcanetref02_Lex.l2])
           | succ k2 =>
            have H := HA.out
            clear HA
            simp only [carcanetref02_Lex.l2] at H
            by_cases c19 : x12_2 < (a0.size : Int)
            ·rw [if_pos c19] at H
             have c19b0 : decide (x12_2 < (a0.size : Int)) = true := decide_eq_true c19
             clear c19
             (first | rw [c19b0] | (simp only [i64_w, i32_w]; rw [c19b0]) | skip)
             by_cases c20 : 0 ≤ x12_2
             ·rw [if_pos c20] at H
              have c20b0 : decide (0 ≤ x12_2) = true := decide_eq_true c20
              clear c20
              by_cases c22 : (bt a0 x12_2) ≥ 48
              ·rw [if_pos c22] at H
               have c22b0 : decide (48 ≤ (bt a0 x12_2)) = true := decide_eq_true c22
               clear c22
               by_cases c24 : (bt a0 x12_2) ≤ 57
               ·rw [if_pos c24] at H
                have c24b0 : decide ((bt a0 x12_2) ≤ 57) = true := decide_eq_true c24
                clear c24
                have H' := Aside0.mk H
                clear H
                have p21 : 0 ≤ (x12_2 : Int) := of_decide_eq_true (by first | (with_reducible assumption) | assumption)
                have q21 : x12_2 < (a0.size : Int) := of_decide_eq_true (by first | (with_reducible assumption) | assumption)
                have hx21 := bt_at a0 x12_2
                replace p21 := eq_true p21
                replace q21 := eq_true q21
                have p23 : 0 ≤ (x12_2 : Int) := of_decide_eq_true (by first | (with_reducible assumption) | assumption)
                have q23 : x12_2 < (a0.size : Int) := of_decide_eq_true (by first | (with_reducible assumption) | assumption)
                have hx23 := bt_at a0 x12_2
                replace p23 := eq_true p23
                replace q23 := eq_true q23
                go_wp2
                go_roundg k2
                case measure => have := HK1.out; have := HK2.out; omega
                case rel => exact ⟨(wrap64 (x12_2 + 1)), (by first | rfl | (simp; done) | (simp [*]; done)), H', ⟨by have := HK1.out; have := HK2.out; omega⟩, ⟨by (with_reducible repeat (first | apply Kd.R_alloc | apply Kd.R_drewN | apply Kd.R_drew)); exact HO_8.out⟩, ⟨by repeat (first | (with_reducible first | exact HB.out | apply below_alloc | apply pw_below_drewN | apply below_drew1) | exact HB.out)⟩⟩
               ·rw [if_neg c24] at H
                have c24b0 : decide ((bt a0 x12_2) ≤ 57) = false := decide_eq_false c24
                clear c24
                have H' := Aside0.mk H
                clear H
                have p21 : 0 ≤ (x12_2 : Int) := of_decide_eq_true (by first | (with_reducible assumption) | assumption)
                have q21 : x12_2 < (a0.size : Int) := of_decide_eq_true (by first | (with_reducible assumption) | assumption)
                have hx21 := bt_at a0 x12_2
                replace p21 := eq_true p21
                replace q21 := eq_true q21
                have p23 : 0 ≤ (x12_2 : Int) := of_decide_eq_true (by first | (with_reducible assumption) | assumption)
                have q23 : x12_2 < (a0.size : Int) := of_decide_eq_true (by first | (with_reducible assumption) | assumption)
                have hx23 := bt_at a0 x12_2
                replace p23 := eq_true p23
                replace q23 := eq_true q23
                go_wp2
                go_meet
                case rel => exact ⟨_, (x12_2), (by first | rfl | (simp; done) | (simp [*]; done)), H', ⟨by have := HK1.out; have := HK2.out; first | omega | exact Nat.le_refl _⟩, ⟨by (with_reducible repeat (first | apply Kd.R_alloc | apply Kd.R_drewN | apply Kd.R_drew)); exact HO_8.out⟩, ⟨by repeat (first | (with_reducible first | exact HB.out | apply below_alloc | apply pw_below_drewN | apply below_drew1) | exact HB.out)⟩⟩
              ·rw [if_neg c22] at H
               have c22b0 : decide (48 ≤ (bt a0 x12_2)) = false := decide_eq_false c22
               clear c22
               have H' := Aside0.mk H
               clear H
               have p21 : 0 ≤ (x12_2 : Int) := of_decide_eq_true (by first | (with_reducible assumption) | assumption)
               have q21 : x12_2 < (a0.size : Int) := of_decide_eq_true (by first | (with_reducible assumption) | assumption)
               have hx21 := bt_at a0 x12_2
               replace p21 := eq_true p21
               replace q21 := eq_true q21
               go_wp2
               go_meet
               case rel => exact ⟨_, (x12_2), (by first | rfl | (simp; done) | (simp [*]; done)), H', ⟨by have := HK1.out; have := HK2.out; first | omega | exact Nat.le_refl _⟩, ⟨by (with_reducible repeat (first | apply Kd.R_alloc | apply Kd.R_drewN | apply Kd.R_drew)); exact HO_8.out⟩, ⟨by repeat (first | (with_reducible first | exact HB.out | apply below_alloc | apply pw_below_drewN | apply below_drew1) | exact HB.out)⟩⟩
             ·rw [if_neg c20] at H
              exact absurd H (by simp)
            ·rw [if_neg c19] at H
             have c19b0 : decide (x12_2 < (a0.size : Int)) = false := decide_eq_false c19
             clear c19
             (first | rw [c19b0] | (simp only [i64_w, i32_w]; rw [c19b0]) | skip)
             have H' := Aside0.mk H
             clear H
             go_wp2
             go_meet
             case rel => exact ⟨_, (x12_2), (by first | rfl | (simp; done) | (simp [*]; done)), H', ⟨by have := HK1.out; have := HK2.out; first | omega | exact Nat.le_refl _⟩, ⟨by (with_reducible repeat (first | apply Kd.R_alloc | apply Kd.R_drewN | apply Kd.R_drew)); exact HO_8.out⟩, ⟨by repeat (first | (with_reducible first | exact HB.out | apply below_alloc | apply pw_below_drewN | apply below_drew1) | exact HB.out)⟩⟩
         case rest =>
          clear HC18
          try clear c1
          try clear p1
          try clear q1
          try clear hx1
          try clear c2
          try clear p2
          try clear q2
          try clear hx2
          try clear c3
          try clear c3b0
          try clear c3b1
          try clear c5
          try clear c5b0
          try clear p6
          try clear c7
          try clear c7b0
          try clear p8
          try clear q8
          try clear hx8
          try clear c9
          try clear c9b0
          try clear c9b1
          try clear c10
          try clear c10b0
          try clear c11
          try clear c11b0
          try clear c12
          try clear p12
          try clear q12
          try clear hx12
          try clear c13
          try clear c13b0
          try clear c13b1
          try clear c14
          try clear c14b0
          try clear c14b1
          try clear c15
          try clear c17
          try clear c17b0
          try clear c17b1
          try clear c19
          try clear c19b0
          try clear c20
          try clear c20b0
          try clear p21
          try clear q21
          try clear hx21
          try clear c22
          try clear c22b0
          try clear p23
          try clear q23
          try clear hx23
          try clear c24
          try clear c24b0
          try clear p1
          try clear p12
          try clear p2
          try clear p21
          try clear p23
          try clear p6
          try clear p8
          try clear q1
          try clear q12
          try clear q21
          try clear q23
          try clear q8
          obtain ⟨kq, x12_17, rfl, HA, HJ17, HO_8, HB⟩ := hcut
          cases kq with
          | zero => exact absurd HA.out (by simp [carcanetref02_Lex.j3])
          | succ kj17 =>
           have H := HA.out
           clear HA
           simp only [carcanetref02_Lex.j3] at H
           by_cases c25 : (wrap64 (x12_17 - x9_1)) > 9
           ·rw [if_pos c25] at H
            have c25b0 : decide (9 < (wrap64 (x12_17 - x9_1))) = true := decide_eq_true c25
            clear c25
            simp only [Option.some.injEq, Prod.mk.injEq] at H
            obtain ⟨rfl, rfl, rfl⟩ := H
            go_wp2
            go_ret3
            exact ⟨_, by first | rfl | (simp [errW_none, errW_some] <;> rfl) | (simp [*, errW_none, errW_some] <;> rfl), by first | exact Kd.R_nil _ _ _ _ _ | exact Kd.N_nil _ _ _ _ _ | exact Kd.V_nil _ _ _ _ _ | exact Kd.Q_nil _ _ _ _ _ | exact Kd.S_nil _ _ _ _ _, by repeat (first | (with_reducible first | exact HB.out | apply below_alloc | apply pw_below_drewN | apply below_drew1) | exact HB.out)⟩
           ·rw [if_neg c25] at H
            have c25b0 : decide (9 < (wrap64 (x12_17 - x9_1))) = false := decide_eq_false c25
            clear c25
            have H' := Aside0.mk H
            clear H
            go_wp2
            go_loopg [13, 14] kj17 (fun kq v13 v14 w' => ∃ (x13_3 : Int) (x14_3 : Int), v13 = .int .i64 x13_3 ∧ v14 = .int .i64 x14_3 ∧ Aside0 (carcanetref02_Lex.l3 kq a0 x8_1 x9_1 x12_17 x13_3 x14_3 = some (r1, r2, r3)) ∧ Aside0 (kq ≤ kj17) ∧ Aside0 (Kd.R k49 49 w' w.heap.size (fun _ => True) u8 x8_1) ∧ Aside0 (Below w.heap.size w w'))
            case atStart => exact ⟨(0), (x9_1), (by first | rfl | (simp; done) | (simp [*]; done)), (by first | rfl | (simp; done) | (simp [*]; done)), H', ⟨Nat.le_refl _⟩, ⟨by (with_reducible repeat (first | apply Kd.R_alloc | apply Kd.R_drewN | apply Kd.R_drew)); exact HO_8.out⟩, ⟨by repeat (first | (with_reducible first | exact HB.out | apply below_alloc | apply pw_below_drewN | apply below_drew1) | exact HB.out)⟩⟩
            case round =>
             clear H'
             try clear c1
             try clear p1
             try clear q1
             try clear hx1
             try clear c2
             try clear p2
             try clear q2
             try clear hx2
             try clear c3
             try clear c3b0
             try clear c3b1
             try clear c5
             try clear c5b0
             try clear p6
             try clear c7
             try clear c7b0
             try clear p8
             try clear q8
             try clear hx8
             try clear c9
             try clear c9b0
             try clear c9b1
             try clear c10
             try clear c10b0
             try clear c11
             try clear c11b0
             try clear c12
             try clear p12
             try clear q12
             try clear hx12
             try clear c13
             try clear c13b0
             try clear c13b1
             try clear c14
             try clear c14b0
             try clear c14b1
             try clear c15
             try clear c17
             try clear c17b0
             try clear c17b1
             try clear c19
             try clear c19b0
             try clear c20
             try clear c20b0
             try clear p21
             try clear q21
             try clear hx21
             try clear c22
             try clear c22b0
             try clear p23
             try clear q23
             try clear hx23
             try clear c24
             try clear c24b0
             try clear c25
             try clear c25b0
             try clear p1
             try clear p12
             try clear p2
             try clear p21
             try clear p23
             try clear p6
             try clear p8
             try clear q1
             try clear q12
             try clear q2
             try clear q21
             try clear q23
             try clear q8
             obtain ⟨x13_3, x14_3, rfl, rfl, HA, HK3, HO_8, HB⟩ := hrel
             cases gk with
             | zero => exact absurd HA.out (by simp [carcanetref02_Lex.l3])
             | succ k3 =>
              have H := HA.out
              clear HA
              simp only [carcanetref02_Lex.l3] at H
              by_cases c26 : x14_3 < x12_17
              ·rw [if_pos c26] at H
               have c26b0 : decide (x14_3 < x12_17) = true := decide_eq_true c26
               clear c26
               by_cases c27 : 0 ≤ x14_3
               ·rw [if_pos c27] at H
                have c27b0 : decide (0 ≤ x14_3) = true := decide_eq_true c27
                clear c27
                by_cases c28 : x14_3 < (a0.size : Int)
                ·rw [if_pos c28] at H
                 have c28b0 : decide (x14_3 < (a0.size : Int)) = true := decide_eq_true c28
                 clear c28
                 have H' := Aside0.mk H
                 clear H
                 have p29 : 0 ≤ (x14_3 : Int) := of_decide_eq_true (by first | (with_reducible assumption) | assumption)
                 have q29 : x14_3 < (a0.size : Int) := of_decide_eq_true (by first | (with_reducible assumption) | assumption)
                 have hx29 := bt_at a0 x14_3
                 replace p29 := eq_true p29
                 replace q29 := eq_true q29
                 go_wp2
                 go_roundg k3
                 case measure => have := HK1.out; have := HJ17.out; have := HK3.out; omega
                 case rel => exact ⟨(wrap64 ((wrap64 ((wrap64 (x13_3 * 10)) + (wrap64 (bt a0 x14_3)))) - 48)), (wrap64 (x14_3 + 1)), (by first | rfl | (simp; done) | (simp [*]; done)), (by first | rfl | (simp; done) | (simp [*]; done)), H', ⟨by have := HK1.out; have := HJ17.out; have := HK3.out; omega⟩, ⟨by (with_reducible repeat (first | apply Kd.R_alloc | apply Kd.R_drewN | apply Kd.R_drew)); exact HO_8.out⟩, ⟨by repeat (first | (with_reducible first | exact HB.out | apply below_alloc | apply pw_below_drewN | apply below_drew1) | exact HB.out)⟩⟩
                ·rw [if_neg c28] at H
                 exact absurd H (by simp)
               ·rw [if_neg c27] at H
                exact absurd H (by simp)
              ·rw [if_neg c26] at H
               have c26b0 : decide (x14_3 < x12_17) = false := decide_eq_false c26
               clear c26
               by_cases c30 : 0 ≤ x9_1
               ·rw [if_pos c30] at H
                have c30b0 := eq_true c30
                have c30b1 : decide (0 ≤ x9_1) = true := decide_eq_true c30
                clear c30
                by_cases c31 : x9_1 ≤ x12_17
                ·rw [if_pos c31] at H
                 have c31b0 := eq_true c31
                 have c31b1 : decide (x9_1 ≤ x12_17) = true := decide_eq_true c31
                 clear c31
                 by_cases c32 : x12_17 ≤ (a0.size : Int)
                 ·rw [if_pos c32] at H
                  have c32b0 := eq_true c32
                  have c32b1 : decide (x12_17 ≤ (a0.size : Int)) = true := decide_eq_true c32
                  clear c32
                  by_cases c33 : x8_1.length < 3518437208883
                  ·rw [if_pos c33] at H
                   have LMc33 := Aside0.mk c33
                   clear c33
                   obtain ⟨y156, hy156⟩ : ∃ y_ : List (S49), y_ = (x8_1 ++ [(⟨2, x9_1, a0.extract (x9_1 : Int).toNat (x12_17 : Int).toNat, x13_3⟩ : S49)]) := ⟨_, rfl⟩
                   replace H : (carcanetref02_Lex.l0 k3 a0 y156 x12_17) = some (r1, r2, r3) := by first | (rw [hy156]; with_reducible exact H) | (have H2_ := (Option.bind_some _ _).symm.trans H; rw [hy156]; with_reducible exact H2_) | (have H2_ := (Option.bind_some _ _).symm.trans H; with_reducible exact H2_) | with_reducible exact H | (rw [hy156]; exact H) | exact H
                   have Ny156 := Aside0.mk hy156
                   clear hy156
                   have H' := Aside0.mk H
                   clear H
                   go_wp2_with (first | ((with_reducible refine gate_builtin (b := .append) (xs := #[.tmp 102, .tmp 110]) rfl ?_); at_builtin; refine Kd.R_append k49 (w0 := w) w.heap.size rfl (.tmp 102) (.tmp 110) 46 49 (.agg #[(.int .i64 0), (.int .i64 0), (.string ⟨#[]⟩), (.int .i64 0)]) 40 rfl Tryz.underlying46 info49 rfl (by decide) (by omega) u8 x8_1 (⟨2, x9_1, a0.extract (x9_1 : Int).toNat (x12_17 : Int).toNat, x13_3⟩ : S49) [.int .i64 2, .int .i64 x9_1, .string (a0.extract (x9_1 : Int).toNat (x12_17 : Int).toNat), .int .i64 x13_3] (fun _ => True) (fun _ => False) rfl rfl ?aP (fun _ hk => hk.elim) ?aF ?aO ?aB ?aS ?aL ?_; (case aP => exact k49_mkM _ _ _ (⟨2, x9_1, a0.extract (x9_1 : Int).toNat (x12_17 : Int).toNat, x13_3⟩ : S49)); (case aB => exact (by repeat (first | (with_reducible first | exact HB.out | apply below_alloc | apply pw_below_drewN | apply below_drew1) | exact HB.out))); (case aF => exact (fun _ _ => trivial)); (case aO => exact (by (with_reducible repeat (first | apply Kd.R_alloc | apply Kd.R_drewN | apply Kd.R_drew)); exact HO_8.out)); (case aS => exact (below_size (by repeat (first | (with_reducible first | exact HB.out | apply below_alloc | apply pw_below_drewN | apply below_drew1) | exact HB.out)))); (case aL => have := LMc33.out; omega); intro v157 w34 ho hb hg hat; rw [← Ny156.out] at ho; have n0_ := Aside0.mk (hb); have n1_ := Aside0.mk (ho); clear HB; clear HO_8; have HB := n0_; have HO158 := n1_; clear n0_ n1_; clear ho hb hg hat))
                   go_roundg k3
                   case measure => have := HK1.out; have := HJ17.out; have := HK3.out; omega
                   case rel => exact ⟨(y156), (x12_17), (by first | rfl | (simp; done) | (simp [*]; done)), H', ⟨by have := HK1.out; have := HJ17.out; have := HK3.out; omega⟩, ⟨by (with_reducible repeat (first | apply Kd.R_alloc | apply Kd.R_drewN | apply Kd.R_drew)); exact HO158.out⟩, ⟨by repeat (first | (with_reducible first | exact HB.out | apply below_alloc | apply pw_below_drewN | apply below_drew1) | exact HB.out)⟩⟩
                  ·rw [if_neg c33] at H
                   exact absurd H (by simp)
                 ·rw [if_neg c32] at H
                  exact absurd H (by simp)
                ·rw [if_neg c31] at H
                 exact absurd H (by simp)
               ·rw [if_neg c30] at H
                exact absurd H (by simp)
        ·rw [if_neg c17] at H
         have c17b0 : (t151 == 3) = false := beq_eq_false_iff_ne.mpr c17
         have c17b1 : (t151 != 3) = true := bne_iff_ne.mpr c17
         by_cases c35 : t151 = 4
         ·rw [if_pos c35] at H
          have c35b0 : (t151 == 4) = true := beq_iff_eq.mpr c35
          have c35b1 : (t151 != 4) = false := bne_eq_false_iff_eq.mpr c35
          clear c35
          have H' := Aside0.mk H
          clear H
          go_wp2_with (first | ((with_reducible refine gate_callee (f := 34) rfl ?_); refine goesL_ (some 34) rfl rfl Tryz.func34 (by kernel_rfl) rfl #[.string a0, .int .i64 x9_1] rfl (by (try simp only [List.map_toArray, List.map_cons, List.map_nil]); first | done | rfl | (simp only [List.length_drop, List.length_take]; rfl)) ?_; (with_reducible refine (carcanetref02_kind.calls k1 a0 x9_1 t151 t152 _ A6.out).mono ?_); rintro e w' ⟨rfl, ⟨nd, rfl⟩⟩; refine ⟨_, rfl, ?_⟩; have p8 : 0 ≤ (x9_1 : Int) := of_decide_eq_true (by first | (with_reducible assumption) | assumption); have q8 : x9_1 < (a0.size : Int) := of_decide_eq_true (by first | (with_reducible assumption) | assumption); have hx8 := bt_at a0 x9_1; replace p8 := eq_true p8; replace q8 := eq_true q8))
          go_loopg [12] k1 (fun kq v12 w' => ∃ (x12_2 : Int), v12 = .int .i64 x12_2 ∧ Aside0 (carcanetref02_Lex.l4 kq a0 x8_1 x9_1 x12_2 = some (r1, r2, r3)) ∧ Aside0 (kq ≤ k1) ∧ Aside0 (Kd.R k49 49 w' w.heap.size (fun _ => True) u8 x8_1) ∧ Aside0 (Below w.heap.size w w'))
          case atStart => exact ⟨(wrap64 (x9_1 + t152)), (by first | rfl | (simp; done) | (simp [*]; done)), H', ⟨Nat.le_refl _⟩, ⟨by (with_reducible repeat (first | apply Kd.R_alloc | apply Kd.R_drewN | apply Kd.R_drew)); exact HO_8.out⟩, ⟨by repeat (first | (with_reducible first | exact HB.out | apply below_alloc | apply pw_below_drewN | apply below_drew1) | exact HB.out)⟩⟩
          case round =>
           clear H'
           try clear c1
           try clear p1
           try clear q1
           try clear hx1
           try clear c2
           try clear p2
           try clear q2
           try clear hx2
           try clear c3
           try clear c3b0
           try clear c3b1
           try clear c5
           try clear c5b0
           try clear p6
           try clear c7
           try clear c7b0
           try clear p8
           try clear q8
           try clear hx8
           try clear c9
           try clear c9b0
           try clear c9b1
           try clear c10
           try clear c10b0
           try clear c11
           try clear c11b0
           try clear c12
           try clear p12
           try clear q12
           try clear hx12
           try clear c13
           try clear c13b0
           try clear c13b1
           try clear c14
           try clear c14b0
           try clear c14b1
           try clear c15
           try clear c17
           try clear c17b0
           try clear c17b1
           try clear c19
           try clear c19b0
           try clear c20
           try clear c20b0
           try clear p21
           try clear q21
           try clear hx21
           try clear c22
           try clear c22b0
           try clear p23
           try clear q23
           try clear hx23
           try clear c24
           try clear c24b0
           try clear c25
           try clear c25b0
           try clear c26
           try clear c26b0
           try clear c27
           try clear c27b0
           try clear c28
           try clear c28b0
           try clear p29
           try clear q29
           try clear hx29
           try clear c30
           try clear c30b0
           try clear c30b1
           try clear c31
           try clear c31b0
           try clear c31b1
           try clear c32
           try clear c32b0
           try clear c32b1
           try clear c33
           try clear c34
           try clear c35
           try clear c35b0
           try clear c35b1
           try clear p1
           try clear p12
           try clear p2
           try clear p21
           try clear p23
           try clear p29
           try clear p6
           try clear p8
           try clear q1
           try clear q12
           try clear q2
           try clear q21
           try clear q23
           try clear q29
           try clear q8
           obtain ⟨x12_2, rfl, HA, HK2, HO_8, HB⟩ := hrel
           cases gk with
           | zero => exact absurd HA.out (by simp [carcanetref02_Lex.l4])
           | succ k2 =>
            have H := HA.out
            clear HA
            simp only [carcanetref02_Lex.l4] at H
            by_cases c36 : x12_2 < (a0.size : Int)
            ·rw [if_pos c36] at H
             have c36b0 : decide (x12_2 < (a0.size : Int)) = true := decide_eq_true c36
             clear c36
             replace H := Option.bind_eq_some_iff.mp H
             obtain ⟨⟨t159, t160⟩, A370, H⟩ := H
             replace H : (if t159 = 3 then (carcanetref02_Lex.l4 k2 a0 x8_1 x9_1 (wrap64 (x12_2 + t160))) else (if t159 = 4 then (carcanetref02_Lex.l4 k2 a0 x8_1 x9_1 (wrap64 (x12_2 + t160))) else (if (wrap64 (x12_2 - x9_1)) > 32 then (some (([] : List (S49)), x9_1, 5)) else (if 0 ≤ x9_1 then (if x9_1 ≤ x12_2 then (if x12_2 ≤ (a0.size : Int) then (if x8_1.length < 3518437208883 then (carcanetref02_Lex.l0 k2 a0 (x8_1 ++ [(⟨1, x9_1, a0.extract (x9_1 : Int).toNat (x12_2 : Int).toNat, 0⟩ : S49)]) x12_2) else (none)) else (none)) else (none)) else (none))))) = some (r1, r2, r3) := H
             have A37 := Aside0.mk A370
             clear A370
             by_cases c38 : t159 = 3
             ·rw [if_pos c38] at H
              have c38b0 : (t159 == 3) = true := beq_iff_eq.mpr c38
              have c38b1 : (t159 != 3) = false := bne_eq_false_iff_eq.mpr c38
              clear c38
              have H' := Aside0.mk H
              clear H
              go_wp2_with (first | ((with_reducible refine gate_callee (f := 34) rfl ?_); refine goesL_ (some 121) rfl rfl Tryz.func34 (by kernel_rfl) rfl #[.string a0, .int .i64 x12_2] rfl (by (try simp only [List.map_toArray, List.map_cons, List.map_nil]); first | done | rfl | (simp only [List.length_drop, List.length_take]; rfl)) ?_; (with_reducible refine (carcanetref02_kind.calls k2 a0 x12_2 t159 t160 _ A37.out).mono ?_); rintro e w' ⟨rfl, ⟨nd, rfl⟩⟩; refine ⟨_, rfl, ?_⟩))
              go_roundg k2
              case measure => have := HK1.out; have := HK2.out; omega
              case rel => exact ⟨(wrap64 (x12_2 + t160)), (by first | rfl | (simp; done) | (simp [*]; done)), H', ⟨by have := HK1.out; have := HK2.out; omega⟩, ⟨by (with_reducible repeat (first | apply Kd.R_alloc | apply Kd.R_drewN | apply Kd.R_drew)); exact HO_8.out⟩, ⟨by repeat (first | (with_reducible first | exact HB.out | apply below_alloc | apply pw_below_drewN | apply below_drew1) | exact HB.out)⟩⟩
             ·rw [if_neg c38] at H
              have c38b0 : (t159 == 3) = false := beq_eq_false_iff_ne.mpr c38
              have c38b1 : (t159 != 3) = true := bne_iff_ne.mpr c38
              by_cases c39 : t159 = 4
              ·rw [if_pos c39] at H
               have c39b0 : (t159 == 4) = true := beq_iff_eq.mpr c39
               have c39b1 : (t159 != 4) = false := bne_eq_false_iff_eq.mpr c39
               clear c39
               have H' := Aside0.mk H
               clear H
               go_wp2_with (first | ((with_reducible refine gate_callee (f := 34) rfl ?_); refine goesL_ (some 121) rfl rfl Tryz.func34 (by kernel_rfl) rfl #[.string a0, .int .i64 x12_2] rfl (by (try simp only [List.map_toArray, List.map_cons, List.map_nil]); first | done | rfl | (simp only [List.length_drop, List.length_take]; rfl)) ?_; (with_reducible refine (carcanetref02_kind.calls k2 a0 x12_2 t159 t160 _ A37.out).mono ?_); rintro e w' ⟨rfl, ⟨nd, rfl⟩⟩; refine ⟨_, rfl, ?_⟩))
               go_roundg k2
               case measure => have := HK1.out; have := HK2.out; omega
               case rel => exact ⟨(wrap64 (x12_2 + t160)), (by first | rfl | (simp; done) | (simp [*]; done)), H', ⟨by have := HK1.out; have := HK2.out; omega⟩, ⟨by (with_reducible repeat (first | apply Kd.R_alloc | apply Kd.R_drewN | apply Kd.R_drew)); exact HO_8.out⟩, ⟨by repeat (first | (with_reducible first | exact HB.out | apply below_alloc | apply pw_below_drewN | apply below_drew1) | exact HB.out)⟩⟩
              ·rw [if_neg c39] at H
               have c39b0 : (t159 == 4) = false := beq_eq_false_iff_ne.mpr c39
               have c39b1 : (t159 != 4) = true := bne_iff_ne.mpr c39
               by_cases c40 : (wrap64 (x12_2 - x9_1)) > 32
               ·rw [if_pos c40] at H
                have c40b0 : decide (32 < (wrap64 (x12_2 - x9_1))) = true := decide_eq_true c40
                clear c40
                simp only [Option.some.injEq, Prod.mk.injEq] at H
                obtain ⟨rfl, rfl, rfl⟩ := H
                go_wp2_with (first | ((with_reducible refine gate_callee (f := 34) rfl ?_); refine goesL_ (some 121) rfl rfl Tryz.func34 (by kernel_rfl) rfl #[.string a0, .int .i64 x12_2] rfl (by (try simp only [List.map_toArray, List.map_cons, List.map_nil]); first | done | rfl | (simp only [List.length_drop, List.length_take]; rfl)) ?_; (with_reducible refine (carcanetref02_kind.calls k2 a0 x12_2 t159 t160 _ A37.out).mono ?_); rintro e w' ⟨rfl, ⟨nd, rfl⟩⟩; refine ⟨_, rfl, ?_⟩))
                go_ret3
                exact ⟨_, by first | rfl | (simp [errW_none, errW_some] <;> rfl) | (simp [*, errW_none, errW_some] <;> rfl), by first | exact Kd.R_nil _ _ _ _ _ | exact Kd.N_nil _ _ _ _ _ | exact Kd.V_nil _ _ _ _ _ | exact Kd.Q_nil _ _ _ _ _ | exact Kd.S_nil _ _ _ _ _, by repeat (first | (with_reducible first | exact HB.out | apply below_alloc | apply pw_below_drewN | apply below_drew1) | exact HB.out)⟩
               ·rw [if_neg c40] at H
                have c40b0 : decide (32 < (wrap64 (x12_2 - x9_1))) = false := decide_eq_false c40
                clear c40
                by_cases c41 : 0 ≤ x9_1
                ·rw [if_pos c41] at H
                 have c41b0 := eq_true c41
                 have c41b1 : decide (0 ≤ x9_1) = true := decide_eq_true c41
                 clear c41
                 by_cases c42 : x9_1 ≤ x12_2
                 ·rw [if_pos c42] at H
                  have c42b0 := eq_true c42
                  have c42b1 : decide (x9_1 ≤ x12_2) = true := decide_eq_true c42
                  clear c42
                  by_cases c43 : x12_2 ≤ (a0.size : Int)
                  ·rw [if_pos c43] at H
                   have c43b0 := eq_true c43
                   have c43b1 : decide (x12_2 ≤ (a0.size : Int)) = true := decide_eq_true c43
                   clear c43
                   by_cases c44 : x8_1.length < 3518437208883
                   ·rw [if_pos c44] at H
                    have LMc44 := Aside0.mk c44
                    clear c44
                    obtain ⟨y161, hy161⟩ : ∃ y_ : List (S49), y_ = (x8_1 ++ [(⟨1, x9_1, a0.extract (x9_1 : Int).toNat (x12_2 : Int).toNat, 0⟩ : S49)]) := ⟨_, rfl⟩
                    replace H : (carcanetref02_Lex.l0 k2 a0 y161 x12_2) = some (r1, r2, r3) := by first | (rw [hy161]; with_reducible exact H) | (have H2_ := (Option.bind_some _ _).symm.trans H; rw [hy161]; with_reducible exact H2_) | (have H2_ := (Option.bind_some _ _).symm.trans H; with_reducible exact H2_) | with_reducible exact H | (rw [hy161]; exact H) | exact H
                    have Ny161 := Aside0.mk hy161
                    clear hy161
                    have H' := Aside0.mk H
                    clear H
                    go_wp2_with (first | ((with_reducible refine gate_callee (f := 34) rfl ?_); refine goesL_ (some 121) rfl rfl Tryz.func34 (by kernel_rfl) rfl #[.string a0, .int .i64 x12_2] rfl (by (try simp only [List.map_toArray, List.map_cons, List.map_nil]); first | done | rfl | (simp only [List.length_drop, List.length_take]; rfl)) ?_; (with_reducible refine (carcanetref02_kind.calls k2 a0 x12_2 t159 t160 _ A37.out).mono ?_); rintro e w' ⟨rfl, ⟨nd, rfl⟩⟩; refine ⟨_, rfl, ?_⟩) | ((with_reducible refine gate_builtin (b := .append) (xs := #[.tmp 138, .tmp 145]) rfl ?_); at_builtin; refine Kd.R_append k49 (w0 := w) w.heap.size rfl (.tmp 138) (.tmp 145) 46 49 (.agg #[(.int .i64 0), (.int .i64 0), (.string ⟨#[]⟩), (.int .i64 0)]) 40 rfl Tryz.underlying46 info49 rfl (by decide) (by omega) u8 x8_1 (⟨1, x9_1, a0.extract (x9_1 : Int).toNat (x12_2 : Int).toNat, 0⟩ : S49) [.int .i64 1, .int .i64 x9_1, .string (a0.extract (x9_1 : Int).toNat (x12_2 : Int).toNat), .int .i64 0] (fun _ => True) (fun _ => False) rfl rfl ?aP (fun _ hk => hk.elim) ?aF ?aO ?aB ?aS ?aL ?_; (case aP => exact k49_mkM _ _ _ (⟨1, x9_1, a0.extract (x9_1 : Int).toNat (x12_2 : Int).toNat, 0⟩ : S49)); (case aB => exact (by repeat (first | (with_reducible first | exact HB.out | apply below_alloc | apply pw_below_drewN | apply below_drew1) | exact HB.out))); (case aF => exact (fun _ _ => trivial)); (case aO => exact (by (with_reducible repeat (first | apply Kd.R_alloc | apply Kd.R_drewN | apply Kd.R_drew)); exact HO_8.out)); (case aS => exact (below_size (by repeat (first | (with_reducible first | exact HB.out | apply below_alloc | apply pw_below_drewN | apply below_drew1) | exact HB.out)))); (case aL => have := LMc44.out; omega); intro v162 w45 ho hb hg hat; rw [← Ny161.out] at ho; have n0_ := Aside0.mk (hb); have n1_ := Aside0.mk (ho); clear HB; clear HO_8; have HB := n0_; have HO163 := n1_; clear n0_ n1_; clear ho hb hg hat))
                    go_roundg k2
                    case measure => have := HK1.out; have := HK2.out; omega
                    case rel => exact ⟨(y161), (x12_2), (by first | rfl | (simp; done) | (simp [*]; done)), H', ⟨by have := HK1.out; have := HK2.out; omega⟩, ⟨by (with_reducible repeat (first | apply Kd.R_alloc | apply Kd.R_drewN | apply Kd.R_drew)); exact HO163.out⟩, ⟨by repeat (first | (with_reducible first | exact HB.out | apply below_alloc | apply pw_below_drewN | apply below_drew1) | exact HB.out)⟩⟩
                   ·rw [if_neg c44] at H
                    exact absurd H (by simp)
                  ·rw [if_neg c43] at H
                   exact absurd H (by simp)
                 ·rw [if_neg c42] at H
                  exact absurd H (by simp)
                ·rw [if_neg c41] at H
                 exact absurd H (by simp)
            ·rw [if_neg c36] at H
             have c36b0 : decide (x12_2 < (a0.size : Int)) = false := decide_eq_false c36
             clear c36
             by_cases c46 : (wrap64 (x12_2 - x9_1)) > 32
             ·rw [if_pos c46] at H
              have c46b0 : decide (32 < (wrap64 (x12_2 - x9_1))) = true := decide_eq_true c46
              clear c46
              simp only [Option.some.injEq, Prod.mk.injEq] at H
              obtain ⟨rfl, rfl, rfl⟩ := H
              go_wp2
              go_ret3
              exact ⟨_, by first | rfl | (simp [errW_none, errW_some] <;> rfl) | (simp [*, errW_none, errW_some] <;> rfl), by first | exact Kd.R_nil _ _ _ _ _ | exact Kd.N_nil _ _ _ _ _ | exact Kd.V_nil _ _ _ _ _ | exact Kd.Q_nil _ _ _ _ _ | exact Kd.S_nil _ _ _ _ _, by repeat (first | (with_reducible first | exact HB.out | apply below_alloc | apply pw_below_drewN | apply below_drew1) | exact HB.out)⟩
             ·rw [if_neg c46] at H
              have c46b0 : decide (32 < (wrap64 (x12_2 - x9_1))) = false := decide_eq_false c46
              clear c46
              by_cases c47 : 0 ≤ x9_1
              ·rw [if_pos c47] at H
               have c47b0 := eq_true c47
               have c47b1 : decide (0 ≤ x9_1) = true := decide_eq_true c47
               clear c47
               by_cases c48 : x9_1 ≤ x12_2
               ·rw [if_pos c48] at H
                have c48b0 := eq_true c48
                have c48b1 : decide (x9_1 ≤ x12_2) = true := decide_eq_true c48
                clear c48
                by_cases c49 : x12_2 ≤ (a0.size : Int)
                ·rw [if_pos c49] at H
                 have c49b0 := eq_true c49
                 have c49b1 : decide (x12_2 ≤ (a0.size : Int)) = true := decide_eq_true c49
                 clear c49
                 by_cases c50 : x8_1.length < 3518437208883
                 ·rw [if_pos c50] at H
                  have LMc50 := Aside0.mk c50
                  clear c50
                  obtain ⟨y164, hy164⟩ : ∃ y_ : List (S49), y_ = (x8_1 ++ [(⟨1, x9_1, a0.extract (x9_1 : Int).toNat (x12_2 : Int).toNat, 0⟩ : S49)]) := ⟨_, rfl⟩
                  replace H : (carcanetref02_Lex.l0 k2 a0 y164 x12_2) = some (r1, r2, r3) := by first | (rw [hy164]; with_reducible exact H) | (have H2_ := (Option.bind_some _ _).symm.trans H; rw [hy164]; with_reducible exact H2_) | (have H2_ := (Option.bind_some _ _).symm.trans H; with_reducible exact H2_) | with_reducible exact H | (rw [hy164]; exact H) | exact H
                  have Ny164 := Aside0.mk hy164
                  clear hy164
                  have H' := Aside0.mk H
                  clear H
                  go_wp2_with (first | ((with_reducible refine gate_builtin (b := .append) (xs := #[.tmp 138, .tmp 145]) rfl ?_); at_builtin; refine Kd.R_append k49 (w0 := w) w.heap.size rfl (.tmp 138) (.tmp 145) 46 49 (.agg #[(.int .i64 0), (.int .i64 0), (.string ⟨#[]⟩), (.int .i64 0)]) 40 rfl Tryz.underlying46 info49 rfl (by decide) (by omega) u8 x8_1 (⟨1, x9_1, a0.extract (x9_1 : Int).toNat (x12_2 : Int).toNat, 0⟩ : S49) [.int .i64 1, .int .i64 x9_1, .string (a0.extract (x9_1 : Int).toNat (x12_2 : Int).toNat), .int .i64 0] (fun _ => True) (fun _ => False) rfl rfl ?aP (fun _ hk => hk.elim) ?aF ?aO ?aB ?aS ?aL ?_; (case aP => exact k49_mkM _ _ _ (⟨1, x9_1, a0.extract (x9_1 : Int).toNat (x12_2 : Int).toNat, 0⟩ : S49)); (case aB => exact (by repeat (first | (with_reducible first | exact HB.out | apply below_alloc | apply pw_below_drewN | apply below_drew1) | exact HB.out))); (case aF => exact (fun _ _ => trivial)); (case aO => exact (by (with_reducible repeat (first | apply Kd.R_alloc | apply Kd.R_drewN | apply Kd.R_drew)); exact HO_8.out)); (case aS => exact (below_size (by repeat (first | (with_reducible first | exact HB.out | apply below_alloc | apply pw_below_drewN | apply below_drew1) | exact HB.out)))); (case aL => have := LMc50.out; omega); intro v165 w51 ho hb hg hat; rw [← Ny164.out] at ho; have n0_ := Aside0.mk (hb); have n1_ := Aside0.mk (ho); clear HB; clear HO_8; have HB := n0_; have HO166 := n1_; clear n0_ n1_; clear ho hb hg hat))
                  go_roundg k2
                  case measure => have := HK1.out; have := HK2.out; omega
                  case rel => exact ⟨(y164), (x12_2), (by first | rfl | (simp; done) | (simp [*]; done)), H', ⟨by have := HK1.out; have := HK2.out; omega⟩, ⟨by (with_reducible repeat (first | apply Kd.R_alloc | apply Kd.R_drewN | apply Kd.R_drew)); exact HO166.out⟩, ⟨by repeat (first | (with_reducible first | exact HB.out | apply below_alloc | apply pw_below_drewN | apply below_drew1) | exact HB.out)⟩⟩
                 ·rw [if_neg c50] at H
                  exact absurd H (by simp)
                ·rw [if_neg c49] at H
                 exact absurd H (by simp)
               ·rw [if_neg c48] at H
                exact absurd H (by simp)
              ·rw [if_neg c47] at H
               exact absurd H (by simp)
         ·rw [if_neg c35] at H
          have c35b0 : (t151 == 4) = false := beq_eq_false_iff_ne.mpr c35
          have c35b1 : (t151 != 4) = true := bne_iff_ne.mpr c35
          by_cases c52 : t151 = 5
          ·rw [if_pos c52] at H
           have c52b0 : (t151 == 5) = true := beq_iff_eq.mpr c52
           have c52b1 : (t151 != 5) = false := bne_eq_false_iff_eq.mpr c52
           clear c52
           have c53b0 := eq_true (of_decide_eq_true (by first | (with_reducible assumption) | assumption) : 0 ≤ x9_1)
           by_cases c54 : x9_1 ≤ (wrap64 (x9_1 + t152))
           ·rw [if_pos c54] at H
            have c54b0 := eq_true c54
            have c54b1 : decide (x9_1 ≤ (wrap64 (x9_1 + t152))) = true := decide_eq_true c54
            by_cases c55 : (wrap64 (x9_1 + t152)) ≤ (a0.size : Int)
            ·rw [if_pos c55] at H
             have c55b0 := eq_true c55
             have c55b1 : decide ((wrap64 (x9_1 + t152)) ≤ (a0.size : Int)) = true := decide_eq_true c55
             by_cases c56 : x8_1.length < 3518437208883
             ·rw [if_pos c56] at H
              have LMc56 := Aside0.mk c56
              clear c56
              obtain ⟨y167, hy167⟩ : ∃ y_ : List (S49), y_ = (x8_1 ++ [(⟨3, x9_1, a0.extract (x9_1 : Int).toNat ((wrap64 (x9_1 + t152)) : Int).toNat, 0⟩ : S49)]) := ⟨_, rfl⟩
              replace H : (carcanetref02_Lex.l0 k1 a0 y167 (wrap64 (x9_1 + t152))) = some (r1, r2, r3) := by first | (rw [hy167]; with_reducible exact H) | (have H2_ := (Option.bind_some _ _).symm.trans H; rw [hy167]; with_reducible exact H2_) | (have H2_ := (Option.bind_some _ _).symm.trans H; with_reducible exact H2_) | with_reducible exact H | (rw [hy167]; exact H) | exact H
              have Ny167 := Aside0.mk hy167
              clear hy167
              have H' := Aside0.mk H
              clear H
              go_wp2_with (first | ((with_reducible refine gate_callee (f := 34) rfl ?_); refine goesL_ (some 34) rfl rfl Tryz.func34 (by kernel_rfl) rfl #[.string a0, .int .i64 x9_1] rfl (by (try simp only [List.map_toArray, List.map_cons, List.map_nil]); first | done | rfl | (simp only [List.length_drop, List.length_take]; rfl)) ?_; (with_reducible refine (carcanetref02_kind.calls k1 a0 x9_1 t151 t152 _ A6.out).mono ?_); rintro e w' ⟨rfl, ⟨nd, rfl⟩⟩; refine ⟨_, rfl, ?_⟩; have p8 : 0 ≤ (x9_1 : Int) := of_decide_eq_true (by first | (with_reducible assumption) | assumption); have q8 : x9_1 < (a0.size : Int) := of_decide_eq_true (by first | (with_reducible assumption) | assumption); have hx8 := bt_at a0 x9_1; replace p8 := eq_true p8; replace q8 := eq_true q8) | ((with_reducible refine gate_builtin (b := .append) (xs := #[.tmp 149, .tmp 156]) rfl ?_); at_builtin; refine Kd.R_append k49 (w0 := w) w.heap.size rfl (.tmp 149) (.tmp 156) 46 49 (.agg #[(.int .i64 0), (.int .i64 0), (.string ⟨#[]⟩), (.int .i64 0)]) 40 rfl Tryz.underlying46 info49 rfl (by decide) (by omega) u8 x8_1 (⟨3, x9_1, a0.extract (x9_1 : Int).toNat ((wrap64 (x9_1 + t152)) : Int).toNat, 0⟩ : S49) [.int .i64 3, .int .i64 x9_1, .string (a0.extract (x9_1 : Int).toNat ((wrap64 (x9_1 + t152)) : Int).toNat), .int .i64 0] (fun _ => True) (fun _ => False) rfl rfl ?aP (fun _ hk => hk.elim) ?aF ?aO ?aB ?aS ?aL ?_; (case aP => exact k49_mkM _ _ _ (⟨3, x9_1, a0.extract (x9_1 : Int).toNat ((wrap64 (x9_1 + t152)) : Int).toNat, 0⟩ : S49)); (case aB => exact (by repeat (first | (with_reducible first | exact HB.out | apply below_alloc | apply pw_below_drewN | apply below_drew1) | exact HB.out))); (case aF => exact (fun _ _ => trivial)); (case aO => exact (by (with_reducible repeat (first | apply Kd.R_alloc | apply Kd.R_drewN | apply Kd.R_drew)); exact HO_8.out)); (case aS => exact (below_size (by repeat (first | (with_reducible first | exact HB.out | apply below_alloc | apply pw_below_drewN | apply below_drew1) | exact HB.out)))); (case aL => have := LMc56.out; omega); intro v168 w57 ho hb hg hat; rw [← Ny167.out] at ho; have n0_ := Aside0.mk (hb); have n1_ := Aside0.mk (ho); clear HB; clear HO_8; have HB := n0_; have HO169 := n1_; clear n0_ n1_; clear ho hb hg hat))
              go_roundg k1
              case measure => have := HK1.out; omega
              case rel => exact ⟨(y167), (wrap64 (x9_1 + t152)), (by first | rfl | (simp; done) | (simp [*]; done)), H', ⟨by have := HK1.out; omega⟩, ⟨by (with_reducible repeat (first | apply Kd.R_alloc | apply Kd.R_drewN | apply Kd.R_drew)); exact HO169.out⟩, ⟨by repeat (first | (with_reducible first | exact HB.out | apply below_alloc | apply pw_below_drewN | apply below_drew1) | exact HB.out)⟩⟩
             ·rw [if_neg c56] at H
              exact absurd H (by simp)
            ·rw [if_neg c55] at H
             exact absurd H (by simp)
           ·rw [if_neg c54] at H
            exact absurd H (by simp)
          ·rw [if_neg c52] at H
           have c52b0 : (t151 == 5) = false := beq_eq_false_iff_ne.mpr c52
           have c52b1 : (t151 != 5) = true := bne_iff_ne.mpr c52
           by_cases c58 : t151 = 1
           ·rw [if_pos c58] at H
            have c58b0 : (t151 == 1) = true := beq_iff_eq.mpr c58
            have c58b1 : (t151 != 1) = false := bne_eq_false_iff_eq.mpr c58
            clear c58
            have H' := Aside0.mk H
            clear H
            go_wp2_with (first | ((with_reducible refine gate_callee (f := 34) rfl ?_); refine goesL_ (some 34) rfl rfl Tryz.func34 (by kernel_rfl) rfl #[.string a0, .int .i64 x9_1] rfl (by (try simp only [List.map_toArray, List.map_cons, List.map_nil]); first | done | rfl | (simp only [List.length_drop, List.length_take]; rfl)) ?_; (with_reducible refine (carcanetref02_kind.calls k1 a0 x9_1 t151 t152 _ A6.out).mono ?_); rintro e w' ⟨rfl, ⟨nd, rfl⟩⟩; refine ⟨_, rfl, ?_⟩; have p8 : 0 ≤ (x9_1 : Int) := of_decide_eq_true (by first | (with_reducible assumption) | assumption); have q8 : x9_1 < (a0.size : Int) := of_decide_eq_true (by first | (with_reducible assumption) | assumption); have hx8 := bt_at a0 x9_1; replace p8 := eq_true p8; replace q8 := eq_true q8))
            go_roundg k1
            case measure => have := HK1.out; omega
            case rel => exact ⟨(x8_1), (wrap64 (x9_1 + t152)), (by first | rfl | (simp; done) | (simp [*]; done)), H', ⟨by have := HK1.out; omega⟩, ⟨by (with_reducible repeat (first | apply Kd.R_alloc | apply Kd.R_drewN | apply Kd.R_drew)); exact HO_8.out⟩, ⟨by repeat (first | (with_reducible first | exact HB.out | apply below_alloc | apply pw_below_drewN | apply below_drew1) | exact HB.out)⟩⟩
           ·rw [if_neg c58] at H
            have c58b0 : (t151 == 1) = false := beq_eq_false_iff_ne.mpr c58
            have c58b1 : (t151 != 1) = true := bne_iff_ne.mpr c58
            simp only [Option.some.injEq, Prod.mk.injEq] at H
            obtain ⟨rfl, rfl, rfl⟩ := H
            go_wp2_with (first | ((with_reducible refine gate_callee (f := 34) rfl ?_); refine goesL_ (some 34) rfl rfl Tryz.func34 (by kernel_rfl) rfl #[.string a0, .int .i64 x9_1] rfl (by (try simp only [List.map_toArray, List.map_cons, List.map_nil]); first | done | rfl | (simp only [List.length_drop, List.length_take]; rfl)) ?_; (with_reducible refine (carcanetref02_kind.calls k1 a0 x9_1 t151 t152 _ A6.out).mono ?_); rintro e w' ⟨rfl, ⟨nd, rfl⟩⟩; refine ⟨_, rfl, ?_⟩; have p8 : 0 ≤ (x9_1 : Int) := of_decide_eq_true (by first | (with_reducible assumption) | assumption); have q8 : x9_1 < (a0.size : Int) := of_decide_eq_true (by first | (with_reducible assumption) | assumption); have hx8 := bt_at a0 x9_1; replace p8 := eq_true p8; replace q8 := eq_true q8))
            go_ret3
            exact ⟨_, by first | rfl | (simp [errW_none, errW_some] <;> rfl) | (simp [*, errW_none, errW_some] <;> rfl), by first | exact Kd.R_nil _ _ _ _ _ | exact Kd.N_nil _ _ _ _ _ | exact Kd.V_nil _ _ _ _ _ | exact Kd.Q_nil _ _ _ _ _ | exact Kd.S_nil _ _ _ _ _, by repeat (first | (with_reducible first | exact HB.out | apply below_alloc | apply pw_below_drewN | apply below_drew1) | exact HB.out)⟩
     ·rw [if_neg c7] at H
      exact absurd H (by simp)
    ·rw [if_neg c5] at H
     have c5b0 : decide (x9_1 < (a0.size : Int)) = false := decide_eq_false c5
     clear c5
     simp only [Option.some.injEq, Prod.mk.injEq] at H
     obtain ⟨rfl, rfl, rfl⟩ := H
     go_wp2
     go_ret3
     exact ⟨_, by first | rfl | (simp [errW_none, errW_some] <;> rfl) | (simp [*, errW_none, errW_some] <;> rfl), by (with_reducible repeat (first | apply Kd.R_alloc | apply Kd.R_drewN | apply Kd.R_drew)); exact HO_8.out, by repeat (first | (with_reducible first | exact HB.out | apply below_alloc | apply pw_below_drewN | apply below_drew1) | exact HB.out)⟩
 ·rw [if_neg c3] at H
  have c3b0 : (t148 == 0) = false := beq_eq_false_iff_ne.mpr c3
  have c3b1 : (t148 != 0) = true := bne_iff_ne.mpr c3
  simp only [Option.some.injEq, Prod.mk.injEq] at H
  obtain ⟨rfl, rfl, rfl⟩ := H
  go_enter Tryz.func12, Tryz.ntmps12
  go_wp2_with (first | ((with_reducible refine gate_callee (f := 33) rfl ?_); refine goesL_ (some 19) rfl rfl Tryz.func33 (by kernel_rfl) rfl #[.string a0] rfl (by (try simp only [List.map_toArray, List.map_cons, List.map_nil]); first | done | rfl | (simp only [List.length_drop, List.length_take]; rfl)) ?_; (with_reducible refine (carcanetref01_Decode.calls k a0 t146 t147 t148 _ A2.out).mono ?_); rintro e w59 ⟨v149, rfl, ho0, hb⟩; refine ⟨_, rfl, ?_⟩; have n0_ := Aside0.mk (Kd.R_lower ho0 (below_size (by repeat (first | (with_reducible first | exact HB.out | apply below_alloc | apply pw_below_drewN | apply below_drew1) | exact HB.out)))); have n1_ := Aside0.mk (below_step (by repeat (first | (with_reducible first | exact HB.out | apply below_alloc | apply pw_below_drewN | apply below_drew1) | exact HB.out)) hb); clear HB; have HO150 := n0_; have HB := n1_; clear n0_ n1_; (try clear hb); (try clear hb2); (try clear hk); (try clear hi); (try clear ho0)))
  go_ret3
  exact ⟨_, by first | rfl | (simp [errW_none, errW_some] <;> rfl) | (simp [*, errW_none, errW_some] <;> rfl), by first | exact Kd.R_nil _ _ _ _ _ | exact Kd.N_nil _ _ _ _ _ | exact Kd.V_nil _ _ _ _ _ | exact Kd.Q_nil _ _ _ _ _ | exact Kd.S_nil _ _ _ _ _, by repeat (first | (with_reducible first | exact HB.out | apply below_alloc | apply pw_below_drewN | apply below_drew1) | exact HB.out)⟩

end Go.Proofs.YtmdmdbiinngneaaGreatDoor.Q
