-- Laid by prx.py (ours), out of the translation's print. Not trusted: Lean checks it.
import Derived.Test.YtmdmdbiinngneaaGreatDoorQ0
import Derived.Test.YtmdmdbiinngneaaGreatDoorQ13
namespace Go.Proofs.YtmdmdbiinngneaaGreatDoor.Q
open Go.RowKit Go.Proofs.YtmdmdbiinngneaaGreatDoorW.PrintWords Go.Proofs.YtmdmdbiinngneaaGreatDoorW.PrintLast Go.Proofs.YtmdmdbiinngneaaGreatDoorW.PrintMore
attribute [local go_sem] max2_int min2_int max_two min_two max_three min_three max_four min_four   -- for this text's walks alone
set_option linter.unusedVariables false
set_option linter.unusedSimpArgs false

/-! ### carcanetref01_Decode: function 33 -/
def carcanetref01_Decode.l0 : Nat → ByteArray → List (S99) → Int → Option ((List (S99)) × Int × Int)
 | 0, _, _, _ => none
 | k + 1, x0, x5, x6 => if x6 < (x0.size : Int) then (if 0 ≤ x6 then (if x6 ≤ (x0.size : Int) then ((carcanetref01_One.f k (x0.extract (x6 : Int).toNat x0.size)).bind fun bt137 => (if bt137.2 = 0 then (some (([] : List (S99)), x6, 2)) else (if x5.length < 8796093022208 then (carcanetref01_Decode.l0 k x0 (x5 ++ [(⟨x6, wrap32 (bt137.1)⟩ : S99)]) (wrap64 (x6 + bt137.2))) else (none)))) else (none)) else (none)) else (some (x5, 0, 0))
def carcanetref01_Decode.f (k : Nat) (a0 : ByteArray) : Option ((List (S99)) × Int × Int) := carcanetref01_Decode.l0 k a0 ([] : List (S99)) 0
theorem carcanetref01_Decode.mono_l : ∀ k, (∀ y0 y1 y2, LeO (carcanetref01_Decode.l0 k y0 y1 y2) (carcanetref01_Decode.l0 (k + 1) y0 y1 y2))
 | 0 => fun _ _ _ r h => by simp [carcanetref01_Decode.l0] at h
 | k + 1 => by
  have ih0 := carcanetref01_Decode.mono_l k
  ·intro y0 y1 y2
   unfold carcanetref01_Decode.l0
   repeat' first
   | (with_reducible exact ih0 _ _ _)
   | (with_reducible exact carcanetref01_One.mono _ _)
   | (with_reducible exact LeO.refl _)
   | (with_reducible exact LeO.none _)
   | (with_reducible refine LeO.ite ?_ ?_)
   | (with_reducible refine LeO.bind ?_ (fun _ => ?_))
   | exact ih0 _ _ _
   | exact carcanetref01_One.mono _ _
   | exact LeO.none _
   | refine LeO.ite ?_ ?_
   | refine LeO.bind ?_ (fun _ => ?_)
theorem carcanetref01_Decode.mono : ∀ a0 k, LeO (carcanetref01_Decode.f k a0) (carcanetref01_Decode.f (k + 1) a0) := by
 intro a0 k
 have ih0 := carcanetref01_Decode.mono_l k
 unfold carcanetref01_Decode.f
 repeat' first
   | (with_reducible exact ih0 _ _ _)
   | (with_reducible exact carcanetref01_One.mono _ _)
   | (with_reducible exact LeO.refl _)
   | (with_reducible exact LeO.none _)
   | (with_reducible refine LeO.ite ?_ ?_)
   | (with_reducible refine LeO.bind ?_ (fun _ => ?_))
   | exact ih0 _ _ _
   | exact carcanetref01_One.mono _ _
   | exact LeO.none _
   | refine LeO.ite ?_ ?_
   | refine LeO.bind ?_ (fun _ => ?_)
set_option maxHeartbeats 8000000 in
set_option maxRecDepth 100000 in
theorem carcanetref01_Decode.calls (k : Nat) (a0 : ByteArray) (r1 : List (S99)) (r2 : Int) (r3 : Int) (w : World) (h : carcanetref01_Decode.f k a0 = some (r1, r2, r3)) :
  Calls Tryz.prog 33 #[.string a0] w fun e w' => ∃ v0_ : Value, e = .returned (.tuple #[v0_, .int .i64 r2, .int .i64 r3]) ∧ Kd.R k99 99 w' w.heap.size (fun _ => True) v0_ r1 ∧ Below w.heap.size w w' := by
 have hu99 := Tryz.underlying99
 have HB := Aside0.mk (Below.refl w.heap.size w)
 have H : (carcanetref01_Decode.l0 k a0 ([] : List (S99)) 0) = some (r1, r2, r3) := h
 clear h
 have H' := Aside0.mk H
 clear H
 go_enter Tryz.func33, Tryz.ntmps33
 go_wp2
 go_loopg [5, 6] k (fun kq v5 v6 w' => ∃ (x5_1 : List (S99)) (x6_1 : Int), v6 = .int .i64 x6_1 ∧ Aside0 (carcanetref01_Decode.l0 kq a0 x5_1 x6_1 = some (r1, r2, r3)) ∧ Aside0 (kq ≤ k) ∧ Aside0 (Kd.R k99 99 w' w.heap.size (fun _ => True) v5 x5_1) ∧ Aside0 (Below w.heap.size w w'))
 case atStart => exact ⟨(([] : List (S99))), (0), (by first | rfl | (simp; done) | (simp [*]; done)), H', ⟨Nat.le_refl _⟩, ⟨by first | exact Kd.R_nil _ _ _ _ _ | exact Kd.N_nil _ _ _ _ _ | exact Kd.V_nil _ _ _ _ _ | exact Kd.Q_nil _ _ _ _ _ | exact Kd.S_nil _ _ _ _ _⟩, ⟨by repeat (first | (with_reducible first | exact HB.out | apply below_alloc | apply pw_below_drewN | apply below_drew1) | exact HB.out)⟩⟩
 case round =>
  clear H'
  obtain ⟨x5_1, x6_1, rfl, HA, HK1, HO_5, HB⟩ := hrel
  cases gk with
  | zero => exact absurd HA.out (by simp [carcanetref01_Decode.l0])
  | succ k1 =>
   have H := HA.out
   clear HA
   simp only [carcanetref01_Decode.l0] at H
   by_cases c2 : x6_1 < (a0.size : Int)
   ·rw [if_pos c2] at H
    have c2b0 : decide (x6_1 < (a0.size : Int)) = true := decide_eq_true c2
    clear c2
    by_cases c3 : 0 ≤ x6_1
    ·rw [if_pos c3] at H
     have c3b0 := eq_true c3
     have c3b1 : decide (0 ≤ x6_1) = true := decide_eq_true c3
     clear c3
     by_cases c4 : x6_1 ≤ (a0.size : Int)
     ·rw [if_pos c4] at H
      have c4b0 := eq_true c4
      have c4b1 : decide (x6_1 ≤ (a0.size : Int)) = true := decide_eq_true c4
      clear c4
      replace H := Option.bind_eq_some_iff.mp H
      obtain ⟨⟨t137, t138⟩, A50, H⟩ := H
      replace H : (if t138 = 0 then (some (([] : List (S99)), x6_1, 2)) else (if x5_1.length < 8796093022208 then (carcanetref01_Decode.l0 k1 a0 (x5_1 ++ [(⟨x6_1, wrap32 (t137)⟩ : S99)]) (wrap64 (x6_1 + t138))) else (none))) = some (r1, r2, r3) := H
      have A5 := Aside0.mk A50
      clear A50
      by_cases c6 : t138 = 0
      ·rw [if_pos c6] at H
       have c6b0 : (t138 == 0) = true := beq_iff_eq.mpr c6
       have c6b1 : (t138 != 0) = false := bne_eq_false_iff_eq.mpr c6
       clear c6
       simp only [Option.some.injEq, Prod.mk.injEq] at H
       obtain ⟨rfl, rfl, rfl⟩ := H
       go_wp2_with (first | ((with_reducible refine gate_callee (f := 53) rfl ?_); refine goesL_ (some 17) rfl rfl Tryz.func53 (by kernel_rfl) rfl #[.string (a0.extract (x6_1 : Int).toNat a0.size)] rfl (by (try simp only [List.map_toArray, List.map_cons, List.map_nil]); first | done | rfl | (simp only [List.length_drop, List.length_take]; rfl)) ?_; (with_reducible refine (carcanetref01_One.calls k1 (a0.extract (x6_1 : Int).toNat a0.size) t137 t138 _ A5.out).mono ?_); rintro e w' ⟨rfl, ⟨nd, rfl⟩⟩; refine ⟨_, rfl, ?_⟩))
       go_ret3
       exact ⟨_, by first | rfl | (simp [errW_none, errW_some] <;> rfl) | (simp [*, errW_none, errW_some] <;> rfl), by first | exact Kd.R_nil _ _ _ _ _ | exact Kd.N_nil _ _ _ _ _ | exact Kd.V_nil _ _ _ _ _ | exact Kd.Q_nil _ _ _ _ _ | exact Kd.S_nil _ _ _ _ _, by repeat (first | (with_reducible first | exact HB.out | apply below_alloc | apply pw_below_drewN | apply below_drew1) | exact HB.out)⟩
      ·rw [if_neg c6] at H
       have c6b0 : (t138 == 0) = false := beq_eq_false_iff_ne.mpr c6
       have c6b1 : (t138 != 0) = true := bne_iff_ne.mpr c6
       by_cases c7 : x5_1.length < 8796093022208
       ·rw [if_pos c7] at H
        have LMc7 := Aside0.mk c7
        clear c7
        obtain ⟨y139, hy139⟩ : ∃ y_ : List (S99), y_ = (x5_1 ++ [(⟨x6_1, wrap32 (t137)⟩ : S99)]) := ⟨_, rfl⟩
        replace H : (carcanetref01_Decode.l0 k1 a0 y139 (wrap64 (x6_1 + t138))) = some (r1, r2, r3) := by first | (rw [hy139]; with_reducible exact H) | (have H2_ := (Option.bind_some _ _).symm.trans H; rw [hy139]; with_reducible exact H2_) | (have H2_ := (Option.bind_some _ _).symm.trans H; with_reducible exact H2_) | with_reducible exact H | (rw [hy139]; exact H) | exact H
        have Ny139 := Aside0.mk hy139
        clear hy139
        have H' := Aside0.mk H
        clear H
        go_wp2_with (first | ((with_reducible refine gate_callee (f := 53) rfl ?_); refine goesL_ (some 17) rfl rfl Tryz.func53 (by kernel_rfl) rfl #[.string (a0.extract (x6_1 : Int).toNat a0.size)] rfl (by (try simp only [List.map_toArray, List.map_cons, List.map_nil]); first | done | rfl | (simp only [List.length_drop, List.length_take]; rfl)) ?_; (with_reducible refine (carcanetref01_One.calls k1 (a0.extract (x6_1 : Int).toNat a0.size) t137 t138 _ A5.out).mono ?_); rintro e w' ⟨rfl, ⟨nd, rfl⟩⟩; refine ⟨_, rfl, ?_⟩) | ((with_reducible refine gate_builtin (b := .append) (xs := #[.tmp 23, .tmp 28]) rfl ?_); at_builtin; refine Kd.R_append k99 (w0 := w) w.heap.size rfl (.tmp 23) (.tmp 28) 82 99 (.agg #[(.int .i64 0), (.int .i32 0)]) 16 rfl Tryz.underlying82 info99 rfl (by decide) (by omega) u5 x5_1 (⟨x6_1, wrap32 (t137)⟩ : S99) [.int .i64 x6_1, .int .i32 (wrap32 (t137))] (fun _ => True) (fun _ => False) rfl rfl ?aP (fun _ hk => hk.elim) ?aF ?aO ?aB ?aS ?aL ?_; (case aP => exact k99_mkM _ _ _ (⟨x6_1, wrap32 (t137)⟩ : S99)); (case aB => exact (by repeat (first | (with_reducible first | exact HB.out | apply below_alloc | apply pw_below_drewN | apply below_drew1) | exact HB.out))); (case aF => exact (fun _ _ => trivial)); (case aO => exact (by (with_reducible repeat (first | apply Kd.R_alloc | apply Kd.R_drewN | apply Kd.R_drew)); exact HO_5.out)); (case aS => exact (below_size (by repeat (first | (with_reducible first | exact HB.out | apply below_alloc | apply pw_below_drewN | apply below_drew1) | exact HB.out)))); (case aL => have := LMc7.out; omega); intro v140 w8 ho hb hg hat; rw [← Ny139.out] at ho; have n0_ := Aside0.mk (hb); have n1_ := Aside0.mk (ho); clear HB; clear HO_5; have HB := n0_; have HO141 := n1_; clear n0_ n1_; clear ho hb hg hat))
        go_roundg k1
        case measure => have := HK1.out; omega
        case rel => exact ⟨(y139), (wrap64 (x6_1 + t138)), (by first | rfl | (simp; done) | (simp [*]; done)), H', ⟨by have := HK1.out; omega⟩, ⟨by (with_reducible repeat (first | apply Kd.R_alloc | apply Kd.R_drewN | apply Kd.R_drew)); exact HO141.out⟩, ⟨by repeat (first | (with_reducible first | exact HB.out | apply below_alloc | apply pw_below_drewN | apply below_drew1) | exact HB.out)⟩⟩
       ·rw [if_neg c7] at H
        exact absurd H (by simp)
     ·rw [if_neg c4] at H
      exact absurd H (by simp)
    ·rw [if_neg c3] at H
     exact absurd H (by simp)
   ·rw [if_neg c2] at H
    have c2b0 : decide (x6_1 < (a0.size : Int)) = false := decide_eq_false c2
    clear c2
    simp only [Option.some.injEq, Prod.mk.injEq] at H
    obtain ⟨rfl, rfl, rfl⟩ := H
    go_wp2
    go_ret3
    exact ⟨_, by first | rfl | (simp [errW_none, errW_some] <;> rfl) | (simp [*, errW_none, errW_some] <;> rfl), by (with_reducible repeat (first | apply Kd.R_alloc | apply Kd.R_drewN | apply Kd.R_drew)); exact HO_5.out, by repeat (first | (with_reducible first | exact HB.out | apply below_alloc | apply pw_below_drewN | apply below_drew1) | exact HB.out)⟩

/-! ### carcanetref01_Width: function 71 -/
def carcanetref01_Width.j0 : Nat → Int → Bool → Option (Int)
 | 0, _, _ => none
 | k + 1, x3, x19 => if x19 = true then (some 0) else (if x3 < 128 then (some 1) else (if x3 < 2048 then (some 2) else (if x3 < 65536 then (some 3) else (some 4))))
def carcanetref01_Width.f (k : Nat) (a0 : Int) : Option (Int) := if (wrap64 (a0)) < 0 then (carcanetref01_Width.j0 k (wrap64 (a0)) true) else (if (wrap64 (a0)) > 1114111 then (carcanetref01_Width.j0 k (wrap64 (a0)) true) else (if (wrap64 (a0)) ≥ 55296 then (carcanetref01_Width.j0 k (wrap64 (a0)) (decide ((wrap64 (a0)) < 57344))) else (carcanetref01_Width.j0 k (wrap64 (a0)) false)))
theorem carcanetref01_Width.mono_l : ∀ k, (∀ y0 y1, LeO (carcanetref01_Width.j0 k y0 y1) (carcanetref01_Width.j0 (k + 1) y0 y1))
 | 0 => fun _ _ r h => by simp [carcanetref01_Width.j0] at h
 | k + 1 => by
  have ih0 := carcanetref01_Width.mono_l k
  ·intro y0 y1
   unfold carcanetref01_Width.j0
   repeat' first
   | (with_reducible exact ih0 _ _)
   | (with_reducible exact LeO.refl _)
   | (with_reducible exact LeO.none _)
   | (with_reducible refine LeO.ite ?_ ?_)
   | (with_reducible refine LeO.bind ?_ (fun _ => ?_))
   | exact ih0 _ _
   | exact LeO.none _
   | refine LeO.ite ?_ ?_
   | refine LeO.bind ?_ (fun _ => ?_)
theorem carcanetref01_Width.mono : ∀ a0 k, LeO (carcanetref01_Width.f k a0) (carcanetref01_Width.f (k + 1) a0) := by
 intro a0 k
 have ih0 := carcanetref01_Width.mono_l k
 unfold carcanetref01_Width.f
 repeat' first
   | (with_reducible exact ih0 _ _)
   | (with_reducible exact LeO.refl _)
   | (with_reducible exact LeO.none _)
   | (with_reducible refine LeO.ite ?_ ?_)
   | (with_reducible refine LeO.bind ?_ (fun _ => ?_))
   | exact ih0 _ _
   | exact LeO.none _
   | refine LeO.ite ?_ ?_
   | refine LeO.bind ?_ (fun _ => ?_)
set_option maxHeartbeats 8000000 in
set_option maxRecDepth 100000 in
theorem carcanetref01_Width.calls (k : Nat) (a0 : Int) (r : Int) (w : World) (h : carcanetref01_Width.f k a0 = some r) :
  Calls Tryz.prog 71 #[.int .i32 a0] w fun e w' => e = .returned (.int .i64 r) ∧ Drawn0 w w' := by
 have H : (if (wrap64 (a0)) < 0 then (carcanetref01_Width.j0 k (wrap64 (a0)) true) else (if (wrap64 (a0)) > 1114111 then (carcanetref01_Width.j0 k (wrap64 (a0)) true) else (if (wrap64 (a0)) ≥ 55296 then (carcanetref01_Width.j0 k (wrap64 (a0)) (decide ((wrap64 (a0)) < 57344))) else (carcanetref01_Width.j0 k (wrap64 (a0)) false)))) = some r := h
 clear h
 have HC2 := Aside0.mk H
 clear H
 go_enter Tryz.func71, Tryz.ntmps71
 go_upto_region 2 with (fail)
 go_cut [19] (fun v19 wc => ∃ (kq : Nat) (x19_1 : Bool), v19 = .bool x19_1 ∧ Aside0 (carcanetref01_Width.j0 kq (wrap64 (a0)) x19_1 = some r) ∧ Aside0 (kq ≤ k) ∧ Drawn0 w wc)
 case first =>
  have H := HC2.out
  clear HC2
  by_cases c3 : (wrap64 (a0)) < 0
  ·rw [if_pos c3] at H
   have c3b0 : decide ((wrap64 (a0)) < 0) = true := decide_eq_true c3
   clear c3
   (first | rw [c3b0] | (simp only [i64_w, i32_w]; rw [c3b0]) | skip)
   have H' := Aside0.mk H
   clear H
   go_wp2
   go_meet
   case rel => exact ⟨_, (true), (by first | rfl | (simp; done) | (simp [*]; done)), H', ⟨by first | omega | exact Nat.le_refl _⟩, by repeat (first | exact Drawn0.refl _ | apply Drawn0.step)⟩
  ·rw [if_neg c3] at H
   have c3b0 : decide ((wrap64 (a0)) < 0) = false := decide_eq_false c3
   clear c3
   (first | rw [c3b0] | (simp only [i64_w, i32_w]; rw [c3b0]) | skip)
   by_cases c4 : (wrap64 (a0)) > 1114111
   ·rw [if_pos c4] at H
    have c4b0 : decide (1114111 < (wrap64 (a0))) = true := decide_eq_true c4
    clear c4
    have H' := Aside0.mk H
    clear H
    go_wp2
    go_meet
    case rel => exact ⟨_, (true), (by first | rfl | (simp; done) | (simp [*]; done)), H', ⟨by first | omega | exact Nat.le_refl _⟩, by repeat (first | exact Drawn0.refl _ | apply Drawn0.step)⟩
   ·rw [if_neg c4] at H
    have c4b0 : decide (1114111 < (wrap64 (a0))) = false := decide_eq_false c4
    clear c4
    by_cases c5 : (wrap64 (a0)) ≥ 55296
    ·rw [if_pos c5] at H
     have c5b0 : decide (55296 ≤ (wrap64 (a0))) = true := decide_eq_true c5
     clear c5
     have H' := Aside0.mk H
     clear H
     go_wp2
     go_meet
     case rel => exact ⟨_, (decide ((wrap64 (a0)) < 57344)), (by first | rfl | (simp; done) | (simp [*]; done)), H', ⟨by first | omega | exact Nat.le_refl _⟩, by repeat (first | exact Drawn0.refl _ | apply Drawn0.step)⟩
    ·rw [if_neg c5] at H
     have c5b0 : decide (55296 ≤ (wrap64 (a0))) = false := decide_eq_false c5
     clear c5
     have H' := Aside0.mk H
     clear H
     go_wp2
     go_meet
     case rel => exact ⟨_, (false), (by first | rfl | (simp; done) | (simp [*]; done)), H', ⟨by first | omega | exact Nat.le_refl _⟩, by repeat (first | exact Drawn0.refl _ | apply Drawn0.step)⟩
 case rest =>
  clear HC2
  try clear p2
  try clear c3
  try clear c3b0
  try clear c4
  try clear c4b0
  try clear c5
  try clear c5b0
  obtain ⟨kq, x19_1, rfl, HA, HJ1, ⟨mc1, rfl⟩⟩ := hcut
  cases kq with
  | zero => exact absurd HA.out (by simp [carcanetref01_Width.j0])
  | succ kj1 =>
   have H := HA.out
   clear HA
   simp only [carcanetref01_Width.j0] at H
   by_cases c6 : x19_1 = true
   ·subst c6
    have H1 : (some 0) = some r := by rw [if_pos rfl] at H; exact H
    clear H
    have H := H1
    clear H1
    obtain rfl := Option.some.inj H
    go_wp2
    go_ret
    exact ⟨by first | rfl | (simp; done) | (simp [*]; done), by repeat (first | exact Drawn0.refl _ | apply Drawn0.step)⟩
   ·replace c6 := Bool.eq_false_iff.mpr c6
    subst c6
    have H1 : (if (wrap64 (a0)) < 128 then (some 1) else (if (wrap64 (a0)) < 2048 then (some 2) else (if (wrap64 (a0)) < 65536 then (some 3) else (some 4)))) = some r := by rw [if_neg (show ¬ (false = true) by decide)] at H; exact H
    clear H
    have H := H1
    clear H1
    by_cases c7 : (wrap64 (a0)) < 128
    ·rw [if_pos c7] at H
     have c7b0 : decide ((wrap64 (a0)) < 128) = true := decide_eq_true c7
     clear c7
     obtain rfl := Option.some.inj H
     go_wp2
     go_ret
     exact ⟨by first | rfl | (simp; done) | (simp [*]; done), by repeat (first | exact Drawn0.refl _ | apply Drawn0.step)⟩
    ·rw [if_neg c7] at H
     have c7b0 : decide ((wrap64 (a0)) < 128) = false := decide_eq_false c7
     clear c7
     by_cases c8 : (wrap64 (a0)) < 2048
     ·rw [if_pos c8] at H
      have c8b0 : decide ((wrap64 (a0)) < 2048) = true := decide_eq_true c8
      clear c8
      obtain rfl := Option.some.inj H
      go_wp2
      go_ret
      exact ⟨by first | rfl | (simp; done) | (simp [*]; done), by repeat (first | exact Drawn0.refl _ | apply Drawn0.step)⟩
     ·rw [if_neg c8] at H
      have c8b0 : decide ((wrap64 (a0)) < 2048) = false := decide_eq_false c8
      clear c8
      by_cases c9 : (wrap64 (a0)) < 65536
      ·rw [if_pos c9] at H
       have c9b0 : decide ((wrap64 (a0)) < 65536) = true := decide_eq_true c9
       clear c9
       obtain rfl := Option.some.inj H
       go_wp2
       go_ret
       exact ⟨by first | rfl | (simp; done) | (simp [*]; done), by repeat (first | exact Drawn0.refl _ | apply Drawn0.step)⟩
      ·rw [if_neg c9] at H
       have c9b0 : decide ((wrap64 (a0)) < 65536) = false := decide_eq_false c9
       clear c9
       obtain rfl := Option.some.inj H
       go_wp2
       go_ret
       exact ⟨by first | rfl | (simp; done) | (simp [*]; done), by repeat (first | exact Drawn0.refl _ | apply Drawn0.step)⟩

/-! ### carcanetref01_Kind: function 54 -/
mutual
def carcanetref01_Kind.j0 : Nat → Int → Bool → Option (Int)
 | 0, _, _ => none
 | k + 1, x3, x14 => if x14 = true then (some 1) else (if x3 = 10 then (some 2) else (if x3 ≥ 48 then (carcanetref01_Kind.j1 k x3 (decide (x3 ≤ 57))) else (carcanetref01_Kind.j1 k x3 false)))
def carcanetref01_Kind.j1 : Nat → Int → Bool → Option (Int)
 | 0, _, _ => none
 | k + 1, x3, x22 => if x22 = true then (some 3) else (if x3 ≥ 65 then (if x3 ≤ 90 then (carcanetref01_Kind.j2 k x3 true) else (if x3 ≥ 97 then (if x3 ≤ 122 then (carcanetref01_Kind.j2 k x3 true) else (if x3 = 95 then (carcanetref01_Kind.j2 k x3 true) else (carcanetref01_Kind.j2 k x3 (decide (x3 ≥ 128))))) else (if x3 = 95 then (carcanetref01_Kind.j2 k x3 true) else (carcanetref01_Kind.j2 k x3 (decide (x3 ≥ 128)))))) else (if x3 ≥ 97 then (if x3 ≤ 122 then (carcanetref01_Kind.j2 k x3 true) else (if x3 = 95 then (carcanetref01_Kind.j2 k x3 true) else (carcanetref01_Kind.j2 k x3 (decide (x3 ≥ 128))))) else (if x3 = 95 then (carcanetref01_Kind.j2 k x3 true) else (carcanetref01_Kind.j2 k x3 (decide (x3 ≥ 128))))))
def carcanetref01_Kind.j2 : Nat → Int → Bool → Option (Int)
 | 0, _, _ => none
 | k + 1, x3, x44 => if x44 = true then (some 4) else (if x3 ≥ 33 then (if x3 ≤ 126 then (some 5) else (some 0)) else (some 0))
end
def carcanetref01_Kind.f (k : Nat) (a0 : Int) : Option (Int) := (carcanetref01_Width.f k a0).bind fun t142 => (if t142 = 0 then (some 0) else (if (wrap64 (a0)) = 32 then (carcanetref01_Kind.j0 k (wrap64 (a0)) true) else (carcanetref01_Kind.j0 k (wrap64 (a0)) ((wrap64 (a0)) == 9))))
theorem carcanetref01_Kind.mono_l : ∀ k, (∀ y0 y1, LeO (carcanetref01_Kind.j0 k y0 y1) (carcanetref01_Kind.j0 (k + 1) y0 y1)) ∧ (∀ y0 y1, LeO (carcanetref01_Kind.j1 k y0 y1) (carcanetref01_Kind.j1 (k + 1) y0 y1)) ∧ (∀ y0 y1, LeO (carcanetref01_Kind.j2 k y0 y1) (carcanetref01_Kind.j2 (k + 1) y0 y1))
 | 0 => ⟨fun _ _ r h => by simp [carcanetref01_Kind.j0] at h, fun _ _ r h => by simp [carcanetref01_Kind.j1] at h, fun _ _ r h => by simp [carcanetref01_Kind.j2] at h⟩
 | k + 1 => by
  obtain ⟨ih0, ih1, ih2⟩ := carcanetref01_Kind.mono_l k
  refine ⟨?_, ?_, ?_⟩
  ·intro y0 y1
   unfold carcanetref01_Kind.j0
   repeat' first
   | (with_reducible exact ih0 _ _)
   | (with_reducible exact ih1 _ _)
   | (with_reducible exact ih2 _ _)
   | (with_reducible exact carcanetref01_Width.mono _ _)
   | (with_reducible exact LeO.refl _)
   | (with_reducible exact LeO.none _)
   | (with_reducible refine LeO.ite ?_ ?_)
   | (with_reducible refine LeO.bind ?_ (fun _ => ?_))
   | exact ih0 _ _
   | exact ih1 _ _
   | exact ih2 _ _
   | exact carcanetref01_Width.mono _ _
   | exact LeO.none _
   | refine LeO.ite ?_ ?_
   | refine LeO.bind ?_ (fun _ => ?_)
  ·intro y0 y1
   unfold carcanetref01_Kind.j1
   repeat' first
   | (with_reducible exact ih0 _ _)
   | (with_reducible exact ih1 _ _)
   | (with_reducible exact ih2 _ _)
   | (with_reducible exact carcanetref01_Width.mono _ _)
   | (with_reducible exact LeO.refl _)
   | (with_reducible exact LeO.none _)
   | (with_reducible refine LeO.ite ?_ ?_)
   | (with_reducible refine LeO.bind ?_ (fun _ => ?_))
   | exact ih0 _ _
   | exact ih1 _ _
   | exact ih2 _ _
   | exact carcanetref01_Width.mono _ _
   | exact LeO.none _
   | refine LeO.ite ?_ ?_
   | refine LeO.bind ?_ (fun _ => ?_)
  ·intro y0 y1
   unfold carcanetref01_Kind.j2
   repeat' first
   | (with_reducible exact ih0 _ _)
   | (with_reducible exact ih1 _ _)
   | (with_reducible exact ih2 _ _)
   | (with_reducible exact carcanetref01_Width.mono _ _)
   | (with_reducible exact LeO.refl _)
   | (with_reducible exact LeO.none _)
   | (with_reducible refine LeO.ite ?_ ?_)
   | (with_reducible refine LeO.bind ?_ (fun _ => ?_))
   | exact ih0 _ _
   | exact ih1 _ _
   | exact ih2 _ _
   | exact carcanetref01_Width.mono _ _
   | exact LeO.none _
   | refine LeO.ite ?_ ?_
   | refine LeO.bind ?_ (fun _ => ?_)
theorem carcanetref01_Kind.mono : ∀ a0 k, LeO (carcanetref01_Kind.f k a0) (carcanetref01_Kind.f (k + 1) a0) := by
 intro a0 k
 obtain ⟨ih0, ih1, ih2⟩ := carcanetref01_Kind.mono_l k
 unfold carcanetref01_Kind.f
 repeat' first
   | (with_reducible exact ih0 _ _)
   | (with_reducible exact ih1 _ _)
   | (with_reducible exact ih2 _ _)
   | (with_reducible exact carcanetref01_Width.mono _ _)
   | (with_reducible exact LeO.refl _)
   | (with_reducible exact LeO.none _)
   | (with_reducible refine LeO.ite ?_ ?_)
   | (with_reducible refine LeO.bind ?_ (fun _ => ?_))
   | exact ih0 _ _
   | exact ih1 _ _
   | exact ih2 _ _
   | exact carcanetref01_Width.mono _ _
   | exact LeO.none _
   | refine LeO.ite ?_ ?_
   | refine LeO.bind ?_ (fun _ => ?_)
set_option maxHeartbeats 8000000 in
set_option maxRecDepth 100000 in
theorem carcanetref01_Kind.calls (k : Nat) (a0 : Int) (r : Int) (w : World) (h : carcanetref01_Kind.f k a0 = some r) :
  Calls Tryz.prog 54 #[.int .i32 a0] w fun e w' => e = .returned (.int .i64 r) ∧ Drawn0 w w' := by
 have H : ((carcanetref01_Width.f k a0).bind fun t142 => (if t142 = 0 then (some 0) else (if (wrap64 (a0)) = 32 then (carcanetref01_Kind.j0 k (wrap64 (a0)) true) else (carcanetref01_Kind.j0 k (wrap64 (a0)) ((wrap64 (a0)) == 9))))) = some r := h
 clear h
 replace H := Option.bind_eq_some_iff.mp H
 obtain ⟨t142, A20, H⟩ := H
 replace H : (if t142 = 0 then (some 0) else (if (wrap64 (a0)) = 32 then (carcanetref01_Kind.j0 k (wrap64 (a0)) true) else (carcanetref01_Kind.j0 k (wrap64 (a0)) ((wrap64 (a0)) == 9)))) = some r := H
 have A2 := Aside0.mk A20
 clear A20
 by_cases c3 : t142 = 0
 ·rw [if_pos c3] at H
  have c3b0 : (t142 == 0) = true := beq_iff_eq.mpr c3
  have c3b1 : (t142 != 0) = false := bne_eq_false_iff_eq.mpr c3
  clear c3
  obtain rfl := Option.some.inj H
  go_enter Tryz.func54, Tryz.ntmps54
  go_wp2_with (first | ((with_reducible refine gate_callee (f := 71) rfl ?_); refine goesL_ (some 7) rfl rfl Tryz.func71 (by kernel_rfl) rfl #[.int .i32 a0] rfl (by (try simp only [List.map_toArray, List.map_cons, List.map_nil]); first | done | rfl | (simp only [List.length_drop, List.length_take]; rfl)) ?_; (with_reducible refine (carcanetref01_Width.calls k a0 t142 _ A2.out).mono ?_); rintro e w' ⟨rfl, ⟨nd, rfl⟩⟩; refine ⟨_, rfl, ?_⟩))
  go_ret
  exact ⟨by first | rfl | (simp; done) | (simp [*]; done), by repeat (first | exact Drawn0.refl _ | apply Drawn0.step)⟩
 ·rw [if_neg c3] at H
  have c3b0 : (t142 == 0) = false := beq_eq_false_iff_ne.mpr c3
  have c3b1 : (t142 != 0) = true := bne_iff_ne.mpr c3
  have HC4 := Aside0.mk H
  clear H
  go_enter Tryz.func54, Tryz.ntmps54
  go_upto_region 4 with (first | ((with_reducible refine gate_callee (f := 71) rfl ?_); refine goesL_ (some 7) rfl rfl Tryz.func71 (by kernel_rfl) rfl #[.int .i32 a0] rfl (by (try simp only [List.map_toArray, List.map_cons, List.map_nil]); first | done | rfl | (simp only [List.length_drop, List.length_take]; rfl)) ?_; (with_reducible refine (carcanetref01_Width.calls k a0 t142 _ A2.out).mono ?_); rintro e w' ⟨rfl, ⟨nd, rfl⟩⟩; refine ⟨_, rfl, ?_⟩))
  (try simp only [Act.put, List.setIfInBounds_toArray, List.set_cons_zero, List.set_cons_succ])
  go_cut [14] (fun v14 wc => ∃ (kq : Nat) (x14_3 : Bool), v14 = .bool x14_3 ∧ Aside0 (carcanetref01_Kind.j0 kq (wrap64 (a0)) x14_3 = some r) ∧ Aside0 (kq ≤ k) ∧ Drawn0 w wc)
  case first =>
   have H := HC4.out
   clear HC4
   by_cases c5 : (wrap64 (a0)) = 32
   ·rw [if_pos c5] at H
    have c5b0 : ((wrap64 (a0)) == 32) = true := beq_iff_eq.mpr c5
    have c5b1 : ((wrap64 (a0)) != 32) = false := bne_eq_false_iff_eq.mpr c5
    clear c5
    (first | rw [c5b0] | (simp only [i64_w, i32_w]; rw [c5b0]) | skip)
    have H' := Aside0.mk H
    clear H
    go_wp2
    go_meet
    case rel => exact ⟨_, (true), (by first | rfl | (simp; done) | (simp [*]; done)), H', ⟨by first | omega | exact Nat.le_refl _⟩, by repeat (first | exact Drawn0.refl _ | apply Drawn0.step)⟩
   ·rw [if_neg c5] at H
    have c5b0 : ((wrap64 (a0)) == 32) = false := beq_eq_false_iff_ne.mpr c5
    have c5b1 : ((wrap64 (a0)) != 32) = true := bne_iff_ne.mpr c5
    (first | rw [c5b0] | (simp only [i64_w, i32_w]; rw [c5b0]) | skip)
    have H' := Aside0.mk H
    clear H
    go_wp2
    go_meet
    case rel => exact ⟨_, (((wrap64 (a0)) == 9)), (by first | rfl | (simp; done) | (simp [*]; done)), H', ⟨by first | omega | exact Nat.le_refl _⟩, by repeat (first | exact Drawn0.refl _ | apply Drawn0.step)⟩
  case rest =>
   clear HC4
   try clear p2
   try clear c3
   try clear c3b0
   try clear c3b1
   try clear c5
   try clear c5b0
   try clear c5b1
   obtain ⟨kq, x14_3, rfl, HA, HJ3, ⟨mc3, rfl⟩⟩ := hcut
   cases kq with
   | zero => exact absurd HA.out (by simp [carcanetref01_Kind.j0])
   | succ kj3 =>
    have H := HA.out
    clear HA
    simp only [carcanetref01_Kind.j0] at H
    by_cases c6 : x14_3 = true
    ·subst c6
     have H1 : (some 1) = some r := by rw [if_pos rfl] at H; exact H
     clear H
     have H := H1
     clear H1
     obtain rfl := Option.some.inj H
     go_wp2
     go_ret
     exact ⟨by first | rfl | (simp; done) | (simp [*]; done), by repeat (first | exact Drawn0.refl _ | apply Drawn0.step)⟩
    ·replace c6 := Bool.eq_false_iff.mpr c6
     subst c6
     have H1 : (if (wrap64 (a0)) = 10 then (some 2) else (if (wrap64 (a0)) ≥ 48 then (carcanetref01_Kind.j1 kj3 (wrap64 (a0)) (decide ((wrap64 (a0)) ≤ 57))) else (carcanetref01_Kind.j1 kj3 (wrap64 (a0)) false))) = some r := by rw [if_neg (show ¬ (false = true) by decide)] at H; exact H
     clear H
     have H := H1
     clear H1
     by_cases c7 : (wrap64 (a0)) = 10
     ·rw [if_pos c7] at H
      have c7b0 : ((wrap64 (a0)) == 10) = true := beq_iff_eq.mpr c7
      have c7b1 : ((wrap64 (a0)) != 10) = false := bne_eq_false_iff_eq.mpr c7
      clear c7
      obtain rfl := Option.some.inj H
      go_wp2
      go_ret
      exact ⟨by first | rfl | (simp; done) | (simp [*]; done), by repeat (first | exact Drawn0.refl _ | apply Drawn0.step)⟩
     ·rw [if_neg c7] at H
      have c7b0 : ((wrap64 (a0)) == 10) = false := beq_eq_false_iff_ne.mpr c7
      have c7b1 : ((wrap64 (a0)) != 10) = true := bne_iff_ne.mpr c7
      have HC8 := Aside0.mk H
      clear H
      go_upto_region 8 with (fail)
      go_cut [22] (fun v22 wc => ∃ (kq : Nat) (x22_7 : Bool), v22 = .bool x22_7 ∧ Aside0 (carcanetref01_Kind.j1 kq (wrap64 (a0)) x22_7 = some r) ∧ Aside0 (kq ≤ kj3) ∧ Drawn0 w wc)
      case first =>
       have H := HC8.out
       clear HC8
       by_cases c9 : (wrap64 (a0)) ≥ 48
       ·rw [if_pos c9] at H
        have c9b0 : decide (48 ≤ (wrap64 (a0))) = true := decide_eq_true c9
        clear c9
        (first | rw [c9b0] | (simp only [i64_w, i32_w]; rw [c9b0]) | skip)
        have H' := Aside0.mk H
        clear H
        go_wp2
        go_meet
        case rel => exact ⟨_, (decide ((wrap64 (a0)) ≤ 57)), (by first | rfl | (simp; done) | (simp [*]; done)), H', ⟨by have := HJ3.out; first | omega | exact Nat.le_refl _⟩, by repeat (first | exact Drawn0.refl _ | apply Drawn0.step)⟩
       ·rw [if_neg c9] at H
        have c9b0 : decide (48 ≤ (wrap64 (a0))) = false := decide_eq_false c9
        clear c9
        (first | rw [c9b0] | (simp only [i64_w, i32_w]; rw [c9b0]) | skip)
        have H' := Aside0.mk H
        clear H
        go_wp2
        go_meet
        case rel => exact ⟨_, (false), (by first | rfl | (simp; done) | (simp [*]; done)), H', ⟨by have := HJ3.out; first | omega | exact Nat.le_refl _⟩, by repeat (first | exact Drawn0.refl _ | apply Drawn0.step)⟩
      case rest =>
       clear HC8
       try clear p2
       try clear c3
       try clear c3b0
       try clear c3b1
       try clear c5
       try clear c5b0
       try clear c5b1
       try clear c6
       try clear p6
       try clear c7
       try clear c7b0
       try clear c7b1
       try clear c9
       try clear c9b0
       try clear p2
       obtain ⟨kq, x22_7, rfl, HA, HJ7, ⟨mc7, rfl⟩⟩ := hcut
       cases kq with
       | zero => exact absurd HA.out (by simp [carcanetref01_Kind.j1])
       | succ kj7 =>
        have H := HA.out
        clear HA
        simp only [carcanetref01_Kind.j1] at H
        by_cases c10 : x22_7 = true
        ·subst c10
         have H1 : (some 3) = some r := by rw [if_pos rfl] at H; exact H
         clear H
         have H := H1
         clear H1
         obtain rfl := Option.some.inj H
         go_wp2
         go_ret
         exact ⟨by first | rfl | (simp; done) | (simp [*]; done), by repeat (first | exact Drawn0.refl _ | apply Drawn0.step)⟩
        ·replace c10 := Bool.eq_false_iff.mpr c10
         subst c10
         have H1 : (if (wrap64 (a0)) ≥ 65 then (if (wrap64 (a0)) ≤ 90 then (carcanetref01_Kind.j2 kj7 (wrap64 (a0)) true) else (if (wrap64 (a0)) ≥ 97 then (if (wrap64 (a0)) ≤ 122 then (carcanetref01_Kind.j2 kj7 (wrap64 (a0)) true) else (if (wrap64 (a0)) = 95 then (carcanetref01_Kind.j2 kj7 (wrap64 (a0)) true) else (carcanetref01_Kind.j2 kj7 (wrap64 (a0)) (decide ((wrap64 (a0)) ≥ 128))))) else (if (wrap64 (a0)) = 95 then (carcanetref01_Kind.j2 kj7 (wrap64 (a0)) true) else (carcanetref01_Kind.j2 kj7 (wrap64 (a0)) (decide ((wrap64 (a0)) ≥ 128)))))) else (if (wrap64 (a0)) ≥ 97 then (if (wrap64 (a0)) ≤ 122 then (carcanetref01_Kind.j2 kj7 (wrap64 (a0)) true) else (if (wrap64 (a0)) = 95 then (carcanetref01_Kind.j2 kj7 (wrap64 (a0)) true) else (carcanetref01_Kind.j2 kj7 (wrap64 (a0)) (decide ((wrap64 (a0)) ≥ 128))))) else (if (wrap64 (a0)) = 95 then (carcanetref01_Kind.j2 kj7 (wrap64 (a0)) true) else (carcanetref01_Kind.j2 kj7 (wrap64 (a0)) (decide ((wrap64 (a0)) ≥ 128)))))) = some r := by rw [if_neg (show ¬ (false = true) by decide)] at H; exact H
         clear H
         have H := H1
         clear H1
         have HC11 := Aside0.mk H
         clear H
         go_upto_region 10 with (fail)
         go_cut [44] (fun v44 wc => ∃ (kq : Nat) (x44_10 : Bool), v44 = .bool x44_10 ∧ Aside0 (carcanetref01_Kind.j2 kq (wrap64 (a0)) x44_10 = some r) ∧ Aside0 (kq ≤ kj7) ∧ Drawn0 w wc)
         case first =>
          have H := HC11.out
          clear HC11
          by_cases c12 : (wrap64 (a0)) ≥ 65
          ·rw [if_pos c12] at H
           have c12b0 : decide (65 ≤ (wrap64 (a0))) = true := decide_eq_true c12
           clear c12
           (first | rw [c12b0] | (simp only [i64_w, i32_w]; rw [c12b0]) | skip)
           by_cases c13 : (wrap64 (a0)) ≤ 90
           ·rw [if_pos c13] at H
            have c13b0 : decide ((wrap64 (a0)) ≤ 90) = true := decide_eq_true c13
            clear c13
            have H' := Aside0.mk H
            clear H
            go_wp2
            go_meet
            case rel => exact ⟨_, (true), (by first | rfl | (simp; done) | (simp [*]; done)), H', ⟨by have := HJ3.out; have := HJ7.out; first | omega | exact Nat.le_refl _⟩, by repeat (first | exact Drawn0.refl _ | apply Drawn0.step)⟩
           ·rw [if_neg c13] at H
            have c13b0 : decide ((wrap64 (a0)) ≤ 90) = false := decide_eq_false c13
            clear c13
            by_cases c14 : (wrap64 (a0)) ≥ 97
            ·rw [if_pos c14] at H
             have c14b0 : decide (97 ≤ (wrap64 (a0))) = true := decide_eq_true c14
             clear c14
             by_cases c15 : (wrap64 (a0)) ≤ 122
             ·rw [if_pos c15] at H
              have c15b0 : decide ((wrap64 (a0)) ≤ 122) = true := decide_eq_true c15
              clear c15
              have H' := Aside0.mk H
              clear H
              go_wp2
              go_meet
              case rel => exact ⟨_, (true), (by first | rfl | (simp; done) | (simp [*]; done)), H', ⟨by have := HJ3.out; have := HJ7.out; first | omega | exact Nat.le_refl _⟩, by repeat (first | exact Drawn0.refl _ | apply Drawn0.step)⟩
             ·rw [if_neg c15] at H
              have c15b0 : decide ((wrap64 (a0)) ≤ 122) = false := decide_eq_false c15
              clear c15
              by_cases c16 : (wrap64 (a0)) = 95
              ·rw [if_pos c16] at H
               have c16b0 : ((wrap64 (a0)) == 95) = true := beq_iff_eq.mpr c16
               have c16b1 : ((wrap64 (a0)) != 95) = false := bne_eq_false_iff_eq.mpr c16
               clear c16
               have H' := Aside0.mk H
               clear H
               go_wp2
               go_meet
               case rel => exact ⟨_, (true), (by first | rfl | (simp; done) | (simp [*]; done)), H', ⟨by have := HJ3.out; have := HJ7.out; first | omega | exact Nat.le_refl _⟩, by repeat (first | exact Drawn0.refl _ | apply Drawn0.step)⟩
              ·rw [if_neg c16] at H
               have c16b0 : ((wrap64 (a0)) == 95) = false := beq_eq_false_iff_ne.mpr c16
               have c16b1 : ((wrap64 (a0)) != 95) = true := bne_iff_ne.mpr c16
               have H' := Aside0.mk H
               clear H
               go_wp2
               go_meet
               case rel => exact ⟨_, (decide ((wrap64 (a0)) ≥ 128)), (by first | rfl | (simp; done) | (simp [*]; done)), H', ⟨by have := HJ3.out; have := HJ7.out; first | omega | exact Nat.le_refl _⟩, by repeat (first | exact Drawn0.refl _ | apply Drawn0.step)⟩
            ·rw [if_neg c14] at H
             have c14b0 : decide (97 ≤ (wrap64 (a0))) = false := decide_eq_false c14
             clear c14
             by_cases c17 : (wrap64 (a0)) = 95
             ·rw [if_pos c17] at H
              have c17b0 : ((wrap64 (a0)) == 95) = true := beq_iff_eq.mpr c17
              have c17b1 : ((wrap64 (a0)) != 95) = false := bne_eq_false_iff_eq.mpr c17
              clear c17
              have H' := Aside0.mk H
              clear H
              go_wp2
              go_meet
              case rel => exact ⟨_, (true), (by first | rfl | (simp; done) | (simp [*]; done)), H', ⟨by have := HJ3.out; have := HJ7.out; first | omega | exact Nat.le_refl _⟩, by repeat (first | exact Drawn0.refl _ | apply Drawn0.step)⟩
             ·rw [if_neg c17] at H
              have c17b0 : ((wrap64 (a0)) == 95) = false := beq_eq_false_iff_ne.mpr c17
              have c17b1 : ((wrap64 (a0)) != 95) = true := bne_iff_ne.mpr c17
              have H' := Aside0.mk H
              clear H
              go_wp2
              go_meet
              case rel => exact ⟨_, (decide ((wrap64 (a0)) ≥ 128)), (by first | rfl | (simp; done) | (simp [*]; done)), H', ⟨by have := HJ3.out; have := HJ7.out; first | omega | exact Nat.le_refl _⟩, by repeat (first | exact Drawn0.refl _ | apply Drawn0.step)⟩
          ·rw [if_neg c12] at H
           have c12b0 : decide (65 ≤ (wrap64 (a0))) = false := decide_eq_false c12
           clear c12
           (first | rw [c12b0] | (simp only [i64_w, i32_w]; rw [c12b0]) | skip)
           by_cases c18 : (wrap64 (a0)) ≥ 97
           ·rw [if_pos c18] at H
            have c18b0 : decide (97 ≤ (wrap64 (a0))) = true := decide_eq_true c18
            clear c18
            by_cases c19 : (wrap64 (a0)) ≤ 122
            ·rw [if_pos c19] at H
             have c19b0 : decide ((wrap64 (a0)) ≤ 122) = true := decide_eq_true c19
             clear c19
             have H' := Aside0.mk H
             clear H
             go_wp2
             go_meet
             case rel => exact ⟨_, (true), (by first | rfl | (simp; done) | (simp [*]; done)), H', ⟨by have := HJ3.out; have := HJ7.out; first | omega | exact Nat.le_refl _⟩, by repeat (first | exact Drawn0.refl _ | apply Drawn0.step)⟩
            ·rw [if_neg c19] at H
             have c19b0 : decide ((wrap64 (a0)) ≤ 122) = false := decide_eq_false c19
             clear c19
             by_cases c20 : (wrap64 (a0)) = 95
             ·rw [if_pos c20] at H
              have c20b0 : ((wrap64 (a0)) == 95) = true := beq_iff_eq.mpr c20
              have c20b1 : ((wrap64 (a0)) != 95) = false := bne_eq_false_iff_eq.mpr c20
              clear c20
              have H' := Aside0.mk H
              clear H
              go_wp2
              go_meet
              case rel => exact ⟨_, (true), (by first | rfl | (simp; done) | (simp [*]; done)), H', ⟨by have := HJ3.out; have := HJ7.out; first | omega | exact Nat.le_refl _⟩, by repeat (first | exact Drawn0.refl _ | apply Drawn0.step)⟩
             ·rw [if_neg c20] at H
              have c20b0 : ((wrap64 (a0)) == 95) = false := beq_eq_false_iff_ne.mpr c20
              have c20b1 : ((wrap64 (a0)) != 95) = true := bne_iff_ne.mpr c20
              have H' := Aside0.mk H
              clear H
              go_wp2
              go_meet
              case rel => exact ⟨_, (decide ((wrap64 (a0)) ≥ 128)), (by first | rfl | (simp; done) | (simp [*]; done)), H', ⟨by have := HJ3.out; have := HJ7.out; first | omega | exact Nat.le_refl _⟩, by repeat (first | exact Drawn0.refl _ | apply Drawn0.step)⟩
           ·rw [if_neg c18] at H
            have c18b0 : decide (97 ≤ (wrap64 (a0))) = false := decide_eq_false c18
            clear c18
            by_cases c21 : (wrap64 (a0)) = 95
            ·rw [if_pos c21] at H
             have c21b0 : ((wrap64 (a0)) == 95) = true := beq_iff_eq.mpr c21
             have c21b1 : ((wrap64 (a0)) != 95) = false := bne_eq_false_iff_eq.mpr c21
             clear c21
             have H' := Aside0.mk H
             clear H
             go_wp2
             go_meet
             case rel => exact ⟨_, (true), (by first | rfl | (simp; done) | (simp [*]; done)), H', ⟨by have := HJ3.out; have := HJ7.out; first | omega | exact Nat.le_refl _⟩, by repeat (first | exact Drawn0.refl _ | apply Drawn0.step)⟩
            ·rw [if_neg c21] at H
             have c21b0 : ((wrap64 (a0)) == 95) = false := beq_eq_false_iff_ne.mpr c21
             have c21b1 : ((wrap64 (a0)) != 95) = true := bne_iff_ne.mpr c21
             have H' := Aside0.mk H
             clear H
             go_wp2
             go_meet
             case rel => exact ⟨_, (decide ((wrap64 (a0)) ≥ 128)), (by first | rfl | (simp; done) | (simp [*]; done)), H', ⟨by have := HJ3.out; have := HJ7.out; first | omega | exact Nat.le_refl _⟩, by repeat (first | exact Drawn0.refl _ | apply Drawn0.step)⟩
         case rest =>
          clear HC11
          try clear c1
          try clear c2
          try clear p2
          try clear c3
          try clear c3b0
          try clear c3b1
          try clear c5
          try clear c5b0
          try clear c5b1
          try clear c6
          try clear p6
          try clear c7
          try clear c7b0
          try clear c7b1
          try clear c9
          try clear c9b0
          try clear c10
          try clear c12
          try clear c12b0
          try clear c13
          try clear c13b0
          try clear c14
          try clear c14b0
          try clear c15
          try clear c15b0
          try clear c16
          try clear c16b0
          try clear c16b1
          try clear c17
          try clear c17b0
          try clear c17b1
          try clear c18
          try clear c18b0
          try clear c19
          try clear c19b0
          try clear c20
          try clear c20b0
          try clear c20b1
          try clear c21
          try clear c21b0
          try clear c21b1
          try clear p2
          try clear p6
          obtain ⟨kq, x44_10, rfl, HA, HJ10, ⟨mc10, rfl⟩⟩ := hcut
          cases kq with
          | zero => exact absurd HA.out (by simp [carcanetref01_Kind.j2])
          | succ kj10 =>
           have H := HA.out
           clear HA
           simp only [carcanetref01_Kind.j2] at H
           by_cases c22 : x44_10 = true
           ·subst c22
            have H1 : (some 4) = some r := by rw [if_pos rfl] at H; exact H
            clear H
            have H := H1
            clear H1
            obtain rfl := Option.some.inj H
            go_wp2
            go_ret
            exact ⟨by first | rfl | (simp; done) | (simp [*]; done), by repeat (first | exact Drawn0.refl _ | apply Drawn0.step)⟩
           ·replace c22 := Bool.eq_false_iff.mpr c22
            subst c22
            have H1 : (if (wrap64 (a0)) ≥ 33 then (if (wrap64 (a0)) ≤ 126 then (some 5) else (some 0)) else (some 0)) = some r := by rw [if_neg (show ¬ (false = true) by decide)] at H; exact H
            clear H
            have H := H1
            clear H1
            by_cases c23 : (wrap64 (a0)) ≥ 33
            ·rw [if_pos c23] at H
             have c23b0 : decide (33 ≤ (wrap64 (a0))) = true := decide_eq_true c23
             clear c23
             by_cases c24 : (wrap64 (a0)) ≤ 126
             ·rw [if_pos c24] at H
              have c24b0 : decide ((wrap64 (a0)) ≤ 126) = true := decide_eq_true c24
              clear c24
              obtain rfl := Option.some.inj H
              go_wp2
              go_ret
              exact ⟨by first | rfl | (simp; done) | (simp [*]; done), by repeat (first | exact Drawn0.refl _ | apply Drawn0.step)⟩
             ·rw [if_neg c24] at H
              have c24b0 : decide ((wrap64 (a0)) ≤ 126) = false := decide_eq_false c24
              clear c24
              obtain rfl := Option.some.inj H
              go_wp2
              go_ret
              exact ⟨by first | rfl | (simp; done) | (simp [*]; done), by repeat (first | exact Drawn0.refl _ | apply Drawn0.step)⟩
            ·rw [if_neg c23] at H
             have c23b0 : decide (33 ≤ (wrap64 (a0))) = false := decide_eq_false c23
             clear c23
             obtain rfl := Option.some.inj H
             go_wp2
             go_ret
             exact ⟨by first | rfl | (simp; done) | (simp [*]; done), by repeat (first | exact Drawn0.refl _ | apply Drawn0.step)⟩

/-! ### carcanetref02_kind: function 34 -/
def carcanetref02_kind.f (k : Nat) (a0 : ByteArray) (a1 : Int) : Option (Int × Int) := if a1 ≥ (a0.size : Int) then (some (2, 0)) else (if 0 ≤ a1 then (if a1 ≤ (a0.size : Int) then ((carcanetref01_One.f k (a0.extract (a1 : Int).toNat a0.size)).bind fun bt143 => ((carcanetref01_Kind.f k (wrap32 (bt143.1))).bind fun t145 => (some (t145, bt143.2)))) else (none)) else (none))
theorem carcanetref02_kind.mono : ∀ a0 a1 k, LeO (carcanetref02_kind.f k a0 a1) (carcanetref02_kind.f (k + 1) a0 a1) := by
 intro a0 a1 k
 unfold carcanetref02_kind.f
 repeat' first
   | (with_reducible exact carcanetref01_Kind.mono _ _)
   | (with_reducible exact carcanetref01_One.mono _ _)
   | (with_reducible exact LeO.refl _)
   | (with_reducible exact LeO.none _)
   | (with_reducible refine LeO.ite ?_ ?_)
   | (with_reducible refine LeO.bind ?_ (fun _ => ?_))
   | exact carcanetref01_Kind.mono _ _
   | exact carcanetref01_One.mono _ _
   | exact LeO.none _
   | refine LeO.ite ?_ ?_
   | refine LeO.bind ?_ (fun _ => ?_)
set_option maxHeartbeats 8000000 in
set_option maxRecDepth 100000 in
theorem carcanetref02_kind.calls (k : Nat) (a0 : ByteArray) (a1 : Int) (r1 : Int) (r2 : Int) (w : World) (h : carcanetref02_kind.f k a0 a1 = some (r1, r2)) :
  Calls Tryz.prog 34 #[.string a0, .int .i64 a1] w fun e w' => e = .returned (.tuple #[.int .i64 r1, .int .i64 r2]) ∧ Drawn0 w w' := by
 have H : (if a1 ≥ (a0.size : Int) then (some (2, 0)) else (if 0 ≤ a1 then (if a1 ≤ (a0.size : Int) then ((carcanetref01_One.f k (a0.extract (a1 : Int).toNat a0.size)).bind fun bt143 => ((carcanetref01_Kind.f k (wrap32 (bt143.1))).bind fun t145 => (some (t145, bt143.2)))) else (none)) else (none))) = some (r1, r2) := h
 clear h
 by_cases c3 : a1 ≥ (a0.size : Int)
 ·rw [if_pos c3] at H
  have c3b0 : decide ((a0.size : Int) ≤ a1) = true := decide_eq_true c3
  clear c3
  simp only [Option.some.injEq, Prod.mk.injEq] at H
  obtain ⟨rfl, rfl⟩ := H
  go_enter Tryz.func34, Tryz.ntmps34
  go_wp2
  go_ret2
  exact ⟨by first | rfl | (simp; done) | (simp [*]; done), by repeat (first | exact Drawn0.refl _ | apply Drawn0.step)⟩
 ·rw [if_neg c3] at H
  have c3b0 : decide ((a0.size : Int) ≤ a1) = false := decide_eq_false c3
  clear c3
  by_cases c4 : 0 ≤ a1
  ·rw [if_pos c4] at H
   have c4b0 := eq_true c4
   have c4b1 : decide (0 ≤ a1) = true := decide_eq_true c4
   clear c4
   by_cases c5 : a1 ≤ (a0.size : Int)
   ·rw [if_pos c5] at H
    have c5b0 := eq_true c5
    have c5b1 : decide (a1 ≤ (a0.size : Int)) = true := decide_eq_true c5
    clear c5
    replace H := Option.bind_eq_some_iff.mp H
    obtain ⟨⟨t143, t144⟩, A60, H⟩ := H
    replace H : ((carcanetref01_Kind.f k (wrap32 (t143))).bind fun t145 => (some (t145, t144))) = some (r1, r2) := H
    have A6 := Aside0.mk A60
    clear A60
    replace H := Option.bind_eq_some_iff.mp H
    obtain ⟨t145, A70, H⟩ := H
    replace H : (some (t145, t144)) = some (r1, r2) := H
    have A7 := Aside0.mk A70
    clear A70
    simp only [Option.some.injEq, Prod.mk.injEq] at H
    obtain ⟨rfl, rfl⟩ := H
    go_enter Tryz.func34, Tryz.ntmps34
    go_wp2_with (first | ((with_reducible refine gate_callee (f := 53) rfl ?_); refine goesL_ (some 16) rfl rfl Tryz.func53 (by kernel_rfl) rfl #[.string (a0.extract (a1 : Int).toNat a0.size)] rfl (by (try simp only [List.map_toArray, List.map_cons, List.map_nil]); first | done | rfl | (simp only [List.length_drop, List.length_take]; rfl)) ?_; (with_reducible refine (carcanetref01_One.calls k (a0.extract (a1 : Int).toNat a0.size) t143 t144 _ A6.out).mono ?_); rintro e w' ⟨rfl, ⟨nd, rfl⟩⟩; refine ⟨_, rfl, ?_⟩) | ((with_reducible refine gate_callee (f := 54) rfl ?_); refine goesL_ (some 21) rfl rfl Tryz.func54 (by kernel_rfl) rfl #[.int .i32 (wrap32 (t143))] rfl (by (try simp only [List.map_toArray, List.map_cons, List.map_nil]); first | done | rfl | (simp only [List.length_drop, List.length_take]; rfl)) ?_; (with_reducible refine (carcanetref01_Kind.calls k (wrap32 (t143)) t145 _ A7.out).mono ?_); rintro e w' ⟨rfl, ⟨nd, rfl⟩⟩; refine ⟨_, rfl, ?_⟩))
    go_ret2
    exact ⟨by first | rfl | (simp; done) | (simp [*]; done), by repeat (first | exact Drawn0.refl _ | apply Drawn0.step)⟩
   ·rw [if_neg c5] at H
    exact absurd H (by simp)
  ·rw [if_neg c4] at H
   exact absurd H (by simp)

end Go.Proofs.YtmdmdbiinngneaaGreatDoor.Q
