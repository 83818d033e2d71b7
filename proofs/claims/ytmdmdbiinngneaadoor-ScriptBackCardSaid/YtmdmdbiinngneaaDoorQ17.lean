-- Laid by prx.py (ours), out of the translation's print. Not trusted: Lean checks it.
import Derived.Test.YtmdmdbiinngneaaDoorQ0
import Derived.Test.YtmdmdbiinngneaaDoorQ6
import Derived.Test.YtmdmdbiinngneaaDoorQ11
import Derived.Test.YtmdmdbiinngneaaDoorQ12
import Derived.Test.YtmdmdbiinngneaaDoorQ13
import Derived.Test.YtmdmdbiinngneaaDoorQ15
import Derived.Test.YtmdmdbiinngneaaDoorQ16
namespace Go.Proofs.YtmdmdbiinngneaaDoor.Q
open Go.RowKit Go.Proofs.YtmdmdbiinngneaaDoorW.PrintWords Go.Proofs.YtmdmdbiinngneaaDoorW.PrintLast Go.Proofs.YtmdmdbiinngneaaDoorW.PrintMore
attribute [local go_sem] max2_int min2_int max_two min_two max_three min_three max_four min_four   -- for this text's walks alone
set_option linter.unusedVariables false
set_option linter.unusedSimpArgs false

/-! ### carcanetlaw25_ScriptBack: function 3 -/
mutual
def carcanetlaw25_ScriptBack.l0 : Nat → Bool → List (S34) → ByteArray → ByteArray → Int → Option (Bool)
 | 0, _, _, _, _, _ => none
 | k + 1, x3, x4, x7, x8, x9 => if x9 < (x4.length : Int) then (if 0 ≤ x9 then ((carcanetref25_Line.f k ((rd_T34 x4 x9).f0) ((rd_T34 x4 x9).f1) ((rd_T34 x4 x9).f2.f0) ((rd_T34 x4 x9).f2.f1) ((rd_T34 x4 x9).f3) ((rd_T34 x4 x9).f4) ((rd_T34 x4 x9).f5)).bind fun t166 => (if x8.size + t166.size ≤ 9223372036854775807 then (if (x8 ++ t166).size + 1 ≤ 9223372036854775807 then (carcanetlaw25_ScriptBack.l0 k x3 x4 x7 ((x8 ++ t166) ++ (⟨#[10]⟩ : ByteArray)) (wrap64 (x9 + 1))) else (none)) else (none))) else (none)) else ((script_Parse.f k x7).bind fun bt167 => (if x7.toList = x8.toList then (if bt167.2.2 = 0 then (if bt167.2.1 = 0 then (if (bt167.1.length : Int) = (x4.length : Int) then ((script_Text.f bt167.1).bind fun t172 => (carcanetlaw25_ScriptBack.j1 k x3 x4 bt167.1 (t172.toList != x7.toList))) else (carcanetlaw25_ScriptBack.j1 k x3 x4 bt167.1 true)) else (carcanetlaw25_ScriptBack.j1 k x3 x4 bt167.1 true)) else (carcanetlaw25_ScriptBack.j1 k x3 x4 bt167.1 true)) else (carcanetlaw25_ScriptBack.j1 k x3 x4 bt167.1 true)))
def carcanetlaw25_ScriptBack.j1 : Nat → Bool → List (S34) → List (S34) → Bool → Option (Bool)
 | 0, _, _, _, _ => none
 | k + 1, x3, x4, x10, x72 => if x72 = true then (some false) else (carcanetlaw25_ScriptBack.l1 k x3 x4 x10 0)
def carcanetlaw25_ScriptBack.l1 : Nat → Bool → List (S34) → List (S34) → Int → Option (Bool)
 | 0, _, _, _, _ => none
 | k + 1, x3, x4, x10, x13 => if x13 < (x4.length : Int) then (if 0 ≤ x13 then (if x13 < (x10.length : Int) then ((carcanetref25_Same.f k ((rd_T34 x10 x13).f0) ((rd_T34 x10 x13).f1) ((rd_T34 x10 x13).f2.f0) ((rd_T34 x10 x13).f2.f1) ((rd_T34 x10 x13).f3) ((rd_T34 x10 x13).f4) ((rd_T34 x10 x13).f5) ((rd_T34 x4 x13).f0) ((rd_T34 x4 x13).f1) ((rd_T34 x4 x13).f2.f0) ((rd_T34 x4 x13).f2.f1) ((rd_T34 x4 x13).f3) ((rd_T34 x10 x13).f4) ((rd_T34 x10 x13).f5)).bind fun t178 => (if t178 = true then (carcanetlaw25_ScriptBack.l1 k x3 x4 x10 (wrap64 (x13 + 1))) else (some false))) else (none)) else (none)) else (some x3)
end
def carcanetlaw25_ScriptBack.f (k : Nat) (a0 : ByteArray) : Option (Bool) := (carcanetlaw25_shown.f).bind fun t158 => (if 0 ≤ (mn (a0.size : Int) 1500) then (if (mn (a0.size : Int) 1500) ≤ (a0.size : Int) then ((script_Parse.f k (a0.extract 0 ((mn (a0.size : Int) 1500) : Int).toNat)).bind fun bt159 => ((script_Text.f bt159.1).bind fun t164 => (carcanetlaw25_ScriptBack.l0 k t158 bt159.1 t164 (⟨#[]⟩ : ByteArray) 0))) else (none)) else (none))
theorem carcanetlaw25_ScriptBack.mono_l : ∀ k, (∀ y0 y1 y2 y3 y4, LeO (carcanetlaw25_ScriptBack.l0 k y0 y1 y2 y3 y4) (carcanetlaw25_ScriptBack.l0 (k + 1) y0 y1 y2 y3 y4)) ∧ (∀ y0 y1 y2 y3, LeO (carcanetlaw25_ScriptBack.j1 k y0 y1 y2 y3) (carcanetlaw25_ScriptBack.j1 (k + 1) y0 y1 y2 y3)) ∧ (∀ y0 y1 y2 y3, LeO (carcanetlaw25_ScriptBack.l1 k y0 y1 y2 y3) (carcanetlaw25_ScriptBack.l1 (k + 1) y0 y1 y2 y3))
 | 0 => ⟨fun _ _ _ _ _ r h => by simp [carcanetlaw25_ScriptBack.l0] at h, fun _ _ _ _ r h => by simp [carcanetlaw25_ScriptBack.j1] at h, fun _ _ _ _ r h => by simp [carcanetlaw25_ScriptBack.l1] at h⟩
 | k + 1 => by
  obtain ⟨ih0, ih1, ih2⟩ := carcanetlaw25_ScriptBack.mono_l k
  refine ⟨?_, ?_, ?_⟩
  ·intro y0 y1 y2 y3 y4
   unfold carcanetlaw25_ScriptBack.l0
   repeat' first
   | (with_reducible exact ih0 _ _ _ _ _)
   | (with_reducible exact ih1 _ _ _ _)
   | (with_reducible exact ih2 _ _ _ _)
   | (with_reducible exact carcanetref25_Line.mono _ _ _ _ _ _ _ _)
   | (with_reducible exact carcanetref25_Same.mono _ _ _ _ _ _ _ _ _ _ _ _ _ _ _)
   | (with_reducible exact script_Parse.mono _ _)
   | (with_reducible exact LeO.refl _)
   | (with_reducible exact LeO.none _)
   | (with_reducible refine LeO.ite ?_ ?_)
   | (with_reducible refine LeO.bind ?_ (fun _ => ?_))
   | exact ih0 _ _ _ _ _
   | exact ih1 _ _ _ _
   | exact ih2 _ _ _ _
   | exact carcanetref25_Line.mono _ _ _ _ _ _ _ _
   | exact carcanetref25_Same.mono _ _ _ _ _ _ _ _ _ _ _ _ _ _ _
   | exact script_Parse.mono _ _
   | exact LeO.none _
   | refine LeO.ite ?_ ?_
   | refine LeO.bind ?_ (fun _ => ?_)
  ·intro y0 y1 y2 y3
   unfold carcanetlaw25_ScriptBack.j1
   repeat' first
   | (with_reducible exact ih0 _ _ _ _ _)
   | (with_reducible exact ih1 _ _ _ _)
   | (with_reducible exact ih2 _ _ _ _)
   | (with_reducible exact carcanetref25_Line.mono _ _ _ _ _ _ _ _)
   | (with_reducible exact carcanetref25_Same.mono _ _ _ _ _ _ _ _ _ _ _ _ _ _ _)
   | (with_reducible exact script_Parse.mono _ _)
   | (with_reducible exact LeO.refl _)
   | (with_reducible exact LeO.none _)
   | (with_reducible refine LeO.ite ?_ ?_)
   | (with_reducible refine LeO.bind ?_ (fun _ => ?_))
   | exact ih0 _ _ _ _ _
   | exact ih1 _ _ _ _
   | exact ih2 _ _ _ _
   | exact carcanetref25_Line.mono _ _ _ _ _ _ _ _
   | exact carcanetref25_Same.mono _ _ _ _ _ _ _ _ _ _ _ _ _ _ _
   | exact script_Parse.mono _ _
   | exact LeO.none _
   | refine LeO.ite ?_ ?_
   | refine LeO.bind ?_ (fun _ => ?_)
  ·intro y0 y1 y2 y3
   unfold carcanetlaw25_ScriptBack.l1
   repeat' first
   | (with_reducible exact ih0 _ _ _ _ _)
   | (with_reducible exact ih1 _ _ _ _)
   | (with_reducible exact ih2 _ _ _ _)
   | (with_reducible exact carcanetref25_Line.mono _ _ _ _ _ _ _ _)
   | (with_reducible exact carcanetref25_Same.mono _ _ _ _ _ _ _ _ _ _ _ _ _ _ _)
   | (with_reducible exact script_Parse.mono _ _)
   | (with_reducible exact LeO.refl _)
   | (with_reducible exact LeO.none _)
   | (with_reducible refine LeO.ite ?_ ?_)
   | (with_reducible refine LeO.bind ?_ (fun _ => ?_))
   | exact ih0 _ _ _ _ _
   | exact ih1 _ _ _ _
   | exact ih2 _ _ _ _
   | exact carcanetref25_Line.mono _ _ _ _ _ _ _ _
   | exact carcanetref25_Same.mono _ _ _ _ _ _ _ _ _ _ _ _ _ _ _
   | exact script_Parse.mono _ _
   | exact LeO.none _
   | refine LeO.ite ?_ ?_
   | refine LeO.bind ?_ (fun _ => ?_)
theorem carcanetlaw25_ScriptBack.mono : ∀ a0 k, LeO (carcanetlaw25_ScriptBack.f k a0) (carcanetlaw25_ScriptBack.f (k + 1) a0) := by
 intro a0 k
 obtain ⟨ih0, ih1, ih2⟩ := carcanetlaw25_ScriptBack.mono_l k
 unfold carcanetlaw25_ScriptBack.f
 repeat' first
   | (with_reducible exact ih0 _ _ _ _ _)
   | (with_reducible exact ih1 _ _ _ _)
   | (with_reducible exact ih2 _ _ _ _)
   | (with_reducible exact carcanetref25_Line.mono _ _ _ _ _ _ _ _)
   | (with_reducible exact carcanetref25_Same.mono _ _ _ _ _ _ _ _ _ _ _ _ _ _ _)
   | (with_reducible exact script_Parse.mono _ _)
   | (with_reducible exact LeO.refl _)
   | (with_reducible exact LeO.none _)
   | (with_reducible refine LeO.ite ?_ ?_)
   | (with_reducible refine LeO.bind ?_ (fun _ => ?_))
   | exact ih0 _ _ _ _ _
   | exact ih1 _ _ _ _
   | exact ih2 _ _ _ _
   | exact carcanetref25_Line.mono _ _ _ _ _ _ _ _
   | exact carcanetref25_Same.mono _ _ _ _ _ _ _ _ _ _ _ _ _ _ _
   | exact script_Parse.mono _ _
   | exact LeO.none _
   | refine LeO.ite ?_ ?_
   | refine LeO.bind ?_ (fun _ => ?_)
set_option maxHeartbeats 8000000 in
set_option maxRecDepth 100000 in
theorem carcanetlaw25_ScriptBack.calls (k : Nat) (a0 : ByteArray) (r : Bool) (w : World) (hGW : GW w) (h : carcanetlaw25_ScriptBack.f k a0 = some r) :
  Calls Tryd.prog 3 #[.string a0] w fun e w' => e = .returned (.bool r) ∧ Below w.heap.size w w' := by
 have hu34 := Tryd.underlying34
 have hu33 := Tryd.underlying33
 have HGW := Aside0.mk hGW
 clear hGW
 have HB := Aside0.mk (Below.refl w.heap.size w)
 have H : ((carcanetlaw25_shown.f).bind fun t158 => (if 0 ≤ (mn (a0.size : Int) 1500) then (if (mn (a0.size : Int) 1500) ≤ (a0.size : Int) then ((script_Parse.f k (a0.extract 0 ((mn (a0.size : Int) 1500) : Int).toNat)).bind fun bt159 => ((script_Text.f bt159.1).bind fun t164 => (carcanetlaw25_ScriptBack.l0 k t158 bt159.1 t164 (⟨#[]⟩ : ByteArray) 0))) else (none)) else (none))) = some r := h
 clear h
 replace H := Option.bind_eq_some_iff.mp H
 obtain ⟨t158, A20, H⟩ := H
 replace H : (if 0 ≤ (mn (a0.size : Int) 1500) then (if (mn (a0.size : Int) 1500) ≤ (a0.size : Int) then ((script_Parse.f k (a0.extract 0 ((mn (a0.size : Int) 1500) : Int).toNat)).bind fun bt159 => ((script_Text.f bt159.1).bind fun t164 => (carcanetlaw25_ScriptBack.l0 k t158 bt159.1 t164 (⟨#[]⟩ : ByteArray) 0))) else (none)) else (none)) = some r := H
 have A2 := Aside0.mk A20
 clear A20
 obtain ⟨ji3, hji3⟩ : ∃ j_ : Int, (mn (a0.size : Int) 1500) = j_ := ⟨_, rfl⟩
 replace H : (if 0 ≤ (ji3) then (if (ji3) ≤ (a0.size : Int) then ((script_Parse.f k (a0.extract 0 ((ji3) : Int).toNat)).bind fun bt159 => ((script_Text.f bt159.1).bind fun t164 => (carcanetlaw25_ScriptBack.l0 k t158 bt159.1 t164 (⟨#[]⟩ : ByteArray) 0))) else (none)) else (none)) = some r := by first | (rw [hji3] at H; exact H) | (simp only [hji3] at H ⊢; exact H)
 (try rw [hji3] at A2)
 (try (have hji3h : ji3 ≤ 1500 := by (rw [← hji3]; unfold mn; (repeat' split) <;> omega)))
 (try (have hji3g : ji3 ≤ 64 := by omega))
 (try (have hji3l : 0 ≤ ji3 := by (rw [← hji3]; unfold mn; (repeat' split) <;> omega)))
 (try (have hji3m : 0 ≤ ji3 := by omega))
 have hji3_ : (if 1500 < (a0.size : Int) then 1500 else (a0.size : Int)) = ji3 := hji3
 by_cases c4 : 0 ≤ (ji3)
 ·rw [if_pos c4] at H
  have c4b0 := eq_true c4
  have c4b1 : decide (0 ≤ (ji3)) = true := decide_eq_true c4
  clear c4
  by_cases c5 : (ji3) ≤ (a0.size : Int)
  ·rw [if_pos c5] at H
   have c5b0 := eq_true c5
   have c5b1 : decide ((ji3) ≤ (a0.size : Int)) = true := decide_eq_true c5
   clear c5
   replace H := Option.bind_eq_some_iff.mp H
   obtain ⟨⟨t159, t160, t161⟩, A60, H⟩ := H
   replace H : ((script_Text.f t159).bind fun t164 => (carcanetlaw25_ScriptBack.l0 k t158 t159 t164 (⟨#[]⟩ : ByteArray) 0)) = some r := H
   have A6 := Aside0.mk A60
   clear A60
   replace H := Option.bind_eq_some_iff.mp H
   obtain ⟨t164, A70, H⟩ := H
   replace H : (carcanetlaw25_ScriptBack.l0 k t158 t159 t164 (⟨#[]⟩ : ByteArray) 0) = some r := H
   have A7 := Aside0.mk A70
   clear A70
   have H' := Aside0.mk H
   clear H
   go_enter Tryd.func3, Tryd.ntmps3
   go_wp2_with (first | ((with_reducible refine gate_callee (f := 8) rfl ?_); refine goesL_ (some 15) rfl rfl Tryd.func8 (by kernel_rfl) rfl #[] rfl (by (try simp only [List.map_toArray, List.map_cons, List.map_nil]); first | done | rfl | (simp only [List.length_drop, List.length_take]; rfl)) ?_; (with_reducible refine (carcanetlaw25_shown.calls  t158 _ ?side1 A2.out).mono ?_); (case side1 => exact GW.of_below HGW.out (by repeat (first | (with_reducible first | exact HB.out | apply below_alloc | apply pw_below_drewN | apply below_drew1) | exact HB.out))); rintro e w8 ⟨rfl, hb⟩; refine ⟨_, rfl, ?_⟩; have n0_ := Aside0.mk (below_step (by repeat (first | (with_reducible first | exact HB.out | apply below_alloc | apply pw_below_drewN | apply below_drew1) | exact HB.out)) hb); clear HB; have HB := n0_; clear n0_; (try clear hb); (try clear hb2); (try clear hk); (try clear hi)) | ((with_reducible refine gate_callee (f := 9) rfl ?_); refine goesL_ (some 23) rfl rfl Tryd.func9 (by kernel_rfl) rfl #[.string (a0.extract 0 ((ji3) : Int).toNat)] rfl (by (try simp only [List.map_toArray, List.map_cons, List.map_nil]); first | done | (simp only [hji3]; rfl) | rfl | (simp only [List.length_drop, List.length_take]; rfl)) ?_; (with_reducible refine (script_Parse.calls k (a0.extract 0 ((ji3) : Int).toNat) t159 t160 t161 _ ?side1 A6.out).mono ?_); (case side1 => exact GW.of_below HGW.out (by repeat (first | (with_reducible first | exact HB.out | apply below_alloc | apply pw_below_drewN | apply below_drew1) | exact HB.out))); rintro e w9 ⟨v162, rfl, ho0, hb⟩; refine ⟨_, rfl, ?_⟩; have n0_ := Aside0.mk (Kd.S_lower ho0 (below_size (by repeat (first | (with_reducible first | exact HB.out | apply below_alloc | apply pw_below_drewN | apply below_drew1) | exact HB.out)))); have n1_ := Aside0.mk (below_step (by repeat (first | (with_reducible first | exact HB.out | apply below_alloc | apply pw_below_drewN | apply below_drew1) | exact HB.out)) hb); clear HB; have HO163 := n0_; have HB := n1_; clear n0_ n1_; (try clear hb); (try clear hb2); (try clear hk); (try clear hi); (try clear ho0); obtain ⟨Ao10, co10, eo10⟩ := Kd.S_slice HO163.out; subst eo10) | ((with_reducible refine gate_callee (f := 10) rfl ?_); refine goesL_ (some 28) rfl rfl Tryd.func10 (by kernel_rfl) rfl #[.slice Ao10 t159.length co10] rfl (by (try simp only [List.map_toArray, List.map_cons, List.map_nil]); first | done | rfl | (simp only [List.length_drop, List.length_take]; rfl)) ?_; (with_reducible refine (script_Text.calls _ _ t159 t164 _ ?side1 ?side2 ?side3 A7.out).mono ?_); (case side1 => exact GW.of_below HGW.out (by repeat (first | (with_reducible first | exact HB.out | apply below_alloc | apply pw_below_drewN | apply below_drew1) | exact HB.out))); (case side2 => repeat (first | exact (Kd.S_reads' HO163.out).2.2 | (with_reducible refine Kd.C_alloc ?_ _) | (with_reducible refine Kd.C_drewN ?_ _) | (with_reducible refine Kd.C_drew ?_))); (case side3 => exact (Kd.S_reads' HO163.out).2.1); rintro e w11 ⟨rfl, hb⟩; refine ⟨_, rfl, ?_⟩; have n0_ := Aside0.mk (Kd.S_below (by (with_reducible repeat (first | apply Kd.S_alloc | apply Kd.S_drewN | apply Kd.S_drew)); exact HO163.out) hb); have n1_ := Aside0.mk (below_step (by repeat (first | (with_reducible first | exact HB.out | apply below_alloc | apply pw_below_drewN | apply below_drew1) | exact HB.out)) hb); clear HO163; clear HB; have HO163 := n0_; have HB := n1_; clear n0_ n1_; (try clear hb); (try clear hb2); (try clear hk); (try clear hi)))
   go_loopg [8, 9] k (fun kq v8 v9 w' => ∃ (x8_1 : ByteArray) (x9_1 : Int), v8 = .string x8_1 ∧ v9 = .int .i64 x9_1 ∧ Aside0 (carcanetlaw25_ScriptBack.l0 kq t158 t159 t164 x8_1 x9_1 = some r) ∧ Aside0 (kq ≤ k) ∧ Aside0 (Kd.S k34 34 w' w.heap.size (fun _ => True) (.slice Ao10 t159.length co10) t159) ∧ Aside0 (Below w.heap.size w w'))
   case atStart => exact ⟨((⟨#[]⟩ : ByteArray)), (0), (by first | rfl | (simp; done) | (simp [*]; done)), (by first | rfl | (simp; done) | (simp [*]; done)), H', ⟨Nat.le_refl _⟩, ⟨by (with_reducible repeat (first | apply Kd.S_alloc | apply Kd.S_drewN | apply Kd.S_drew)); exact HO163.out⟩, ⟨by repeat (first | (with_reducible first | exact HB.out | apply below_alloc | apply pw_below_drewN | apply below_drew1) | exact HB.out)⟩⟩
   case round =>
    clear H'
    try clear c1
    try clear p2
    try clear c3
    try clear c4
    try clear c4b0
    try clear c4b1
    try clear c5
    try clear c5b0
    try clear c5b1
    try clear c8
    try clear c9
    try clear c10
    obtain ⟨x8_1, x9_1, rfl, rfl, HA, HK1, HO_4, HB⟩ := hrel
    cases gk with
    | zero => exact absurd HA.out (by simp [carcanetlaw25_ScriptBack.l0])
    | succ k1 =>
     have H := HA.out
     clear HA
     simp only [carcanetlaw25_ScriptBack.l0] at H
     by_cases c12 : x9_1 < (t159.length : Int)
     ·rw [if_pos c12] at H
      have c12b0 : decide (x9_1 < (t159.length : Int)) = true := decide_eq_true c12
      clear c12
      by_cases c13 : 0 ≤ x9_1
      ·rw [if_pos c13] at H
       have c13b0 : decide (0 ≤ x9_1) = true := decide_eq_true c13
       clear c13
       replace H := Option.bind_eq_some_iff.mp H
       obtain ⟨t166, A140, H⟩ := H
       replace H : (if x8_1.size + t166.size ≤ 9223372036854775807 then (if (x8_1 ++ t166).size + 1 ≤ 9223372036854775807 then (carcanetlaw25_ScriptBack.l0 k1 t158 t159 t164 ((x8_1 ++ t166) ++ (⟨#[10]⟩ : ByteArray)) (wrap64 (x9_1 + 1))) else (none)) else (none)) = some r := H
       have A14 := Aside0.mk A140
       clear A140
       by_cases c15 : x8_1.size + t166.size ≤ 9223372036854775807
       ·rw [if_pos c15] at H
        have c15b0 := eq_true c15
        have c15b1 : decide (x8_1.size + t166.size ≤ 9223372036854775807) = true := decide_eq_true c15
        try have c15b2 : (9223372036854775807 < x8_1.size + t166.size) = False := eq_false (Nat.not_lt.2 c15)
        by_cases c16 : (x8_1 ++ t166).size + 1 ≤ 9223372036854775807
        ·rw [if_pos c16] at H
         have c16b0 := eq_true c16
         have c16b1 : decide ((x8_1 ++ t166).size + 1 ≤ 9223372036854775807) = true := decide_eq_true c16
         try have c16b2 : (9223372036854775807 < (x8_1 ++ t166).size + 1) = False := eq_false (Nat.not_lt.2 c16)
         try have c16b3 := c16b2
         try (conv at c16b3 => lhs; simp only [ByteArray.size_append])
         have H' := Aside0.mk H
         clear H
         have p165 : 0 ≤ (x9_1 : Int) := of_decide_eq_true (by first | (with_reducible assumption) | assumption)
         have q165 : x9_1 < (t159.length : Int) := of_decide_eq_true (by first | (with_reducible assumption) | assumption)
         obtain ⟨ad165, A165_3, c165_3, e165, hx165_0, hx165_1, hx165_2, hx165_3, hx165_4, hx165_5, hx165_6, hl165_3, hi165_3⟩ := at_T34 (Kd.S_reads' HO_4.out).2.2 x9_1 p165 q165
         cases e165
         obtain ⟨ce165, hce165, hMe165, hcc165⟩ := Kd.S_get HO_4.out z34 x9_1 p165 (by first | exact q165 | exact of_decide_eq_true (by first | (with_reducible assumption) | assumption) | (have e_ := (Kd.S_reads' HO_4.out).1; omega))
         obtain ⟨ve165_3, rfl, ge165_3⟩ := k34_openM hMe165
         have hv165_3 := hcc165 3 _ rfl
         rw [add_field _ _ 3 (by omega)] at hv165_3
         replace hv165_3 := Option.some.inj (hv165_3.symm.trans hx165_3)
         rw [hv165_3] at ge165_3
         have HL165_3 := Aside0.mk (show Kd.R k39 39 _ _ _ _ ((rd_T34 t159 x9_1).f2.f1) from ge165_3)
         clear hv165_3 ge165_3
         clear hcc165 hce165
         have HR165_3 := Aside0.mk hi165_3
         have HC165_3 := Aside0.mk hl165_3
         clear hi165_3 hl165_3
         replace p165 := eq_true p165
         replace q165 := eq_true q165
         go_wp2_with (first | ((with_reducible refine gate_callee (f := 11) rfl ?_); refine goesL_ (some 40) rfl rfl Tryd.func11 (by kernel_rfl) rfl #[.agg #[.int .i64 ((rd_T34 t159 x9_1).f0), .string ((rd_T34 t159 x9_1).f1), .int .i64 ((rd_T34 t159 x9_1).f2.f0), .slice A165_3 ((rd_T34 t159 x9_1).f2.f1).length c165_3, .int .i64 ((rd_T34 t159 x9_1).f3), .int .i64 ((rd_T34 t159 x9_1).f4), .int .i64 ((rd_T34 t159 x9_1).f5)]] rfl (by (try simp only [List.map_toArray, List.map_cons, List.map_nil]); first | done | rfl | (simp only [List.length_drop, List.length_take]; rfl)) ?_; (with_reducible refine (carcanetref25_Line.calls k1 ((rd_T34 t159 x9_1).f0) ((rd_T34 t159 x9_1).f1) ((rd_T34 t159 x9_1).f2.f0) _ _ ((rd_T34 t159 x9_1).f2.f1) ((rd_T34 t159 x9_1).f3) ((rd_T34 t159 x9_1).f4) ((rd_T34 t159 x9_1).f5) t166 _ ?side1 ?side2 A14.out).mono ?_); (case side1 => repeat (first | exact (by repeat (first | (with_reducible exact HR165_3.out) | (with_reducible refine Kd.C_alloc ?_ _) | (with_reducible refine Kd.C_drewN ?_ _) | (with_reducible refine Kd.C_drew ?_) | exact HR165_3.out)) | (with_reducible refine Kd.C_alloc ?_ _) | (with_reducible refine Kd.C_drewN ?_ _) | (with_reducible refine Kd.C_drew ?_))); (case side2 => exact HC165_3.out); rintro e w17 ⟨rfl, hb⟩; refine ⟨_, rfl, ?_⟩; have n0_ := Aside0.mk (Kd.S_below (by (with_reducible repeat (first | apply Kd.S_alloc | apply Kd.S_drewN | apply Kd.S_drew)); exact HO_4.out) hb); have n1_ := Aside0.mk (Kd.R_below (by (with_reducible repeat (first | apply Kd.R_alloc | apply Kd.R_drewN | apply Kd.R_drew)); exact HL165_3.out) hb); have n2_ := Aside0.mk (Kd.C_below (by repeat (first | (with_reducible exact HR165_3.out) | (with_reducible refine Kd.C_alloc ?_ _) | (with_reducible refine Kd.C_drewN ?_ _) | (with_reducible refine Kd.C_drew ?_) | exact HR165_3.out)) hb); have n3_ := Aside0.mk (below_step (by repeat (first | (with_reducible first | exact HB.out | apply below_alloc | apply pw_below_drewN | apply below_drew1) | exact HB.out)) hb); clear HO_4; clear HL165_3; clear HR165_3; clear HB; have HO_4 := n0_; have HL165_3 := n1_; have HR165_3 := n2_; have HB := n3_; clear n0_ n1_ n2_ n3_; (try clear hb); (try clear hb2); (try clear hk); (try clear hi)))
         go_roundg k1
         case measure => have := HK1.out; omega
         case rel => exact ⟨((x8_1 ++ t166) ++ (⟨#[10]⟩ : ByteArray)), (wrap64 (x9_1 + 1)), (by first | rfl | (simp; done) | (simp [*]; done)), (by first | rfl | (simp; done) | (simp [*]; done)), H', ⟨by have := HK1.out; omega⟩, ⟨by (with_reducible repeat (first | apply Kd.S_alloc | apply Kd.S_drewN | apply Kd.S_drew)); exact HO_4.out⟩, ⟨by repeat (first | (with_reducible first | exact HB.out | apply below_alloc | apply pw_below_drewN | apply below_drew1) | exact HB.out)⟩⟩
        ·rw [if_neg c16] at H
         exact absurd H (by simp)
       ·rw [if_neg c15] at H
        exact absurd H (by simp)
      ·rw [if_neg c13] at H
       exact absurd H (by simp)
     ·rw [if_neg c12] at H
      have c12b0 : decide (x9_1 < (t159.length : Int)) = false := decide_eq_false c12
      clear c12
      replace H := Option.bind_eq_some_iff.mp H
      obtain ⟨⟨t167, t168, t169⟩, A180, H⟩ := H
      replace H : (if t164.toList = x8_1.toList then (if t169 = 0 then (if t168 = 0 then (if (t167.length : Int) = (t159.length : Int) then ((script_Text.f t167).bind fun t172 => (carcanetlaw25_ScriptBack.j1 k1 t158 t159 t167 (t172.toList != t164.toList))) else (carcanetlaw25_ScriptBack.j1 k1 t158 t159 t167 true)) else (carcanetlaw25_ScriptBack.j1 k1 t158 t159 t167 true)) else (carcanetlaw25_ScriptBack.j1 k1 t158 t159 t167 true)) else (carcanetlaw25_ScriptBack.j1 k1 t158 t159 t167 true)) = some r := H
      have A18 := Aside0.mk A180
      clear A180
      have HC19 := Aside0.mk H
      clear H
      go_upto_region 11 with (first | ((with_reducible refine gate_callee (f := 9) rfl ?_); refine goesL_ (some 45) rfl rfl Tryd.func9 (by kernel_rfl) rfl #[.string t164] rfl (by (try simp only [List.map_toArray, List.map_cons, List.map_nil]); first | done | rfl | (simp only [List.length_drop, List.length_take]; rfl)) ?_; (with_reducible refine (script_Parse.calls k1 t164 t167 t168 t169 _ ?side1 A18.out).mono ?_); (case side1 => exact GW.of_below HGW.out (by repeat (first | (with_reducible first | exact HB.out | apply below_alloc | apply pw_below_drewN | apply below_drew1) | exact HB.out))); rintro e w20 ⟨v170, rfl, ho0, hb⟩; refine ⟨_, rfl, ?_⟩; have n0_ := Aside0.mk (Kd.S_elder' (by (with_reducible repeat (first | apply Kd.S_alloc | apply Kd.S_drewN | apply Kd.S_drew)); exact HO_4.out) (Kd.S_base ho0) hb); have n1_ := Aside0.mk (Kd.S_lower (Kd.S_new' ho0 (Kd.S_lt (by (with_reducible repeat (first | apply Kd.S_alloc | apply Kd.S_drewN | apply Kd.S_drew)); exact HO_4.out))) (below_size (by repeat (first | (with_reducible first | exact HB.out | apply below_alloc | apply pw_below_drewN | apply below_drew1) | exact HB.out)))); have n2_ := Aside0.mk (below_step (by repeat (first | (with_reducible first | exact HB.out | apply below_alloc | apply pw_below_drewN | apply below_drew1) | exact HB.out)) hb); clear HO_4; clear HB; have HO_4 := n0_; have HO171 := n1_; have HB := n2_; clear n0_ n1_ n2_; (try clear hb); (try clear hb2); (try clear hk); (try clear hi); (try clear ho0)))
      (try simp only [Act.put, List.setIfInBounds_toArray, List.set_cons_zero, List.set_cons_succ])
      go_cut [72] (fun v72 wc => ∃ (kq : Nat) (x72_18 : Bool), v72 = .bool x72_18 ∧ Aside0 (carcanetlaw25_ScriptBack.j1 kq t158 t159 t167 x72_18 = some r) ∧ Aside0 (kq ≤ k1) ∧ Aside0 (Kd.S k34 34 wc w.heap.size (fun k_ => some k_ ≠ (v170 : Value).ownBlock) (.slice Ao10 t159.length co10) t159) ∧ Aside0 (Kd.S k34 34 wc w.heap.size (fun k_ => some k_ ≠ ((.slice Ao10 t159.length co10) : Value).ownBlock) v170 t167) ∧ Aside0 (Below w.heap.size w wc))
      case first =>
       have H := HC19.out
       clear HC19
       by_cases c21 : t164.toList = x8_1.toList
       ·rw [if_pos c21] at H
        have c21b0 : (t164.toList == x8_1.toList) = true := beq_iff_eq.mpr c21
        have c21b1 : (t164.toList != x8_1.toList) = false := bne_eq_false_iff_eq.mpr c21
        clear c21
        (first | rw [c21b0] | (simp only [i64_w, i32_w]; rw [c21b0]) | skip)
        by_cases c22 : t169 = 0
        ·rw [if_pos c22] at H
         have c22b0 : (t169 == 0) = true := beq_iff_eq.mpr c22
         have c22b1 : (t169 != 0) = false := bne_eq_false_iff_eq.mpr c22
         clear c22
         by_cases c23 : t168 = 0
         ·rw [if_pos c23] at H
          have c23b0 : (t168 == 0) = true := beq_iff_eq.mpr c23
          have c23b1 : (t168 != 0) = false := bne_eq_false_iff_eq.mpr c23
          clear c23
          by_cases c24 : (t167.length : Int) = (t159.length : Int)
          ·rw [if_pos c24] at H
           have c24b0 : ((t167.length : Int) == (t159.length : Int)) = true := beq_iff_eq.mpr c24
           have c24b1 : ((t167.length : Int) != (t159.length : Int)) = false := bne_eq_false_iff_eq.mpr c24
           have c24b2 : (t167.length == t159.length) = true := by first | simpa using c24 | (simp at c24 ⊢; omega)
           clear c24
           replace H := Option.bind_eq_some_iff.mp H
           obtain ⟨t172, A250, H⟩ := H
           replace H : (carcanetlaw25_ScriptBack.j1 k1 t158 t159 t167 (t172.toList != t164.toList)) = some r := H
           have A25 := Aside0.mk A250
           clear A250
           have H' := Aside0.mk H
           clear H
           obtain ⟨Ao26, co26, eo26⟩ := Kd.S_slice HO171.out
           subst eo26
           go_wp2_with (first | (go_at_call 10; (with_reducible refine (script_Text.calls _ _ t167 t172 _ ?side1 ?side2 ?side3 A25.out).mono ?_); (case side1 => exact GW.of_below HGW.out (by repeat (first | (with_reducible first | exact HB.out | apply below_alloc | apply pw_below_drewN | apply below_drew1) | exact HB.out))); (case side2 => repeat (first | exact (Kd.S_reads' HO171.out).2.2 | (with_reducible refine Kd.C_alloc ?_ _) | (with_reducible refine Kd.C_drewN ?_ _) | (with_reducible refine Kd.C_drew ?_))); (case side3 => exact (Kd.S_reads' HO171.out).2.1); rintro e w27 ⟨rfl, hb⟩; have n0_ := Aside0.mk (Kd.S_below (by (with_reducible repeat (first | apply Kd.S_alloc | apply Kd.S_drewN | apply Kd.S_drew)); exact HO_4.out) hb); have n1_ := Aside0.mk (Kd.S_below (by (with_reducible repeat (first | apply Kd.S_alloc | apply Kd.S_drewN | apply Kd.S_drew)); exact HO171.out) hb); have n2_ := Aside0.mk (below_step (by repeat (first | (with_reducible first | exact HB.out | apply below_alloc | apply pw_below_drewN | apply below_drew1) | exact HB.out)) hb); clear HO_4; clear HO171; clear HB; have HO_4 := n0_; have HO171 := n1_; have HB := n2_; clear n0_ n1_ n2_; (try clear hb); (try clear hb2); (try clear hk); (try clear hi)))
           go_meet
           case rel => exact ⟨_, ((t172.toList != t164.toList)), (by first | rfl | (simp; done) | (simp [*]; done)), H', ⟨by have := HK1.out; first | omega | exact Nat.le_refl _⟩, ⟨by (with_reducible repeat (first | apply Kd.S_alloc | apply Kd.S_drewN | apply Kd.S_drew)); exact Kd.S_mono HO_4.out (fun _ hk => hk.2)⟩, ⟨by (with_reducible repeat (first | apply Kd.S_alloc | apply Kd.S_drewN | apply Kd.S_drew)); exact Kd.S_mono HO171.out (fun _ hk => hk.2)⟩, ⟨by repeat (first | (with_reducible first | exact HB.out | apply below_alloc | apply pw_below_drewN | apply below_drew1) | exact HB.out)⟩⟩
          ·rw [if_neg c24] at H
           have c24b0 : ((t167.length : Int) == (t159.length : Int)) = false := beq_eq_false_iff_ne.mpr c24
           have c24b1 : ((t167.length : Int) != (t159.length : Int)) = true := bne_iff_ne.mpr c24
           have c24b2 : (t167.length == t159.length) = false := by first | simpa using c24 | (simp at c24 ⊢; omega)
           have H' := Aside0.mk H
           clear H
           obtain ⟨Ao28, co28, eo28⟩ := Kd.S_slice HO171.out
           subst eo28
           go_wp2
           go_meet
           case rel => exact ⟨_, (true), (by first | rfl | (simp; done) | (simp [*]; done)), H', ⟨by have := HK1.out; first | omega | exact Nat.le_refl _⟩, ⟨by (with_reducible repeat (first | apply Kd.S_alloc | apply Kd.S_drewN | apply Kd.S_drew)); exact Kd.S_mono HO_4.out (fun _ hk => hk.2)⟩, ⟨by (with_reducible repeat (first | apply Kd.S_alloc | apply Kd.S_drewN | apply Kd.S_drew)); exact Kd.S_mono HO171.out (fun _ hk => hk.2)⟩, ⟨by repeat (first | (with_reducible first | exact HB.out | apply below_alloc | apply pw_below_drewN | apply below_drew1) | exact HB.out)⟩⟩
         ·rw [if_neg c23] at H
          have c23b0 : (t168 == 0) = false := beq_eq_false_iff_ne.mpr c23
          have c23b1 : (t168 != 0) = true := bne_iff_ne.mpr c23
          have H' := Aside0.mk H
          clear H
          go_wp2
          go_meet
          case rel => exact ⟨_, (true), (by first | rfl | (simp; done) | (simp [*]; done)), H', ⟨by have := HK1.out; first | omega | exact Nat.le_refl _⟩, ⟨by (with_reducible repeat (first | apply Kd.S_alloc | apply Kd.S_drewN | apply Kd.S_drew)); exact Kd.S_mono HO_4.out (fun _ hk => hk.2)⟩, ⟨by (with_reducible repeat (first | apply Kd.S_alloc | apply Kd.S_drewN | apply Kd.S_drew)); exact Kd.S_mono HO171.out (fun _ hk => hk.2)⟩, ⟨by repeat (first | (with_reducible first | exact HB.out | apply below_alloc | apply pw_below_drewN | apply below_drew1) | exact HB.out)⟩⟩
        ·rw [if_neg c22] at H
         have c22b0 : (t169 == 0) = false := beq_eq_false_iff_ne.mpr c22
         have c22b1 : (t169 != 0) = true := bne_iff_ne.mpr c22
         have H' := Aside0.mk H
         clear H
         go_wp2
         go_meet
         case rel => exact ⟨_, (true), (by first | rfl | (simp; done) | (simp [*]; done)), H', ⟨by have := HK1.out; first | omega | exact Nat.le_refl _⟩, ⟨by (with_reducible repeat (first | apply Kd.S_alloc | apply Kd.S_drewN | apply Kd.S_drew)); exact Kd.S_mono HO_4.out (fun _ hk => hk.2)⟩, ⟨by (with_reducible repeat (first | apply Kd.S_alloc | apply Kd.S_drewN | apply Kd.S_drew)); exact Kd.S_mono HO171.out (fun _ hk => hk.2)⟩, ⟨by repeat (first | (with_reducible first | exact HB.out | apply below_alloc | apply pw_below_drewN | apply below_drew1) | exact HB.out)⟩⟩
       ·rw [if_neg c21] at H
        have c21b0 : (t164.toList == x8_1.toList) = false := beq_eq_false_iff_ne.mpr c21
        have c21b1 : (t164.toList != x8_1.toList) = true := bne_iff_ne.mpr c21
        (first | rw [c21b0] | (simp only [i64_w, i32_w]; rw [c21b0]) | skip)
        have H' := Aside0.mk H
        clear H
        go_wp2
        go_meet
        case rel => exact ⟨_, (true), (by first | rfl | (simp; done) | (simp [*]; done)), H', ⟨by have := HK1.out; first | omega | exact Nat.le_refl _⟩, ⟨by (with_reducible repeat (first | apply Kd.S_alloc | apply Kd.S_drewN | apply Kd.S_drew)); exact Kd.S_mono HO_4.out (fun _ hk => hk.2)⟩, ⟨by (with_reducible repeat (first | apply Kd.S_alloc | apply Kd.S_drewN | apply Kd.S_drew)); exact Kd.S_mono HO171.out (fun _ hk => hk.2)⟩, ⟨by repeat (first | (with_reducible first | exact HB.out | apply below_alloc | apply pw_below_drewN | apply below_drew1) | exact HB.out)⟩⟩
      case rest =>
       clear HC19
       try clear c1
       try clear p1
       try clear q1
       try clear hx1
       try clear c2
       try clear p2
       try clear c3
       try clear c4
       try clear c4b0
       try clear c4b1
       try clear c5
       try clear c5b0
       try clear c5b1
       try clear p6
       try clear c8
       try clear c9
       try clear c10
       try clear c11
       try clear c12
       try clear c12b0
       try clear c13
       try clear c13b0
       try clear c15
       try clear c15b0
       try clear c15b1
       try clear c15b2
       try clear c16
       try clear c16b0
       try clear c16b1
       try clear c16b2
       try clear p16
       try clear q16
       try clear hx16
       try clear c21
       try clear c21b0
       try clear c21b1
       try clear c22
       try clear c22b0
       try clear c22b1
       try clear c23
       try clear c23b0
       try clear c23b1
       try clear c24
       try clear c24b0
       try clear c24b1
       try clear c24b2
       try clear hx165_0
       try clear hx165_1
       try clear hx165_2
       try clear hx165_3
       try clear hx165_4
       try clear hx165_5
       try clear hx165_6
       try clear p165
       try clear p2
       try clear q165
       obtain ⟨kq, x72_18, rfl, HA, HJ18, HO_4, HO_10, HB⟩ := hcut
       cases kq with
       | zero => exact absurd HA.out (by simp [carcanetlaw25_ScriptBack.j1])
       | succ kj18 =>
        have H := HA.out
        clear HA
        simp only [carcanetlaw25_ScriptBack.j1] at H
        by_cases c29 : x72_18 = true
        ·subst c29
         have H1 : (some false) = some r := by rw [if_pos rfl] at H; exact H
         clear H
         have H := H1
         clear H1
         obtain rfl := Option.some.inj H
         go_wp2
         go_ret
         exact ⟨by first | rfl | (simp [errW_none, errW_some] <;> rfl) | (simp only [← hji3]; first | rfl | (simp [errW_none, errW_some] <;> rfl)) | (simp [*, errW_none, errW_some] <;> rfl), by repeat (first | (with_reducible first | exact HB.out | apply below_alloc | apply pw_below_drewN | apply below_drew1) | exact HB.out)⟩
        ·replace c29 := Bool.eq_false_iff.mpr c29
         subst c29
         have H1 : (carcanetlaw25_ScriptBack.l1 kj18 t158 t159 t167 0) = some r := by rw [if_neg (show ¬ (false = true) by decide)] at H; exact H
         clear H
         have H := H1
         clear H1
         have H' := Aside0.mk H
         clear H
         go_wp2
         go_loopg [13] kj18 (fun kq v13 w' => ∃ (x13_3 : Int), v13 = .int .i64 x13_3 ∧ Aside0 (carcanetlaw25_ScriptBack.l1 kq t158 t159 t167 x13_3 = some r) ∧ Aside0 (kq ≤ kj18) ∧ Aside0 (Kd.S k34 34 w' w.heap.size (fun k_ => some k_ ≠ (v170 : Value).ownBlock) (.slice Ao10 t159.length co10) t159) ∧ Aside0 (Kd.S k34 34 w' w.heap.size (fun k_ => some k_ ≠ ((.slice Ao10 t159.length co10) : Value).ownBlock) v170 t167) ∧ Aside0 (Below w.heap.size w w'))
         case atStart => exact ⟨(0), (by first | rfl | (simp; done) | (simp [*]; done)), H', ⟨Nat.le_refl _⟩, ⟨by (with_reducible repeat (first | apply Kd.S_alloc | apply Kd.S_drewN | apply Kd.S_drew)); exact HO_4.out⟩, ⟨by (with_reducible repeat (first | apply Kd.S_alloc | apply Kd.S_drewN | apply Kd.S_drew)); exact HO_10.out⟩, ⟨by repeat (first | (with_reducible first | exact HB.out | apply below_alloc | apply pw_below_drewN | apply below_drew1) | exact HB.out)⟩⟩
         case round =>
          clear H'
          try clear c1
          try clear p1
          try clear q1
          try clear hx1
          try clear c2
          try clear p2
          try clear c3
          try clear c4
          try clear c4b0
          try clear c4b1
          try clear c5
          try clear c5b0
          try clear c5b1
          try clear p6
          try clear c8
          try clear c9
          try clear c10
          try clear c11
          try clear c12
          try clear c12b0
          try clear c13
          try clear c13b0
          try clear c15
          try clear c15b0
          try clear c15b1
          try clear c15b2
          try clear c16
          try clear c16b0
          try clear c16b1
          try clear c16b2
          try clear p16
          try clear q16
          try clear hx16
          try clear c21
          try clear c21b0
          try clear c21b1
          try clear c22
          try clear c22b0
          try clear c22b1
          try clear c23
          try clear c23b0
          try clear c23b1
          try clear c24
          try clear c24b0
          try clear c24b1
          try clear c24b2
          try clear c29
          try clear hx165_0
          try clear hx165_1
          try clear hx165_2
          try clear hx165_3
          try clear hx165_4
          try clear hx165_5
          try clear hx165_6
          try clear p1
          try clear p16
          try clear p165
          try clear p2
          try clear p6
          try clear q1
          try clear q16
          try clear q165
          obtain ⟨x13_3, rfl, HA, HK3, HO_4, HO_10, HB⟩ := hrel
          cases gk with
          | zero => exact absurd HA.out (by simp [carcanetlaw25_ScriptBack.l1])
          | succ k3 =>
           have H := HA.out
           clear HA
           simp only [carcanetlaw25_ScriptBack.l1] at H
           by_cases c30 : x13_3 < (t159.length : Int)
           ·rw [if_pos c30] at H
            have c30b0 : decide (x13_3 < (t159.length : Int)) = true := decide_eq_true c30
            clear c30
            by_cases c31 : 0 ≤ x13_3
            ·rw [if_pos c31] at H
             have c31b0 : decide (0 ≤ x13_3) = true := decide_eq_true c31
             clear c31
             by_cases c32 : x13_3 < (t167.length : Int)
             ·rw [if_pos c32] at H
              have c32b0 : decide (x13_3 < (t167.length : Int)) = true := decide_eq_true c32
              clear c32
              replace H := Option.bind_eq_some_iff.mp H
              obtain ⟨t178, A330, H⟩ := H
              replace H : (if t178 = true then (carcanetlaw25_ScriptBack.l1 k3 t158 t159 t167 (wrap64 (x13_3 + 1))) else (some false)) = some r := H
              have A33 := Aside0.mk A330
              clear A330
              by_cases c34 : t178 = true
              ·subst c34
               have H1 : (carcanetlaw25_ScriptBack.l1 k3 t158 t159 t167 (wrap64 (x13_3 + 1))) = some r := by rw [if_pos rfl] at H; exact H
               clear H
               have H := H1
               clear H1
               have H' := Aside0.mk H
               clear H
               have p173 : 0 ≤ (x13_3 : Int) := of_decide_eq_true (by first | (with_reducible assumption) | assumption)
               have q173 : x13_3 < (t159.length : Int) := of_decide_eq_true (by first | (with_reducible assumption) | assumption)
               obtain ⟨ad173, A173_3, c173_3, e173, hx173_0, hx173_1, hx173_2, hx173_3, hx173_4, hx173_5, hx173_6, hl173_3, hi173_3⟩ := at_T34 (Kd.S_reads' HO_4.out).2.2 x13_3 p173 q173
               cases e173
               obtain ⟨ce173, hce173, hMe173, hcc173⟩ := Kd.S_get HO_4.out z34 x13_3 p173 (by first | exact q173 | exact of_decide_eq_true (by first | (with_reducible assumption) | assumption) | (have e_ := (Kd.S_reads' HO_4.out).1; omega))
               obtain ⟨ve173_3, rfl, ge173_3⟩ := k34_openM hMe173
               have hv173_3 := hcc173 3 _ rfl
               rw [add_field _ _ 3 (by omega)] at hv173_3
               replace hv173_3 := Option.some.inj (hv173_3.symm.trans hx173_3)
               rw [hv173_3] at ge173_3
               have HL173_3 := Aside0.mk (show Kd.R k39 39 _ _ _ _ ((rd_T34 t159 x13_3).f2.f1) from ge173_3)
               clear hv173_3 ge173_3
               clear hcc173 hce173
               have HR173_3 := Aside0.mk hi173_3
               have HC173_3 := Aside0.mk hl173_3
               clear hi173_3 hl173_3
               replace p173 := eq_true p173
               replace q173 := eq_true q173
               try go_wp2_with (first | ((with_reducible refine gate_dst (N := 14) rfl ?_); (try (refine gate_guard (by rfl) ?_; dsimp only)); refine box_event ?hg (N := 14) ?hd (cs := #[.int .i64 0, .string (⟨#[]⟩ : ByteArray), .int .i64 0, .slice none 0 0, .int .i64 0, .int .i64 0, .int .i64 0]) (t := 33) ?hr ?_; (case hd => rfl); (case hg => rfl); (case hr => first | (go_simp; done) | (go_simp; rfl)); intro gb174 hg w35 hbox hb; have n0_ := Aside0.mk (Kd.S_below (by (with_reducible repeat (first | apply Kd.S_alloc | apply Kd.S_drewN | apply Kd.S_drew)); exact HO_4.out) hb); have n1_ := Aside0.mk (Kd.S_below (by (with_reducible repeat (first | apply Kd.S_alloc | apply Kd.S_drewN | apply Kd.S_drew)); exact HO_10.out) hb); have n2_ := Aside0.mk (Kd.R_below (by (with_reducible repeat (first | apply Kd.R_alloc | apply Kd.R_drewN | apply Kd.R_drew)); exact HL173_3.out) hb); have n3_ := Aside0.mk (Kd.C_below (by repeat (first | (with_reducible exact HR173_3.out) | (with_reducible refine Kd.C_alloc ?_ _) | (with_reducible refine Kd.C_drewN ?_ _) | (with_reducible refine Kd.C_drew ?_) | exact HR173_3.out)) hb); have n4_ := Aside0.mk (below_step (by repeat (first | (with_reducible first | exact HB.out | apply below_alloc | apply pw_below_drewN | apply below_drew1) | exact HB.out)) hb); have n5_ := Aside0.mk (hbox); have n6_ := Aside0.mk ((by rw [hg]; exact (below_size (by repeat (first | (with_reducible first | exact HB.out | apply below_alloc | apply pw_below_drewN | apply below_drew1) | exact HB.out))) : w.heap.size ≤ gb174)); have n7_ := Aside0.mk ((by rw [hg]; exact (below_size (by repeat (first | (with_reducible first | exact HB.out | apply below_alloc | apply pw_below_drewN | apply below_drew1) | exact HB.out))) : w.heap.size ≤ gb174)); clear HO_4; clear HO_10; clear HL173_3; clear HR173_3; clear HB; have HO_4 := n0_; have HO_10 := n1_; have HL173_3 := n2_; have HR173_3 := n3_; have HB := n4_; have BK174 := n5_; have GW174 := n6_; have GE174 := n7_; clear n0_ n1_ n2_ n3_ n4_ n5_ n6_ n7_; clear hb hbox hg; have hcz36_0 : w35.cell? ⟨gb174, 0, none⟩ = some (.int .i64 0) := (blk_cell BK174.out 0).trans rfl; have hcz36_1 : w35.cell? ⟨gb174, 1, none⟩ = some (.string (⟨#[]⟩ : ByteArray)) := (blk_cell BK174.out 1).trans rfl; have hcz36_2 : w35.cell? ⟨gb174, 2, none⟩ = some (.int .i64 0) := (blk_cell BK174.out 2).trans rfl; have hcz36_3 : w35.cell? ⟨gb174, 3, none⟩ = some (.slice none 0 0) := (blk_cell BK174.out 3).trans rfl; have hcz36_4 : w35.cell? ⟨gb174, 4, none⟩ = some (.int .i64 0) := (blk_cell BK174.out 4).trans rfl; have hcz36_5 : w35.cell? ⟨gb174, 5, none⟩ = some (.int .i64 0) := (blk_cell BK174.out 5).trans rfl; have hcz36_6 : w35.cell? ⟨gb174, 6, none⟩ = some (.int .i64 0) := (blk_cell BK174.out 6).trans rfl; have hfz36_0 := blk_frozen BK174.out 0; have hfz36_1 := blk_frozen BK174.out 1; have hfz36_2 := blk_frozen BK174.out 2; have hfz36_3 := blk_frozen BK174.out 3; have hfz36_4 := blk_frozen BK174.out 4; have hfz36_5 := blk_frozen BK174.out 5; have hfz36_6 := blk_frozen BK174.out 6) | ((with_reducible refine gate_store (t := 33) (p := 14) rfl ?_); refine store_event (t := 33) (p := 14) (v := ?vo_w37) (w1 := (((((((w35.setCell ⟨gb174, 0, none⟩ (.int .i64 ((rd_T34 t159 x13_3).f0))).setCell ⟨gb174, 1, none⟩ (.string ((rd_T34 t159 x13_3).f1))).setCell ⟨gb174, 2, none⟩ (.int .i64 ((rd_T34 t159 x13_3).f2.f0))).setCell ⟨gb174, 3, none⟩ (.slice A173_3 ((rd_T34 t159 x13_3).f2.f1).length c173_3)).setCell ⟨gb174, 4, none⟩ (.int .i64 ((rd_T34 t159 x13_3).f3))).setCell ⟨gb174, 5, none⟩ (.int .i64 ((rd_T34 t159 x13_3).f4))).setCell ⟨gb174, 6, none⟩ (.int .i64 ((rd_T34 t159 x13_3).f5)))) ?hg ?ho ?hn ?hr ?_; (case ho => rfl); (case hg => rfl); (case hn => rfl); (case hr => first | (go_simp; done) | (go_simp; rfl)); intro w37 hw; have n0_ : Aside0 (Kd.S k34 34 w37 w.heap.size (fun k_ => some k_ ≠ (v170 : Value).ownBlock) (.slice (some ad173) t159.length co10) t159) := ⟨(by rw [hw]; exact (by (with_reducible repeat (first | apply Kd.S_alloc | apply Kd.S_drewN | apply Kd.S_drew)); exact Kd.S_mono (Kd.S_far (p := ⟨gb174, 6, none⟩) (Kd.S_far (p := ⟨gb174, 5, none⟩) (Kd.S_far (p := ⟨gb174, 4, none⟩) (Kd.S_far (p := ⟨gb174, 3, none⟩) (Kd.S_far (p := ⟨gb174, 2, none⟩) (Kd.S_far (p := ⟨gb174, 1, none⟩) (Kd.S_far (p := ⟨gb174, 0, none⟩) (Kd.S_types HO_4.out BK174.out (by decide)) (fun _ hk => hk.2) (.int .i64 ((rd_T34 t159 x13_3).f0))) (fun _ hk => hk.2) (.string ((rd_T34 t159 x13_3).f1))) (fun _ hk => hk.2) (.int .i64 ((rd_T34 t159 x13_3).f2.f0))) (fun _ hk => hk.2) (.slice A173_3 ((rd_T34 t159 x13_3).f2.f1).length c173_3)) (fun _ hk => hk.2) (.int .i64 ((rd_T34 t159 x13_3).f3))) (fun _ hk => hk.2) (.int .i64 ((rd_T34 t159 x13_3).f4))) (fun _ hk => hk.2) (.int .i64 ((rd_T34 t159 x13_3).f5))) (fun _ hk => hk.1)))⟩; have n1_ : Aside0 (Kd.S k34 34 w37 w.heap.size (fun k_ => some k_ ≠ (.slice (some ad173) t159.length co10 : Value).ownBlock) v170 t167) := ⟨(by rw [hw]; exact (by (with_reducible repeat (first | apply Kd.S_alloc | apply Kd.S_drewN | apply Kd.S_drew)); exact Kd.S_mono (Kd.S_far (p := ⟨gb174, 6, none⟩) (Kd.S_far (p := ⟨gb174, 5, none⟩) (Kd.S_far (p := ⟨gb174, 4, none⟩) (Kd.S_far (p := ⟨gb174, 3, none⟩) (Kd.S_far (p := ⟨gb174, 2, none⟩) (Kd.S_far (p := ⟨gb174, 1, none⟩) (Kd.S_far (p := ⟨gb174, 0, none⟩) (Kd.S_types HO_10.out BK174.out (by decide)) (fun _ hk => hk.2) (.int .i64 ((rd_T34 t159 x13_3).f0))) (fun _ hk => hk.2) (.string ((rd_T34 t159 x13_3).f1))) (fun _ hk => hk.2) (.int .i64 ((rd_T34 t159 x13_3).f2.f0))) (fun _ hk => hk.2) (.slice A173_3 ((rd_T34 t159 x13_3).f2.f1).length c173_3)) (fun _ hk => hk.2) (.int .i64 ((rd_T34 t159 x13_3).f3))) (fun _ hk => hk.2) (.int .i64 ((rd_T34 t159 x13_3).f4))) (fun _ hk => hk.2) (.int .i64 ((rd_T34 t159 x13_3).f5))) (fun _ hk => hk.1)))⟩; have n2_ : Aside0 (Kd.R k39 39 w37 w.heap.size (fun k_ => some k_ ≠ (.slice (some ad173) t159.length co10 : Value).ownBlock ∧ some k_ ≠ (v170 : Value).ownBlock) (.slice A173_3 ((rd_T34 t159 x13_3).f2.f1).length c173_3) ((rd_T34 t159 x13_3).f2.f1)) := ⟨(by rw [hw]; exact (by (with_reducible repeat (first | apply Kd.R_alloc | apply Kd.R_drewN | apply Kd.R_drew)); exact Kd.R_mono (Kd.R_far (p := ⟨gb174, 6, none⟩) (Kd.R_far (p := ⟨gb174, 5, none⟩) (Kd.R_far (p := ⟨gb174, 4, none⟩) (Kd.R_far (p := ⟨gb174, 3, none⟩) (Kd.R_far (p := ⟨gb174, 2, none⟩) (Kd.R_far (p := ⟨gb174, 1, none⟩) (Kd.R_far (p := ⟨gb174, 0, none⟩) (Kd.R_types HL173_3.out BK174.out (by decide)) (fun _ hk => hk.2) (.int .i64 ((rd_T34 t159 x13_3).f0))) (fun _ hk => hk.2) (.string ((rd_T34 t159 x13_3).f1))) (fun _ hk => hk.2) (.int .i64 ((rd_T34 t159 x13_3).f2.f0))) (fun _ hk => hk.2) (.slice A173_3 ((rd_T34 t159 x13_3).f2.f1).length c173_3)) (fun _ hk => hk.2) (.int .i64 ((rd_T34 t159 x13_3).f3))) (fun _ hk => hk.2) (.int .i64 ((rd_T34 t159 x13_3).f4))) (fun _ hk => hk.2) (.int .i64 ((rd_T34 t159 x13_3).f5))) (fun _ hk => ⟨hk.1.2, hk.1.1⟩)))⟩; have n3_ : Aside0 (w37.heap[gb174]? = some (.cells #[.int .i64 ((rd_T34 t159 x13_3).f0), .string ((rd_T34 t159 x13_3).f1), .int .i64 ((rd_T34 t159 x13_3).f2.f0), .slice A173_3 ((rd_T34 t159 x13_3).f2.f1).length c173_3, .int .i64 ((rd_T34 t159 x13_3).f3), .int .i64 ((rd_T34 t159 x13_3).f4), .int .i64 ((rd_T34 t159 x13_3).f5)] 33 (0, 0))) := ⟨(by rw [hw]; exact (by (with_reducible repeat (first | refine blk_drewN ?_ _ | refine blk_drew ?_ | refine blk_alloc ?_ _)); refine blk_put (cs := #[.int .i64 ((rd_T34 t159 x13_3).f0), .string ((rd_T34 t159 x13_3).f1), .int .i64 ((rd_T34 t159 x13_3).f2.f0), .slice A173_3 ((rd_T34 t159 x13_3).f2.f1).length c173_3, .int .i64 ((rd_T34 t159 x13_3).f3), .int .i64 ((rd_T34 t159 x13_3).f4), .int .i64 0]) ?_ 6 _ rfl; (with_reducible repeat (first | refine blk_drewN ?_ _ | refine blk_drew ?_ | refine blk_alloc ?_ _)); refine blk_put (cs := #[.int .i64 ((rd_T34 t159 x13_3).f0), .string ((rd_T34 t159 x13_3).f1), .int .i64 ((rd_T34 t159 x13_3).f2.f0), .slice A173_3 ((rd_T34 t159 x13_3).f2.f1).length c173_3, .int .i64 ((rd_T34 t159 x13_3).f3), .int .i64 0, .int .i64 0]) ?_ 5 _ rfl; (with_reducible repeat (first | refine blk_drewN ?_ _ | refine blk_drew ?_ | refine blk_alloc ?_ _)); refine blk_put (cs := #[.int .i64 ((rd_T34 t159 x13_3).f0), .string ((rd_T34 t159 x13_3).f1), .int .i64 ((rd_T34 t159 x13_3).f2.f0), .slice A173_3 ((rd_T34 t159 x13_3).f2.f1).length c173_3, .int .i64 0, .int .i64 0, .int .i64 0]) ?_ 4 _ rfl; (with_reducible repeat (first | refine blk_drewN ?_ _ | refine blk_drew ?_ | refine blk_alloc ?_ _)); refine blk_put (cs := #[.int .i64 ((rd_T34 t159 x13_3).f0), .string ((rd_T34 t159 x13_3).f1), .int .i64 ((rd_T34 t159 x13_3).f2.f0), .slice none 0 0, .int .i64 0, .int .i64 0, .int .i64 0]) ?_ 3 _ rfl; (with_reducible repeat (first | refine blk_drewN ?_ _ | refine blk_drew ?_ | refine blk_alloc ?_ _)); refine blk_put (cs := #[.int .i64 ((rd_T34 t159 x13_3).f0), .string ((rd_T34 t159 x13_3).f1), .int .i64 0, .slice none 0 0, .int .i64 0, .int .i64 0, .int .i64 0]) ?_ 2 _ rfl; (with_reducible repeat (first | refine blk_drewN ?_ _ | refine blk_drew ?_ | refine blk_alloc ?_ _)); refine blk_put (cs := #[.int .i64 ((rd_T34 t159 x13_3).f0), .string (⟨#[]⟩ : ByteArray), .int .i64 0, .slice none 0 0, .int .i64 0, .int .i64 0, .int .i64 0]) ?_ 1 _ rfl; (with_reducible repeat (first | refine blk_drewN ?_ _ | refine blk_drew ?_ | refine blk_alloc ?_ _)); refine blk_put (cs := #[.int .i64 0, .string (⟨#[]⟩ : ByteArray), .int .i64 0, .slice none 0 0, .int .i64 0, .int .i64 0, .int .i64 0]) ?_ 0 _ rfl; (with_reducible repeat (first | refine blk_drewN ?_ _ | refine blk_drew ?_ | refine blk_alloc ?_ _)); exact BK174.out))⟩; have n4_ : Aside0 (Below w.heap.size w w37) := ⟨(by rw [hw]; exact (by repeat (first | (with_reducible first | exact HB.out | apply below_alloc | apply pw_below_drewN | apply below_drew1 | refine below_set ?_ GE174.out) | exact HB.out)))⟩; clear hw; clear HO_4; clear HO_10; clear HL173_3; clear BK174; clear HB; have HO_4 := n0_; have HO_10 := n1_; have HL173_3 := n2_; have BK174 := n3_; have HB := n4_; clear n0_ n1_ n2_ n3_ n4_; obtain ⟨Ao38, co38, eo38⟩ := Kd.S_slice HO_10.out; subst eo38; have p175 : 0 ≤ (x13_3 : Int) := of_decide_eq_true (by first | (with_reducible assumption) | assumption); have q175 : x13_3 < (t167.length : Int) := of_decide_eq_true (by first | (with_reducible assumption) | assumption); obtain ⟨ad175, A175_3, c175_3, e175, hx175_0, hx175_1, hx175_2, hx175_3, hx175_4, hx175_5, hx175_6, hl175_3, hi175_3⟩ := at_T34 (Kd.S_reads' HO_10.out).2.2 x13_3 p175 q175; cases e175; obtain ⟨ce175, hce175, hMe175, hcc175⟩ := Kd.S_get HO_10.out z34 x13_3 p175 (by first | exact q175 | exact of_decide_eq_true (by first | (with_reducible assumption) | assumption) | (have e_ := (Kd.S_reads' HO_10.out).1; omega)); obtain ⟨ve175_3, rfl, ge175_3⟩ := k34_openM hMe175; have hv175_3 := hcc175 3 _ rfl; rw [add_field _ _ 3 (by omega)] at hv175_3; replace hv175_3 := Option.some.inj (hv175_3.symm.trans hx175_3); rw [hv175_3] at ge175_3; have HL175_3 := Aside0.mk (show Kd.R k39 39 _ _ _ _ ((rd_T34 t167 x13_3).f2.f1) from ge175_3); clear hv175_3 ge175_3; clear hcc175 hce175; have HR175_3 := Aside0.mk hi175_3; have HC175_3 := Aside0.mk hl175_3; clear hi175_3 hl175_3; replace p175 := eq_true p175; replace q175 := eq_true q175; have hcz39_0 : w37.cell? ⟨gb174, 0, none⟩ = some (.int .i64 ((rd_T34 t159 x13_3).f0)) := (blk_cell BK174.out 0).trans rfl; have hcz39_1 : w37.cell? ⟨gb174, 1, none⟩ = some (.string ((rd_T34 t159 x13_3).f1)) := (blk_cell BK174.out 1).trans rfl; have hcz39_2 : w37.cell? ⟨gb174, 2, none⟩ = some (.int .i64 ((rd_T34 t159 x13_3).f2.f0)) := (blk_cell BK174.out 2).trans rfl; have hcz39_3 : w37.cell? ⟨gb174, 3, none⟩ = some (.slice A173_3 ((rd_T34 t159 x13_3).f2.f1).length c173_3) := (blk_cell BK174.out 3).trans rfl; have hcz39_4 : w37.cell? ⟨gb174, 4, none⟩ = some (.int .i64 ((rd_T34 t159 x13_3).f3)) := (blk_cell BK174.out 4).trans rfl; have hcz39_5 : w37.cell? ⟨gb174, 5, none⟩ = some (.int .i64 ((rd_T34 t159 x13_3).f4)) := (blk_cell BK174.out 5).trans rfl; have hcz39_6 : w37.cell? ⟨gb174, 6, none⟩ = some (.int .i64 ((rd_T34 t159 x13_3).f5)) := (blk_cell BK174.out 6).trans rfl; have hfz39_0 := blk_frozen BK174.out 0; have hfz39_1 := blk_frozen BK174.out 1; have hfz39_2 := blk_frozen BK174.out 2; have hfz39_3 := blk_frozen BK174.out 3; have hfz39_4 := blk_frozen BK174.out 4; have hfz39_5 := blk_frozen BK174.out 5; have hfz39_6 := blk_frozen BK174.out 6) | ((with_reducible refine gate_store (t := 3) (p := 88) rfl ?_); refine store_event (t := 3) (p := 88) (v := ?vo_w40) (w1 := (w37.setCell ⟨gb174, 5, none⟩ (.int .i64 ((rd_T34 t167 x13_3).f4)))) ?hg ?ho ?hn ?hr ?_; (case ho => rfl); (case hg => rfl); (case hn => rfl); (case hr => first | (go_simp; done) | (go_simp; rfl)); intro w40 hw; have n0_ : Aside0 (Kd.S k34 34 w40 w.heap.size (fun k_ => some k_ ≠ (.slice (some ad175) t167.length co38 : Value).ownBlock) (.slice (some ad173) t159.length co10) t159) := ⟨(by rw [hw]; exact (by (with_reducible repeat (first | apply Kd.S_alloc | apply Kd.S_drewN | apply Kd.S_drew)); exact Kd.S_mono (Kd.S_far (p := ⟨gb174, 5, none⟩) (Kd.S_types HO_4.out BK174.out (by decide)) (fun _ hk => hk.2) (.int .i64 ((rd_T34 t167 x13_3).f4))) (fun _ hk => hk.1)))⟩; have n1_ : Aside0 (Kd.S k34 34 w40 w.heap.size (fun k_ => some k_ ≠ (.slice (some ad173) t159.length co10 : Value).ownBlock) (.slice (some ad175) t167.length co38) t167) := ⟨(by rw [hw]; exact (by (with_reducible repeat (first | apply Kd.S_alloc | apply Kd.S_drewN | apply Kd.S_drew)); exact Kd.S_mono (Kd.S_far (p := ⟨gb174, 5, none⟩) (Kd.S_types HO_10.out BK174.out (by decide)) (fun _ hk => hk.2) (.int .i64 ((rd_T34 t167 x13_3).f4))) (fun _ hk => hk.1)))⟩; have n2_ : Aside0 (Kd.R k39 39 w40 w.heap.size (fun k_ => some k_ ≠ (.slice (some ad173) t159.length co10 : Value).ownBlock ∧ some k_ ≠ (.slice (some ad175) t167.length co38 : Value).ownBlock) (.slice A173_3 ((rd_T34 t159 x13_3).f2.f1).length c173_3) ((rd_T34 t159 x13_3).f2.f1)) := ⟨(by rw [hw]; exact (by (with_reducible repeat (first | apply Kd.R_alloc | apply Kd.R_drewN | apply Kd.R_drew)); exact Kd.R_mono (Kd.R_far (p := ⟨gb174, 5, none⟩) (Kd.R_types HL173_3.out BK174.out (by decide)) (fun _ hk => hk.2) (.int .i64 ((rd_T34 t167 x13_3).f4))) (fun _ hk => ⟨hk.1.1, hk.1.2⟩)))⟩; have n3_ : Aside0 (Kd.R k39 39 w40 w.heap.size (fun k_ => some k_ ≠ (.slice (some ad173) t159.length co10 : Value).ownBlock ∧ some k_ ≠ (.slice (some ad175) t167.length co38 : Value).ownBlock) (.slice A175_3 ((rd_T34 t167 x13_3).f2.f1).length c175_3) ((rd_T34 t167 x13_3).f2.f1)) := ⟨(by rw [hw]; exact (by (with_reducible repeat (first | apply Kd.R_alloc | apply Kd.R_drewN | apply Kd.R_drew)); exact Kd.R_mono (Kd.R_far (p := ⟨gb174, 5, none⟩) (Kd.R_types HL175_3.out BK174.out (by decide)) (fun _ hk => hk.2) (.int .i64 ((rd_T34 t167 x13_3).f4))) (fun _ hk => ⟨hk.1.1, hk.1.2⟩)))⟩; have n4_ : Aside0 (w40.heap[gb174]? = some (.cells #[.int .i64 ((rd_T34 t159 x13_3).f0), .string ((rd_T34 t159 x13_3).f1), .int .i64 ((rd_T34 t159 x13_3).f2.f0), .slice A173_3 ((rd_T34 t159 x13_3).f2.f1).length c173_3, .int .i64 ((rd_T34 t159 x13_3).f3), .int .i64 ((rd_T34 t167 x13_3).f4), .int .i64 ((rd_T34 t159 x13_3).f5)] 33 (0, 0))) := ⟨(by rw [hw]; exact (by (with_reducible repeat (first | refine blk_drewN ?_ _ | refine blk_drew ?_ | refine blk_alloc ?_ _)); refine blk_put (cs := #[.int .i64 ((rd_T34 t159 x13_3).f0), .string ((rd_T34 t159 x13_3).f1), .int .i64 ((rd_T34 t159 x13_3).f2.f0), .slice A173_3 ((rd_T34 t159 x13_3).f2.f1).length c173_3, .int .i64 ((rd_T34 t159 x13_3).f3), .int .i64 ((rd_T34 t159 x13_3).f4), .int .i64 ((rd_T34 t159 x13_3).f5)]) ?_ 5 _ rfl; (with_reducible repeat (first | refine blk_drewN ?_ _ | refine blk_drew ?_ | refine blk_alloc ?_ _)); exact BK174.out))⟩; have n5_ : Aside0 (Below w.heap.size w w40) := ⟨(by rw [hw]; exact (by repeat (first | (with_reducible first | exact HB.out | apply below_alloc | apply pw_below_drewN | apply below_drew1 | refine below_set ?_ GE174.out) | exact HB.out)))⟩; clear hw; clear HO_4; clear HO_10; clear HL173_3; clear HL175_3; clear BK174; clear HB; have HO_4 := n0_; have HO_10 := n1_; have HL173_3 := n2_; have HL175_3 := n3_; have BK174 := n4_; have HB := n5_; clear n0_ n1_ n2_ n3_ n4_ n5_; have p176 : 0 ≤ (x13_3 : Int) := of_decide_eq_true (by first | (with_reducible assumption) | assumption); have q176 : x13_3 < (t167.length : Int) := of_decide_eq_true (by first | (with_reducible assumption) | assumption); obtain ⟨ad176, A176_3, c176_3, e176, hx176_0, hx176_1, hx176_2, hx176_3, hx176_4, hx176_5, hx176_6, hl176_3, hi176_3⟩ := at_T34 (Kd.S_reads' HO_10.out).2.2 x13_3 p176 q176; obtain rfl : ad175 = ad176 := (by injection e176); obtain ⟨ce176, hce176, hMe176, hcc176⟩ := Kd.S_get HO_10.out z34 x13_3 p176 (by first | exact q176 | exact of_decide_eq_true (by first | (with_reducible assumption) | assumption) | (have e_ := (Kd.S_reads' HO_10.out).1; omega)); obtain ⟨ve176_3, rfl, ge176_3⟩ := k34_openM hMe176; have hv176_3 := hcc176 3 _ rfl; rw [add_field _ _ 3 (by omega)] at hv176_3; replace hv176_3 := Option.some.inj (hv176_3.symm.trans hx176_3); rw [hv176_3] at ge176_3; have HL176_3 := Aside0.mk (show Kd.R k39 39 _ _ _ _ ((rd_T34 t167 x13_3).f2.f1) from ge176_3); clear hv176_3 ge176_3; clear hcc176 hce176; have HR176_3 := Aside0.mk hi176_3; have HC176_3 := Aside0.mk hl176_3; clear hi176_3 hl176_3; replace p176 := eq_true p176; replace q176 := eq_true q176; have hcz41_0 : w40.cell? ⟨gb174, 0, none⟩ = some (.int .i64 ((rd_T34 t159 x13_3).f0)) := (blk_cell BK174.out 0).trans rfl; have hcz41_1 : w40.cell? ⟨gb174, 1, none⟩ = some (.string ((rd_T34 t159 x13_3).f1)) := (blk_cell BK174.out 1).trans rfl; have hcz41_2 : w40.cell? ⟨gb174, 2, none⟩ = some (.int .i64 ((rd_T34 t159 x13_3).f2.f0)) := (blk_cell BK174.out 2).trans rfl; have hcz41_3 : w40.cell? ⟨gb174, 3, none⟩ = some (.slice A173_3 ((rd_T34 t159 x13_3).f2.f1).length c173_3) := (blk_cell BK174.out 3).trans rfl; have hcz41_4 : w40.cell? ⟨gb174, 4, none⟩ = some (.int .i64 ((rd_T34 t159 x13_3).f3)) := (blk_cell BK174.out 4).trans rfl; have hcz41_5 : w40.cell? ⟨gb174, 5, none⟩ = some (.int .i64 ((rd_T34 t167 x13_3).f4)) := (blk_cell BK174.out 5).trans rfl; have hcz41_6 : w40.cell? ⟨gb174, 6, none⟩ = some (.int .i64 ((rd_T34 t159 x13_3).f5)) := (blk_cell BK174.out 6).trans rfl; have hfz41_0 := blk_frozen BK174.out 0; have hfz41_1 := blk_frozen BK174.out 1; have hfz41_2 := blk_frozen BK174.out 2; have hfz41_3 := blk_frozen BK174.out 3; have hfz41_4 := blk_frozen BK174.out 4; have hfz41_5 := blk_frozen BK174.out 5; have hfz41_6 := blk_frozen BK174.out 6))
               have n0_ : Aside0 (Kd.S k34 34 (w40.setCell ⟨gb174, 6, none⟩ (.int .i64 ((rd_T34 t167 x13_3).f5))) w.heap.size (fun k_ => some k_ ≠ (.slice (some ad175) t167.length co38 : Value).ownBlock) (.slice (some ad173) t159.length co10) t159) := ⟨by (with_reducible repeat (first | apply Kd.S_alloc | apply Kd.S_drewN | apply Kd.S_drew)); exact Kd.S_mono (Kd.S_far (p := ⟨gb174, 6, none⟩) (Kd.S_types HO_4.out BK174.out (by decide)) (fun _ hk => hk.2) (.int .i64 ((rd_T34 t167 x13_3).f5))) (fun _ hk => hk.1)⟩
               have n1_ : Aside0 (Kd.S k34 34 (w40.setCell ⟨gb174, 6, none⟩ (.int .i64 ((rd_T34 t167 x13_3).f5))) w.heap.size (fun k_ => some k_ ≠ (.slice (some ad173) t159.length co10 : Value).ownBlock) (.slice (some ad175) t167.length co38) t167) := ⟨by (with_reducible repeat (first | apply Kd.S_alloc | apply Kd.S_drewN | apply Kd.S_drew)); exact Kd.S_mono (Kd.S_far (p := ⟨gb174, 6, none⟩) (Kd.S_types HO_10.out BK174.out (by decide)) (fun _ hk => hk.2) (.int .i64 ((rd_T34 t167 x13_3).f5))) (fun _ hk => hk.1)⟩
               have n2_ : Aside0 (Kd.R k39 39 (w40.setCell ⟨gb174, 6, none⟩ (.int .i64 ((rd_T34 t167 x13_3).f5))) w.heap.size (fun k_ => some k_ ≠ (.slice (some ad173) t159.length co10 : Value).ownBlock ∧ some k_ ≠ (.slice (some ad175) t167.length co38 : Value).ownBlock) (.slice A173_3 ((rd_T34 t159 x13_3).f2.f1).length c173_3) ((rd_T34 t159 x13_3).f2.f1)) := ⟨by (with_reducible repeat (first | apply Kd.R_alloc | apply Kd.R_drewN | apply Kd.R_drew)); exact Kd.R_mono (Kd.R_far (p := ⟨gb174, 6, none⟩) (Kd.R_types HL173_3.out BK174.out (by decide)) (fun _ hk => hk.2) (.int .i64 ((rd_T34 t167 x13_3).f5))) (fun _ hk => ⟨hk.1.1, hk.1.2⟩)⟩
               have n3_ : Aside0 (Kd.R k39 39 (w40.setCell ⟨gb174, 6, none⟩ (.int .i64 ((rd_T34 t167 x13_3).f5))) w.heap.size (fun k_ => some k_ ≠ (.slice (some ad173) t159.length co10 : Value).ownBlock ∧ some k_ ≠ (.slice (some ad175) t167.length co38 : Value).ownBlock) (.slice A175_3 ((rd_T34 t167 x13_3).f2.f1).length c175_3) ((rd_T34 t167 x13_3).f2.f1)) := ⟨by (with_reducible repeat (first | apply Kd.R_alloc | apply Kd.R_drewN | apply Kd.R_drew)); exact Kd.R_mono (Kd.R_far (p := ⟨gb174, 6, none⟩) (Kd.R_types HL175_3.out BK174.out (by decide)) (fun _ hk => hk.2) (.int .i64 ((rd_T34 t167 x13_3).f5))) (fun _ hk => ⟨hk.1.1, hk.1.2⟩)⟩
               have n4_ : Aside0 (Kd.R k39 39 (w40.setCell ⟨gb174, 6, none⟩ (.int .i64 ((rd_T34 t167 x13_3).f5))) w.heap.size (fun k_ => some k_ ≠ (.slice (some ad173) t159.length co10 : Value).ownBlock ∧ some k_ ≠ (.slice (some ad175) t167.length co38 : Value).ownBlock) (.slice A176_3 ((rd_T34 t167 x13_3).f2.f1).length c176_3) ((rd_T34 t167 x13_3).f2.f1)) := ⟨by (with_reducible repeat (first | apply Kd.R_alloc | apply Kd.R_drewN | apply Kd.R_drew)); exact Kd.R_mono (Kd.R_far (p := ⟨gb174, 6, none⟩) (Kd.R_types HL176_3.out BK174.out (by decide)) (fun _ hk => hk.2) (.int .i64 ((rd_T34 t167 x13_3).f5))) (fun _ hk => ⟨hk.1.1, hk.1.2⟩)⟩
               have n5_ : Aside0 ((w40.setCell ⟨gb174, 6, none⟩ (.int .i64 ((rd_T34 t167 x13_3).f5))).heap[gb174]? = some (.cells #[.int .i64 ((rd_T34 t159 x13_3).f0), .string ((rd_T34 t159 x13_3).f1), .int .i64 ((rd_T34 t159 x13_3).f2.f0), .slice A173_3 ((rd_T34 t159 x13_3).f2.f1).length c173_3, .int .i64 ((rd_T34 t159 x13_3).f3), .int .i64 ((rd_T34 t167 x13_3).f4), .int .i64 ((rd_T34 t167 x13_3).f5)] 33 (0, 0))) := ⟨by (with_reducible repeat (first | refine blk_drewN ?_ _ | refine blk_drew ?_ | refine blk_alloc ?_ _)); refine blk_put (cs := #[.int .i64 ((rd_T34 t159 x13_3).f0), .string ((rd_T34 t159 x13_3).f1), .int .i64 ((rd_T34 t159 x13_3).f2.f0), .slice A173_3 ((rd_T34 t159 x13_3).f2.f1).length c173_3, .int .i64 ((rd_T34 t159 x13_3).f3), .int .i64 ((rd_T34 t167 x13_3).f4), .int .i64 ((rd_T34 t159 x13_3).f5)]) ?_ 6 _ rfl; (with_reducible repeat (first | refine blk_drewN ?_ _ | refine blk_drew ?_ | refine blk_alloc ?_ _)); exact BK174.out⟩
               have n6_ : Aside0 (Below w.heap.size w (w40.setCell ⟨gb174, 6, none⟩ (.int .i64 ((rd_T34 t167 x13_3).f5)))) := ⟨by repeat (first | (with_reducible first | exact HB.out | apply below_alloc | apply pw_below_drewN | apply below_drew1 | refine below_set ?_ GE174.out) | exact HB.out)⟩
               (try clear HO_4)
               (try clear HO_10)
               (try clear HL173_3)
               (try clear HL175_3)
               (try clear HL176_3)
               (try clear BK174)
               (try clear HB)
               generalize (w40.setCell ⟨gb174, 6, none⟩ (.int .i64 ((rd_T34 t167 x13_3).f5))) = w42 at n0_ n1_ n2_ n3_ n4_ n5_ n6_ ⊢
               have HO_4 := n0_
               have HO_10 := n1_
               have HL173_3 := n2_
               have HL175_3 := n3_
               have HL176_3 := n4_
               have BK174 := n5_
               have HB := n6_
               clear n0_ n1_ n2_ n3_ n4_ n5_ n6_
               have n0_ := Aside0.mk (Kd.S_drew HO_4.out)
               have n1_ := Aside0.mk (Kd.S_drew HO_10.out)
               have n2_ := Aside0.mk (Kd.R_drew HL173_3.out)
               have n3_ := Aside0.mk (Kd.R_drew HL175_3.out)
               have n4_ := Aside0.mk (Kd.R_drew HL176_3.out)
               have n5_ := Aside0.mk (blk_drew BK174.out)
               have n6_ := Aside0.mk (below_drew1 HB.out)
               clear HO_4
               clear HO_10
               clear HL173_3
               clear HL175_3
               clear HL176_3
               clear BK174
               clear HB
               have HO_4 := n0_
               have HO_10 := n1_
               have HL173_3 := n2_
               have HL175_3 := n3_
               have HL176_3 := n4_
               have BK174 := n5_
               have HB := n6_
               clear n0_ n1_ n2_ n3_ n4_ n5_ n6_
               have p177 : 0 ≤ (x13_3 : Int) := of_decide_eq_true (by first | (with_reducible assumption) | assumption)
               have q177 : x13_3 < (t167.length : Int) := of_decide_eq_true (by first | (with_reducible assumption) | assumption)
               obtain ⟨ad177, A177_3, c177_3, e177, hx177_0, hx177_1, hx177_2, hx177_3, hx177_4, hx177_5, hx177_6, hl177_3, hi177_3⟩ := at_T34 (Kd.S_reads' HO_10.out).2.2 x13_3 p177 q177
               obtain rfl : ad175 = ad177 := (by injection e177)
               obtain ⟨ce177, hce177, hMe177, hcc177⟩ := Kd.S_get HO_10.out z34 x13_3 p177 (by first | exact q177 | exact of_decide_eq_true (by first | (with_reducible assumption) | assumption) | (have e_ := (Kd.S_reads' HO_10.out).1; omega))
               obtain ⟨ve177_3, rfl, ge177_3⟩ := k34_openM hMe177
               have hv177_3 := hcc177 3 _ rfl
               rw [add_field _ _ 3 (by omega)] at hv177_3
               replace hv177_3 := Option.some.inj (hv177_3.symm.trans hx177_3)
               rw [hv177_3] at ge177_3
               have HL177_3 := Aside0.mk (show Kd.R k39 39 _ _ _ _ ((rd_T34 t167 x13_3).f2.f1) from ge177_3)
               clear hv177_3 ge177_3
               clear hcc177 hce177
               have HR177_3 := Aside0.mk hi177_3
               have HC177_3 := Aside0.mk hl177_3
               clear hi177_3 hl177_3
               replace p177 := eq_true p177
               replace q177 := eq_true q177
               refine start_ (n := 7) (S := fun w' => w'.cell? ⟨gb174, 0, none⟩ = some (.int .i64 ((rd_T34 t159 x13_3).f0)) ∧ w'.cell? ⟨gb174, 1, none⟩ = some (.string ((rd_T34 t159 x13_3).f1)) ∧ w'.cell? ⟨gb174, 2, none⟩ = some (.int .i64 ((rd_T34 t159 x13_3).f2.f0)) ∧ w'.cell? ⟨gb174, 3, none⟩ = some (.slice A173_3 ((rd_T34 t159 x13_3).f2.f1).length c173_3) ∧ w'.cell? ⟨gb174, 4, none⟩ = some (.int .i64 ((rd_T34 t159 x13_3).f3)) ∧ w'.cell? ⟨gb174, 5, none⟩ = some (.int .i64 ((rd_T34 t167 x13_3).f4)) ∧ w'.cell? ⟨gb174, 6, none⟩ = some (.int .i64 ((rd_T34 t167 x13_3).f5)) ∧ w'.cell? (ad175.add ((x13_3).toNat * 7)) = some (.int .i64 ((rd_T34 t167 x13_3).f0)) ∧ w'.cell? ⟨(ad175.add ((x13_3).toNat * 7)).block, (ad175.add ((x13_3).toNat * 7)).off + 1, none⟩ = some (.string ((rd_T34 t167 x13_3).f1)) ∧ w'.cell? ⟨(ad175.add ((x13_3).toNat * 7)).block, (ad175.add ((x13_3).toNat * 7)).off + 2, none⟩ = some (.int .i64 ((rd_T34 t167 x13_3).f2.f0)) ∧ w'.cell? ⟨(ad175.add ((x13_3).toNat * 7)).block, (ad175.add ((x13_3).toNat * 7)).off + 3, none⟩ = some (.slice A177_3 ((rd_T34 t167 x13_3).f2.f1).length c177_3) ∧ w'.cell? ⟨(ad175.add ((x13_3).toNat * 7)).block, (ad175.add ((x13_3).toNat * 7)).off + 4, none⟩ = some (.int .i64 ((rd_T34 t167 x13_3).f3)) ∧ w'.cell? ⟨(ad175.add ((x13_3).toNat * 7)).block, (ad175.add ((x13_3).toNat * 7)).off + 5, none⟩ = some (.int .i64 ((rd_T34 t167 x13_3).f4)) ∧ w'.cell? ⟨(ad175.add ((x13_3).toNat * 7)).block, (ad175.add ((x13_3).toNat * 7)).off + 6, none⟩ = some (.int .i64 ((rd_T34 t167 x13_3).f5))) (ds := []) #[false, false, false, false, false, false, false] (by kernel_rfl) rfl rfl ⟨(blk_cell BK174.out 0).trans rfl, (blk_cell BK174.out 1).trans rfl, (blk_cell BK174.out 2).trans rfl, (blk_cell BK174.out 3).trans rfl, (blk_cell BK174.out 4).trans rfl, (blk_cell BK174.out 5).trans rfl, (blk_cell BK174.out 6).trans rfl, hx177_0, hx177_1, hx177_2, hx177_3, hx177_4, hx177_5, hx177_6⟩ (fun hHeld => ?_)
               generalize w42.drew = w43 at HO_4 HO_10 HL173_3 HL175_3 HL176_3 BK174 HB HL177_3 HR177_3 hx177_0 hx177_1 hx177_2 hx177_3 hx177_4 hx177_5 hx177_6 hHeld ⊢
               refine pure_ (i := 0) (N := some 95) (v := ?_) (a' := ?_) #[true, false, false, false, false, false, false] rfl rfl (by kernel_rfl) (fun _ _ _ h => h) (Or.inl ⟨by rfl, ?_⟩) ?_ ?_
               rotate_left
               ·intro w'
                go_simp
                with_reducible rfl
               rotate_left
               ·simp only [Act.put, List.setIfInBounds_toArray, List.set_cons_zero, List.set_cons_succ, i64_w, i32_w]
                rfl
               refine pure_ (i := 1) (N := some 96) (v := ?_) (a' := ?_) #[true, true, false, false, false, false, false] rfl rfl (by kernel_rfl) (fun _ _ _ h => h) (Or.inl ⟨by rfl, ?_⟩) ?_ ?_
               rotate_left
               ·intro w'
                go_simp
                with_reducible rfl
               rotate_left
               ·simp only [Act.put, List.setIfInBounds_toArray, List.set_cons_zero, List.set_cons_succ, i64_w, i32_w]
                rfl
               refine pure_ (i := 2) (N := some 97) (v := ?_) (a' := ?_) #[true, true, true, false, false, false, false] rfl rfl (by kernel_rfl) (fun _ _ _ h => h) (Or.inl ⟨by rfl, ?_⟩) ?_ ?_
               rotate_left
               ·intro w'
                go_simp
                with_reducible rfl
               rotate_left
               ·simp only [Act.put, List.setIfInBounds_toArray, List.set_cons_zero, List.set_cons_succ, i64_w, i32_w]
                rfl
               refine take_ (i := 3) (N := some 98) (v := ?_) (a' := ?_) #[true, true, true, true, false, false, false] rfl rfl (by kernel_rfl) (fun _ _ _ h => h) (Or.inl ⟨by rfl, ?_⟩) hHeld ?_ ?_
               rotate_left
               ·rintro w' ⟨s0, s1, s2, s3, s4, s5, s6, s7, s8, s9, s10, s11, s12, s13⟩
                go_simp
                with_reducible rfl
               rotate_left
               ·simp only [Act.put, List.setIfInBounds_toArray, List.set_cons_zero, List.set_cons_succ, i64_w, i32_w]
                rfl
               refine take_ (i := 4) (N := some 99) (v := ?_) (a' := ?_) #[true, true, true, true, true, false, false] rfl rfl (by kernel_rfl) (fun _ _ _ h => h) (Or.inl ⟨by rfl, ?_⟩) hHeld ?_ ?_
               rotate_left
               ·rintro w' ⟨s0, s1, s2, s3, s4, s5, s6, s7, s8, s9, s10, s11, s12, s13⟩
                go_simp
                with_reducible rfl
               rotate_left
               ·simp only [Act.put, List.setIfInBounds_toArray, List.set_cons_zero, List.set_cons_succ, i64_w, i32_w]
                rfl
               refine one_ (i := 5) (N := some 100) #[true, true, true, true, true, true, false] rfl rfl (by kernel_rfl) (by decide) (fun K hK => ?_)
               refine goes_ Tryd.func12 (by kernel_rfl) rfl #[.agg #[.int .i64 ((rd_T34 t167 x13_3).f0), .string ((rd_T34 t167 x13_3).f1), .int .i64 ((rd_T34 t167 x13_3).f2.f0), .slice A177_3 ((rd_T34 t167 x13_3).f2.f1).length c177_3, .int .i64 ((rd_T34 t167 x13_3).f3), .int .i64 ((rd_T34 t167 x13_3).f4), .int .i64 ((rd_T34 t167 x13_3).f5)], .agg #[.int .i64 ((rd_T34 t159 x13_3).f0), .string ((rd_T34 t159 x13_3).f1), .int .i64 ((rd_T34 t159 x13_3).f2.f0), .slice A173_3 ((rd_T34 t159 x13_3).f2.f1).length c173_3, .int .i64 ((rd_T34 t159 x13_3).f3), .int .i64 ((rd_T34 t167 x13_3).f4), .int .i64 ((rd_T34 t167 x13_3).f5)]] (by rfl) rfl rfl (by (try simp only [List.map_toArray, List.map_cons, List.map_nil]); first | done | rfl | (simp only [List.length_drop, List.length_take]; rfl)) ?_
               with_reducible refine (carcanetref25_Same.calls k3 ((rd_T34 t167 x13_3).f0) ((rd_T34 t167 x13_3).f1) ((rd_T34 t167 x13_3).f2.f0) _ _ ((rd_T34 t167 x13_3).f2.f1) ((rd_T34 t167 x13_3).f3) ((rd_T34 t167 x13_3).f4) ((rd_T34 t167 x13_3).f5) ((rd_T34 t159 x13_3).f0) ((rd_T34 t159 x13_3).f1) ((rd_T34 t159 x13_3).f2.f0) _ _ ((rd_T34 t159 x13_3).f2.f1) ((rd_T34 t159 x13_3).f3) ((rd_T34 t167 x13_3).f4) ((rd_T34 t167 x13_3).f5) true _ ?side1 ?side2 ?side3 ?side4 A33.out).mono ?_
               (case side1 => repeat (first | exact (by repeat (first | (with_reducible exact HR177_3.out) | (with_reducible refine Kd.C_alloc ?_ _) | (with_reducible refine Kd.C_drewN ?_ _) | (with_reducible refine Kd.C_drew ?_) | exact HR177_3.out)) | (with_reducible refine Kd.C_alloc ?_ _) | (with_reducible refine Kd.C_drewN ?_ _) | (with_reducible refine Kd.C_drew ?_)))
               (case side2 => exact HC177_3.out)
               (case side3 => repeat (first | exact ((Kd.R_reads' (by (with_reducible repeat (first | apply Kd.R_alloc | apply Kd.R_drewN | apply Kd.R_drew)); exact HL173_3.out)).2.2) | (with_reducible refine Kd.C_alloc ?_ _) | (with_reducible refine Kd.C_drewN ?_ _) | (with_reducible refine Kd.C_drew ?_)))
               (case side4 => exact HC173_3.out)
               rintro e w44 ⟨rfl, hb⟩
               have HS7_ := (hb.cell (World.block_lt_of_cell? _ _ (hHeld.2.2.2.2.2.2.2.1))).trans (hHeld.2.2.2.2.2.2.2.1)
               have HS8_ := (hb.cell (World.block_lt_of_cell? _ _ (hHeld.2.2.2.2.2.2.2.2.1))).trans (hHeld.2.2.2.2.2.2.2.2.1)
               have HS9_ := (hb.cell (World.block_lt_of_cell? _ _ (hHeld.2.2.2.2.2.2.2.2.2.1))).trans (hHeld.2.2.2.2.2.2.2.2.2.1)
               have HS10_ := (hb.cell (World.block_lt_of_cell? _ _ (hHeld.2.2.2.2.2.2.2.2.2.2.1))).trans (hHeld.2.2.2.2.2.2.2.2.2.2.1)
               have HS11_ := (hb.cell (World.block_lt_of_cell? _ _ (hHeld.2.2.2.2.2.2.2.2.2.2.2.1))).trans (hHeld.2.2.2.2.2.2.2.2.2.2.2.1)
               have HS12_ := (hb.cell (World.block_lt_of_cell? _ _ (hHeld.2.2.2.2.2.2.2.2.2.2.2.2.1))).trans (hHeld.2.2.2.2.2.2.2.2.2.2.2.2.1)
               have HS13_ := (hb.cell (World.block_lt_of_cell? _ _ (hHeld.2.2.2.2.2.2.2.2.2.2.2.2.2))).trans (hHeld.2.2.2.2.2.2.2.2.2.2.2.2.2)
               refine ⟨_, rfl, ?_⟩
               have n0_ := Aside0.mk (Kd.S_below (by (with_reducible repeat (first | apply Kd.S_alloc | apply Kd.S_drewN | apply Kd.S_drew)); exact HO_4.out) hb)
               have n1_ := Aside0.mk (Kd.S_below (by (with_reducible repeat (first | apply Kd.S_alloc | apply Kd.S_drewN | apply Kd.S_drew)); exact HO_10.out) hb)
               have n2_ := Aside0.mk (Kd.R_below (by (with_reducible repeat (first | apply Kd.R_alloc | apply Kd.R_drewN | apply Kd.R_drew)); exact HL173_3.out) hb)
               have n3_ := Aside0.mk (Kd.R_below (by (with_reducible repeat (first | apply Kd.R_alloc | apply Kd.R_drewN | apply Kd.R_drew)); exact HL175_3.out) hb)
               have n4_ := Aside0.mk (Kd.R_below (by (with_reducible repeat (first | apply Kd.R_alloc | apply Kd.R_drewN | apply Kd.R_drew)); exact HL176_3.out) hb)
               have n5_ := Aside0.mk (Kd.R_below (by (with_reducible repeat (first | apply Kd.R_alloc | apply Kd.R_drewN | apply Kd.R_drew)); exact HL177_3.out) hb)
               have n6_ := Aside0.mk (blk_below (g := gb174) (o := .cells #[.int .i64 ((rd_T34 t159 x13_3).f0), .string ((rd_T34 t159 x13_3).f1), .int .i64 ((rd_T34 t159 x13_3).f2.f0), .slice A173_3 ((rd_T34 t159 x13_3).f2.f1).length c173_3, .int .i64 ((rd_T34 t159 x13_3).f3), .int .i64 ((rd_T34 t167 x13_3).f4), .int .i64 ((rd_T34 t167 x13_3).f5)] 33 (0, 0)) (by (with_reducible repeat (first | refine blk_drewN ?_ _ | refine blk_drew ?_ | refine blk_alloc ?_ _)); exact BK174.out) hb)
               have n7_ := Aside0.mk (Kd.C_below (by repeat (first | (with_reducible exact HR177_3.out) | (with_reducible refine Kd.C_alloc ?_ _) | (with_reducible refine Kd.C_drewN ?_ _) | (with_reducible refine Kd.C_drew ?_) | exact HR177_3.out)) hb)
               have n8_ := Aside0.mk (below_step (by repeat (first | (with_reducible first | exact HB.out | apply below_alloc | apply pw_below_drewN | apply below_drew1 | refine below_set ?_ GE174.out) | exact HB.out)) hb)
               clear HO_4
               clear HO_10
               clear HL173_3
               clear HL175_3
               clear HL176_3
               clear HL177_3
               clear BK174
               clear HR177_3
               clear HB
               have HO_4 := n0_
               have HO_10 := n1_
               have HL173_3 := n2_
               have HL175_3 := n3_
               have HL176_3 := n4_
               have HL177_3 := n5_
               have BK174 := n6_
               have HR177_3 := n7_
               have HB := n8_
               clear n0_ n1_ n2_ n3_ n4_ n5_ n6_ n7_ n8_
               (try clear hb)
               (try clear hb2)
               (try clear hk)
               (try clear hi)
               refine hK.out _ _ ⟨(blk_cell BK174.out 0).trans rfl, (blk_cell BK174.out 1).trans rfl, (blk_cell BK174.out 2).trans rfl, (blk_cell BK174.out 3).trans rfl, (blk_cell BK174.out 4).trans rfl, (blk_cell BK174.out 5).trans rfl, (blk_cell BK174.out 6).trans rfl, HS7_, HS8_, HS9_, HS10_, HS11_, HS12_, HS13_⟩ (fun hHeld => ?_)
               clear hK K
               refine norm_ (a' := ?_) ?_ ?_
               rotate_left
               ·show Act.put _ (some 100) _ = _
                simp only [Act.put, List.setIfInBounds_toArray, List.set_cons_zero, List.set_cons_succ, i64_w, i32_w]
                rfl
               refine pure_ (i := 6) (N := some 101) (v := ?_) (a' := ?_) #[true, true, true, true, true, true, true] rfl rfl (by kernel_rfl) (fun _ _ _ h => h) (Or.inl ⟨by rfl, ?_⟩) ?_ ?_
               rotate_left
               ·intro w'
                go_simp
                with_reducible rfl
               rotate_left
               ·simp only [Act.put, List.setIfInBounds_toArray, List.set_cons_zero, List.set_cons_succ, i64_w, i32_w]
                rfl
               refine done_ (by kernel_rfl) ?_
               try go_wp2
               go_roundg k3
               case measure => have := HK1.out; have := HJ18.out; have := HK3.out; omega
               case rel => exact ⟨(wrap64 (x13_3 + 1)), (by first | rfl | (simp; done) | (simp [*]; done)), H', ⟨by have := HK1.out; have := HJ18.out; have := HK3.out; omega⟩, ⟨by (with_reducible repeat (first | apply Kd.S_alloc | apply Kd.S_drewN | apply Kd.S_drew)); exact HO_4.out⟩, ⟨by (with_reducible repeat (first | apply Kd.S_alloc | apply Kd.S_drewN | apply Kd.S_drew)); exact HO_10.out⟩, ⟨by repeat (first | (with_reducible first | exact HB.out | apply below_alloc | apply pw_below_drewN | apply below_drew1 | refine below_set ?_ GE174.out) | exact HB.out)⟩⟩
              ·replace c34 := Bool.eq_false_iff.mpr c34
               subst c34
               have H1 : (some false) = some r := by rw [if_neg (show ¬ (false = true) by decide)] at H; exact H
               clear H
               have H := H1
               clear H1
               obtain rfl := Option.some.inj H
               have p173 : 0 ≤ (x13_3 : Int) := of_decide_eq_true (by first | (with_reducible assumption) | assumption)
               have q173 : x13_3 < (t159.length : Int) := of_decide_eq_true (by first | (with_reducible assumption) | assumption)
               obtain ⟨ad173, A173_3, c173_3, e173, hx173_0, hx173_1, hx173_2, hx173_3, hx173_4, hx173_5, hx173_6, hl173_3, hi173_3⟩ := at_T34 (Kd.S_reads' HO_4.out).2.2 x13_3 p173 q173
               cases e173
               obtain ⟨ce173, hce173, hMe173, hcc173⟩ := Kd.S_get HO_4.out z34 x13_3 p173 (by first | exact q173 | exact of_decide_eq_true (by first | (with_reducible assumption) | assumption) | (have e_ := (Kd.S_reads' HO_4.out).1; omega))
               obtain ⟨ve173_3, rfl, ge173_3⟩ := k34_openM hMe173
               have hv173_3 := hcc173 3 _ rfl
               rw [add_field _ _ 3 (by omega)] at hv173_3
               replace hv173_3 := Option.some.inj (hv173_3.symm.trans hx173_3)
               rw [hv173_3] at ge173_3
               have HL173_3 := Aside0.mk (show Kd.R k39 39 _ _ _ _ ((rd_T34 t159 x13_3).f2.f1) from ge173_3)
               clear hv173_3 ge173_3
               clear hcc173 hce173
               have HR173_3 := Aside0.mk hi173_3
               have HC173_3 := Aside0.mk hl173_3
               clear hi173_3 hl173_3
               replace p173 := eq_true p173
               replace q173 := eq_true q173
               try go_wp2_with (first | ((with_reducible refine gate_dst (N := 14) rfl ?_); (try (refine gate_guard (by rfl) ?_; dsimp only)); refine box_event ?hg (N := 14) ?hd (cs := #[.int .i64 0, .string (⟨#[]⟩ : ByteArray), .int .i64 0, .slice none 0 0, .int .i64 0, .int .i64 0, .int .i64 0]) (t := 33) ?hr ?_; (case hd => rfl); (case hg => rfl); (case hr => first | (go_simp; done) | (go_simp; rfl)); intro gb174 hg w45 hbox hb; have n0_ := Aside0.mk (Kd.S_below (by (with_reducible repeat (first | apply Kd.S_alloc | apply Kd.S_drewN | apply Kd.S_drew)); exact HO_4.out) hb); have n1_ := Aside0.mk (Kd.S_below (by (with_reducible repeat (first | apply Kd.S_alloc | apply Kd.S_drewN | apply Kd.S_drew)); exact HO_10.out) hb); have n2_ := Aside0.mk (Kd.R_below (by (with_reducible repeat (first | apply Kd.R_alloc | apply Kd.R_drewN | apply Kd.R_drew)); exact HL173_3.out) hb); have n3_ := Aside0.mk (Kd.C_below (by repeat (first | (with_reducible exact HR173_3.out) | (with_reducible refine Kd.C_alloc ?_ _) | (with_reducible refine Kd.C_drewN ?_ _) | (with_reducible refine Kd.C_drew ?_) | exact HR173_3.out)) hb); have n4_ := Aside0.mk (below_step (by repeat (first | (with_reducible first | exact HB.out | apply below_alloc | apply pw_below_drewN | apply below_drew1) | exact HB.out)) hb); have n5_ := Aside0.mk (hbox); have n6_ := Aside0.mk ((by rw [hg]; exact (below_size (by repeat (first | (with_reducible first | exact HB.out | apply below_alloc | apply pw_below_drewN | apply below_drew1) | exact HB.out))) : w.heap.size ≤ gb174)); have n7_ := Aside0.mk ((by rw [hg]; exact (below_size (by repeat (first | (with_reducible first | exact HB.out | apply below_alloc | apply pw_below_drewN | apply below_drew1) | exact HB.out))) : w.heap.size ≤ gb174)); clear HO_4; clear HO_10; clear HL173_3; clear HR173_3; clear HB; have HO_4 := n0_; have HO_10 := n1_; have HL173_3 := n2_; have HR173_3 := n3_; have HB := n4_; have BK174 := n5_; have GW174 := n6_; have GE174 := n7_; clear n0_ n1_ n2_ n3_ n4_ n5_ n6_ n7_; clear hb hbox hg; have hcz46_0 : w45.cell? ⟨gb174, 0, none⟩ = some (.int .i64 0) := (blk_cell BK174.out 0).trans rfl; have hcz46_1 : w45.cell? ⟨gb174, 1, none⟩ = some (.string (⟨#[]⟩ : ByteArray)) := (blk_cell BK174.out 1).trans rfl; have hcz46_2 : w45.cell? ⟨gb174, 2, none⟩ = some (.int .i64 0) := (blk_cell BK174.out 2).trans rfl; have hcz46_3 : w45.cell? ⟨gb174, 3, none⟩ = some (.slice none 0 0) := (blk_cell BK174.out 3).trans rfl; have hcz46_4 : w45.cell? ⟨gb174, 4, none⟩ = some (.int .i64 0) := (blk_cell BK174.out 4).trans rfl; have hcz46_5 : w45.cell? ⟨gb174, 5, none⟩ = some (.int .i64 0) := (blk_cell BK174.out 5).trans rfl; have hcz46_6 : w45.cell? ⟨gb174, 6, none⟩ = some (.int .i64 0) := (blk_cell BK174.out 6).trans rfl; have hfz46_0 := blk_frozen BK174.out 0; have hfz46_1 := blk_frozen BK174.out 1; have hfz46_2 := blk_frozen BK174.out 2; have hfz46_3 := blk_frozen BK174.out 3; have hfz46_4 := blk_frozen BK174.out 4; have hfz46_5 := blk_frozen BK174.out 5; have hfz46_6 := blk_frozen BK174.out 6) | ((with_reducible refine gate_store (t := 33) (p := 14) rfl ?_); refine store_event (t := 33) (p := 14) (v := ?vo_w47) (w1 := (((((((w45.setCell ⟨gb174, 0, none⟩ (.int .i64 ((rd_T34 t159 x13_3).f0))).setCell ⟨gb174, 1, none⟩ (.string ((rd_T34 t159 x13_3).f1))).setCell ⟨gb174, 2, none⟩ (.int .i64 ((rd_T34 t159 x13_3).f2.f0))).setCell ⟨gb174, 3, none⟩ (.slice A173_3 ((rd_T34 t159 x13_3).f2.f1).length c173_3)).setCell ⟨gb174, 4, none⟩ (.int .i64 ((rd_T34 t159 x13_3).f3))).setCell ⟨gb174, 5, none⟩ (.int .i64 ((rd_T34 t159 x13_3).f4))).setCell ⟨gb174, 6, none⟩ (.int .i64 ((rd_T34 t159 x13_3).f5)))) ?hg ?ho ?hn ?hr ?_; (case ho => rfl); (case hg => rfl); (case hn => rfl); (case hr => first | (go_simp; done) | (go_simp; rfl)); intro w47 hw; have n0_ : Aside0 (Kd.S k34 34 w47 w.heap.size (fun k_ => some k_ ≠ (v170 : Value).ownBlock) (.slice (some ad173) t159.length co10) t159) := ⟨(by rw [hw]; exact (by (with_reducible repeat (first | apply Kd.S_alloc | apply Kd.S_drewN | apply Kd.S_drew)); exact Kd.S_mono (Kd.S_far (p := ⟨gb174, 6, none⟩) (Kd.S_far (p := ⟨gb174, 5, none⟩) (Kd.S_far (p := ⟨gb174, 4, none⟩) (Kd.S_far (p := ⟨gb174, 3, none⟩) (Kd.S_far (p := ⟨gb174, 2, none⟩) (Kd.S_far (p := ⟨gb174, 1, none⟩) (Kd.S_far (p := ⟨gb174, 0, none⟩) (Kd.S_types HO_4.out BK174.out (by decide)) (fun _ hk => hk.2) (.int .i64 ((rd_T34 t159 x13_3).f0))) (fun _ hk => hk.2) (.string ((rd_T34 t159 x13_3).f1))) (fun _ hk => hk.2) (.int .i64 ((rd_T34 t159 x13_3).f2.f0))) (fun _ hk => hk.2) (.slice A173_3 ((rd_T34 t159 x13_3).f2.f1).length c173_3)) (fun _ hk => hk.2) (.int .i64 ((rd_T34 t159 x13_3).f3))) (fun _ hk => hk.2) (.int .i64 ((rd_T34 t159 x13_3).f4))) (fun _ hk => hk.2) (.int .i64 ((rd_T34 t159 x13_3).f5))) (fun _ hk => hk.1)))⟩; have n1_ : Aside0 (Kd.S k34 34 w47 w.heap.size (fun k_ => some k_ ≠ (.slice (some ad173) t159.length co10 : Value).ownBlock) v170 t167) := ⟨(by rw [hw]; exact (by (with_reducible repeat (first | apply Kd.S_alloc | apply Kd.S_drewN | apply Kd.S_drew)); exact Kd.S_mono (Kd.S_far (p := ⟨gb174, 6, none⟩) (Kd.S_far (p := ⟨gb174, 5, none⟩) (Kd.S_far (p := ⟨gb174, 4, none⟩) (Kd.S_far (p := ⟨gb174, 3, none⟩) (Kd.S_far (p := ⟨gb174, 2, none⟩) (Kd.S_far (p := ⟨gb174, 1, none⟩) (Kd.S_far (p := ⟨gb174, 0, none⟩) (Kd.S_types HO_10.out BK174.out (by decide)) (fun _ hk => hk.2) (.int .i64 ((rd_T34 t159 x13_3).f0))) (fun _ hk => hk.2) (.string ((rd_T34 t159 x13_3).f1))) (fun _ hk => hk.2) (.int .i64 ((rd_T34 t159 x13_3).f2.f0))) (fun _ hk => hk.2) (.slice A173_3 ((rd_T34 t159 x13_3).f2.f1).length c173_3)) (fun _ hk => hk.2) (.int .i64 ((rd_T34 t159 x13_3).f3))) (fun _ hk => hk.2) (.int .i64 ((rd_T34 t159 x13_3).f4))) (fun _ hk => hk.2) (.int .i64 ((rd_T34 t159 x13_3).f5))) (fun _ hk => hk.1)))⟩; have n2_ : Aside0 (Kd.R k39 39 w47 w.heap.size (fun k_ => some k_ ≠ (.slice (some ad173) t159.length co10 : Value).ownBlock ∧ some k_ ≠ (v170 : Value).ownBlock) (.slice A173_3 ((rd_T34 t159 x13_3).f2.f1).length c173_3) ((rd_T34 t159 x13_3).f2.f1)) := ⟨(by rw [hw]; exact (by (with_reducible repeat (first | apply Kd.R_alloc | apply Kd.R_drewN | apply Kd.R_drew)); exact Kd.R_mono (Kd.R_far (p := ⟨gb174, 6, none⟩) (Kd.R_far (p := ⟨gb174, 5, none⟩) (Kd.R_far (p := ⟨gb174, 4, none⟩) (Kd.R_far (p := ⟨gb174, 3, none⟩) (Kd.R_far (p := ⟨gb174, 2, none⟩) (Kd.R_far (p := ⟨gb174, 1, none⟩) (Kd.R_far (p := ⟨gb174, 0, none⟩) (Kd.R_types HL173_3.out BK174.out (by decide)) (fun _ hk => hk.2) (.int .i64 ((rd_T34 t159 x13_3).f0))) (fun _ hk => hk.2) (.string ((rd_T34 t159 x13_3).f1))) (fun _ hk => hk.2) (.int .i64 ((rd_T34 t159 x13_3).f2.f0))) (fun _ hk => hk.2) (.slice A173_3 ((rd_T34 t159 x13_3).f2.f1).length c173_3)) (fun _ hk => hk.2) (.int .i64 ((rd_T34 t159 x13_3).f3))) (fun _ hk => hk.2) (.int .i64 ((rd_T34 t159 x13_3).f4))) (fun _ hk => hk.2) (.int .i64 ((rd_T34 t159 x13_3).f5))) (fun _ hk => ⟨hk.1.2, hk.1.1⟩)))⟩; have n3_ : Aside0 (w47.heap[gb174]? = some (.cells #[.int .i64 ((rd_T34 t159 x13_3).f0), .string ((rd_T34 t159 x13_3).f1), .int .i64 ((rd_T34 t159 x13_3).f2.f0), .slice A173_3 ((rd_T34 t159 x13_3).f2.f1).length c173_3, .int .i64 ((rd_T34 t159 x13_3).f3), .int .i64 ((rd_T34 t159 x13_3).f4), .int .i64 ((rd_T34 t159 x13_3).f5)] 33 (0, 0))) := ⟨(by rw [hw]; exact (by (with_reducible repeat (first | refine blk_drewN ?_ _ | refine blk_drew ?_ | refine blk_alloc ?_ _)); refine blk_put (cs := #[.int .i64 ((rd_T34 t159 x13_3).f0), .string ((rd_T34 t159 x13_3).f1), .int .i64 ((rd_T34 t159 x13_3).f2.f0), .slice A173_3 ((rd_T34 t159 x13_3).f2.f1).length c173_3, .int .i64 ((rd_T34 t159 x13_3).f3), .int .i64 ((rd_T34 t159 x13_3).f4), .int .i64 0]) ?_ 6 _ rfl; (with_reducible repeat (first | refine blk_drewN ?_ _ | refine blk_drew ?_ | refine blk_alloc ?_ _)); refine blk_put (cs := #[.int .i64 ((rd_T34 t159 x13_3).f0), .string ((rd_T34 t159 x13_3).f1), .int .i64 ((rd_T34 t159 x13_3).f2.f0), .slice A173_3 ((rd_T34 t159 x13_3).f2.f1).length c173_3, .int .i64 ((rd_T34 t159 x13_3).f3), .int .i64 0, .int .i64 0]) ?_ 5 _ rfl; (with_reducible repeat (first | refine blk_drewN ?_ _ | refine blk_drew ?_ | refine blk_alloc ?_ _)); refine blk_put (cs := #[.int .i64 ((rd_T34 t159 x13_3).f0), .string ((rd_T34 t159 x13_3).f1), .int .i64 ((rd_T34 t159 x13_3).f2.f0), .slice A173_3 ((rd_T34 t159 x13_3).f2.f1).length c173_3, .int .i64 0, .int .i64 0, .int .i64 0]) ?_ 4 _ rfl; (with_reducible repeat (first | refine blk_drewN ?_ _ | refine blk_drew ?_ | refine blk_alloc ?_ _)); refine blk_put (cs := #[.int .i64 ((rd_T34 t159 x13_3).f0), .string ((rd_T34 t159 x13_3).f1), .int .i64 ((rd_T34 t159 x13_3).f2.f0), .slice none 0 0, .int .i64 0, .int .i64 0, .int .i64 0]) ?_ 3 _ rfl; (with_reducible repeat (first | refine blk_drewN ?_ _ | refine blk_drew ?_ | refine blk_alloc ?_ _)); refine blk_put (cs := #[.int .i64 ((rd_T34 t159 x13_3).f0), .string ((rd_T34 t159 x13_3).f1), .int .i64 0, .slice none 0 0, .int .i64 0, .int .i64 0, .int .i64 0]) ?_ 2 _ rfl; (with_reducible repeat (first | refine blk_drewN ?_ _ | refine blk_drew ?_ | refine blk_alloc ?_ _)); refine blk_put (cs := #[.int .i64 ((rd_T34 t159 x13_3).f0), .string (⟨#[]⟩ : ByteArray), .int .i64 0, .slice none 0 0, .int .i64 0, .int .i64 0, .int .i64 0]) ?_ 1 _ rfl; (with_reducible repeat (first | refine blk_drewN ?_ _ | refine blk_drew ?_ | refine blk_alloc ?_ _)); refine blk_put (cs := #[.int .i64 0, .string (⟨#[]⟩ : ByteArray), .int .i64 0, .slice none 0 0, .int .i64 0, .int .i64 0, .int .i64 0]) ?_ 0 _ rfl; (with_reducible repeat (first | refine blk_drewN ?_ _ | refine blk_drew ?_ | refine blk_alloc ?_ _)); exact BK174.out))⟩; have n4_ : Aside0 (Below w.heap.size w w47) := ⟨(by rw [hw]; exact (by repeat (first | (with_reducible first | exact HB.out | apply below_alloc | apply pw_below_drewN | apply below_drew1 | refine below_set ?_ GE174.out) | exact HB.out)))⟩; clear hw; clear HO_4; clear HO_10; clear HL173_3; clear BK174; clear HB; have HO_4 := n0_; have HO_10 := n1_; have HL173_3 := n2_; have BK174 := n3_; have HB := n4_; clear n0_ n1_ n2_ n3_ n4_; obtain ⟨Ao48, co48, eo48⟩ := Kd.S_slice HO_10.out; subst eo48; have p175 : 0 ≤ (x13_3 : Int) := of_decide_eq_true (by first | (with_reducible assumption) | assumption); have q175 : x13_3 < (t167.length : Int) := of_decide_eq_true (by first | (with_reducible assumption) | assumption); obtain ⟨ad175, A175_3, c175_3, e175, hx175_0, hx175_1, hx175_2, hx175_3, hx175_4, hx175_5, hx175_6, hl175_3, hi175_3⟩ := at_T34 (Kd.S_reads' HO_10.out).2.2 x13_3 p175 q175; cases e175; obtain ⟨ce175, hce175, hMe175, hcc175⟩ := Kd.S_get HO_10.out z34 x13_3 p175 (by first | exact q175 | exact of_decide_eq_true (by first | (with_reducible assumption) | assumption) | (have e_ := (Kd.S_reads' HO_10.out).1; omega)); obtain ⟨ve175_3, rfl, ge175_3⟩ := k34_openM hMe175; have hv175_3 := hcc175 3 _ rfl; rw [add_field _ _ 3 (by omega)] at hv175_3; replace hv175_3 := Option.some.inj (hv175_3.symm.trans hx175_3); rw [hv175_3] at ge175_3; have HL175_3 := Aside0.mk (show Kd.R k39 39 _ _ _ _ ((rd_T34 t167 x13_3).f2.f1) from ge175_3); clear hv175_3 ge175_3; clear hcc175 hce175; have HR175_3 := Aside0.mk hi175_3; have HC175_3 := Aside0.mk hl175_3; clear hi175_3 hl175_3; replace p175 := eq_true p175; replace q175 := eq_true q175; have hcz49_0 : w47.cell? ⟨gb174, 0, none⟩ = some (.int .i64 ((rd_T34 t159 x13_3).f0)) := (blk_cell BK174.out 0).trans rfl; have hcz49_1 : w47.cell? ⟨gb174, 1, none⟩ = some (.string ((rd_T34 t159 x13_3).f1)) := (blk_cell BK174.out 1).trans rfl; have hcz49_2 : w47.cell? ⟨gb174, 2, none⟩ = some (.int .i64 ((rd_T34 t159 x13_3).f2.f0)) := (blk_cell BK174.out 2).trans rfl; have hcz49_3 : w47.cell? ⟨gb174, 3, none⟩ = some (.slice A173_3 ((rd_T34 t159 x13_3).f2.f1).length c173_3) := (blk_cell BK174.out 3).trans rfl; have hcz49_4 : w47.cell? ⟨gb174, 4, none⟩ = some (.int .i64 ((rd_T34 t159 x13_3).f3)) := (blk_cell BK174.out 4).trans rfl; have hcz49_5 : w47.cell? ⟨gb174, 5, none⟩ = some (.int .i64 ((rd_T34 t159 x13_3).f4)) := (blk_cell BK174.out 5).trans rfl; have hcz49_6 : w47.cell? ⟨gb174, 6, none⟩ = some (.int .i64 ((rd_T34 t159 x13_3).f5)) := (blk_cell BK174.out 6).trans rfl; have hfz49_0 := blk_frozen BK174.out 0; have hfz49_1 := blk_frozen BK174.out 1; have hfz49_2 := blk_frozen BK174.out 2; have hfz49_3 := blk_frozen BK174.out 3; have hfz49_4 := blk_frozen BK174.out 4; have hfz49_5 := blk_frozen BK174.out 5; have hfz49_6 := blk_frozen BK174.out 6) | ((with_reducible refine gate_store (t := 3) (p := 88) rfl ?_); refine store_event (t := 3) (p := 88) (v := ?vo_w50) (w1 := (w47.setCell ⟨gb174, 5, none⟩ (.int .i64 ((rd_T34 t167 x13_3).f4)))) ?hg ?ho ?hn ?hr ?_; (case ho => rfl); (case hg => rfl); (case hn => rfl); (case hr => first | (go_simp; done) | (go_simp; rfl)); intro w50 hw; have n0_ : Aside0 (Kd.S k34 34 w50 w.heap.size (fun k_ => some k_ ≠ (.slice (some ad175) t167.length co48 : Value).ownBlock) (.slice (some ad173) t159.length co10) t159) := ⟨(by rw [hw]; exact (by (with_reducible repeat (first | apply Kd.S_alloc | apply Kd.S_drewN | apply Kd.S_drew)); exact Kd.S_mono (Kd.S_far (p := ⟨gb174, 5, none⟩) (Kd.S_types HO_4.out BK174.out (by decide)) (fun _ hk => hk.2) (.int .i64 ((rd_T34 t167 x13_3).f4))) (fun _ hk => hk.1)))⟩; have n1_ : Aside0 (Kd.S k34 34 w50 w.heap.size (fun k_ => some k_ ≠ (.slice (some ad173) t159.length co10 : Value).ownBlock) (.slice (some ad175) t167.length co48) t167) := ⟨(by rw [hw]; exact (by (with_reducible repeat (first | apply Kd.S_alloc | apply Kd.S_drewN | apply Kd.S_drew)); exact Kd.S_mono (Kd.S_far (p := ⟨gb174, 5, none⟩) (Kd.S_types HO_10.out BK174.out (by decide)) (fun _ hk => hk.2) (.int .i64 ((rd_T34 t167 x13_3).f4))) (fun _ hk => hk.1)))⟩; have n2_ : Aside0 (Kd.R k39 39 w50 w.heap.size (fun k_ => some k_ ≠ (.slice (some ad173) t159.length co10 : Value).ownBlock ∧ some k_ ≠ (.slice (some ad175) t167.length co48 : Value).ownBlock) (.slice A173_3 ((rd_T34 t159 x13_3).f2.f1).length c173_3) ((rd_T34 t159 x13_3).f2.f1)) := ⟨(by rw [hw]; exact (by (with_reducible repeat (first | apply Kd.R_alloc | apply Kd.R_drewN | apply Kd.R_drew)); exact Kd.R_mono (Kd.R_far (p := ⟨gb174, 5, none⟩) (Kd.R_types HL173_3.out BK174.out (by decide)) (fun _ hk => hk.2) (.int .i64 ((rd_T34 t167 x13_3).f4))) (fun _ hk => ⟨hk.1.1, hk.1.2⟩)))⟩; have n3_ : Aside0 (Kd.R k39 39 w50 w.heap.size (fun k_ => some k_ ≠ (.slice (some ad173) t159.length co10 : Value).ownBlock ∧ some k_ ≠ (.slice (some ad175) t167.length co48 : Value).ownBlock) (.slice A175_3 ((rd_T34 t167 x13_3).f2.f1).length c175_3) ((rd_T34 t167 x13_3).f2.f1)) := ⟨(by rw [hw]; exact (by (with_reducible repeat (first | apply Kd.R_alloc | apply Kd.R_drewN | apply Kd.R_drew)); exact Kd.R_mono (Kd.R_far (p := ⟨gb174, 5, none⟩) (Kd.R_types HL175_3.out BK174.out (by decide)) (fun _ hk => hk.2) (.int .i64 ((rd_T34 t167 x13_3).f4))) (fun _ hk => ⟨hk.1.1, hk.1.2⟩)))⟩; have n4_ : Aside0 (w50.heap[gb174]? = some (.cells #[.int .i64 ((rd_T34 t159 x13_3).f0), .string ((rd_T34 t159 x13_3).f1), .int .i64 ((rd_T34 t159 x13_3).f2.f0), .slice A173_3 ((rd_T34 t159 x13_3).f2.f1).length c173_3, .int .i64 ((rd_T34 t159 x13_3).f3), .int .i64 ((rd_T34 t167 x13_3).f4), .int .i64 ((rd_T34 t159 x13_3).f5)] 33 (0, 0))) := ⟨(by rw [hw]; exact (by (with_reducible repeat (first | refine blk_drewN ?_ _ | refine blk_drew ?_ | refine blk_alloc ?_ _)); refine blk_put (cs := #[.int .i64 ((rd_T34 t159 x13_3).f0), .string ((rd_T34 t159 x13_3).f1), .int .i64 ((rd_T34 t159 x13_3).f2.f0), .slice A173_3 ((rd_T34 t159 x13_3).f2.f1).length c173_3, .int .i64 ((rd_T34 t159 x13_3).f3), .int .i64 ((rd_T34 t159 x13_3).f4), .int .i64 ((rd_T34 t159 x13_3).f5)]) ?_ 5 _ rfl; (with_reducible repeat (first | refine blk_drewN ?_ _ | refine blk_drew ?_ | refine blk_alloc ?_ _)); exact BK174.out))⟩; have n5_ : Aside0 (Below w.heap.size w w50) := ⟨(by rw [hw]; exact (by repeat (first | (with_reducible first | exact HB.out | apply below_alloc | apply pw_below_drewN | apply below_drew1 | refine below_set ?_ GE174.out) | exact HB.out)))⟩; clear hw; clear HO_4; clear HO_10; clear HL173_3; clear HL175_3; clear BK174; clear HB; have HO_4 := n0_; have HO_10 := n1_; have HL173_3 := n2_; have HL175_3 := n3_; have BK174 := n4_; have HB := n5_; clear n0_ n1_ n2_ n3_ n4_ n5_; have p176 : 0 ≤ (x13_3 : Int) := of_decide_eq_true (by first | (with_reducible assumption) | assumption); have q176 : x13_3 < (t167.length : Int) := of_decide_eq_true (by first | (with_reducible assumption) | assumption); obtain ⟨ad176, A176_3, c176_3, e176, hx176_0, hx176_1, hx176_2, hx176_3, hx176_4, hx176_5, hx176_6, hl176_3, hi176_3⟩ := at_T34 (Kd.S_reads' HO_10.out).2.2 x13_3 p176 q176; obtain rfl : ad175 = ad176 := (by injection e176); obtain ⟨ce176, hce176, hMe176, hcc176⟩ := Kd.S_get HO_10.out z34 x13_3 p176 (by first | exact q176 | exact of_decide_eq_true (by first | (with_reducible assumption) | assumption) | (have e_ := (Kd.S_reads' HO_10.out).1; omega)); obtain ⟨ve176_3, rfl, ge176_3⟩ := k34_openM hMe176; have hv176_3 := hcc176 3 _ rfl; rw [add_field _ _ 3 (by omega)] at hv176_3; replace hv176_3 := Option.some.inj (hv176_3.symm.trans hx176_3); rw [hv176_3] at ge176_3; have HL176_3 := Aside0.mk (show Kd.R k39 39 _ _ _ _ ((rd_T34 t167 x13_3).f2.f1) from ge176_3); clear hv176_3 ge176_3; clear hcc176 hce176; have HR176_3 := Aside0.mk hi176_3; have HC176_3 := Aside0.mk hl176_3; clear hi176_3 hl176_3; replace p176 := eq_true p176; replace q176 := eq_true q176; have hcz51_0 : w50.cell? ⟨gb174, 0, none⟩ = some (.int .i64 ((rd_T34 t159 x13_3).f0)) := (blk_cell BK174.out 0).trans rfl; have hcz51_1 : w50.cell? ⟨gb174, 1, none⟩ = some (.string ((rd_T34 t159 x13_3).f1)) := (blk_cell BK174.out 1).trans rfl; have hcz51_2 : w50.cell? ⟨gb174, 2, none⟩ = some (.int .i64 ((rd_T34 t159 x13_3).f2.f0)) := (blk_cell BK174.out 2).trans rfl; have hcz51_3 : w50.cell? ⟨gb174, 3, none⟩ = some (.slice A173_3 ((rd_T34 t159 x13_3).f2.f1).length c173_3) := (blk_cell BK174.out 3).trans rfl; have hcz51_4 : w50.cell? ⟨gb174, 4, none⟩ = some (.int .i64 ((rd_T34 t159 x13_3).f3)) := (blk_cell BK174.out 4).trans rfl; have hcz51_5 : w50.cell? ⟨gb174, 5, none⟩ = some (.int .i64 ((rd_T34 t167 x13_3).f4)) := (blk_cell BK174.out 5).trans rfl; have hcz51_6 : w50.cell? ⟨gb174, 6, none⟩ = some (.int .i64 ((rd_T34 t159 x13_3).f5)) := (blk_cell BK174.out 6).trans rfl; have hfz51_0 := blk_frozen BK174.out 0; have hfz51_1 := blk_frozen BK174.out 1; have hfz51_2 := blk_frozen BK174.out 2; have hfz51_3 := blk_frozen BK174.out 3; have hfz51_4 := blk_frozen BK174.out 4; have hfz51_5 := blk_frozen BK174.out 5; have hfz51_6 := blk_frozen BK174.out 6))
               have n0_ : Aside0 (Kd.S k34 34 (w50.setCell ⟨gb174, 6, none⟩ (.int .i64 ((rd_T34 t167 x13_3).f5))) w.heap.size (fun k_ => some k_ ≠ (.slice (some ad175) t167.length co48 : Value).ownBlock) (.slice (some ad173) t159.length co10) t159) := ⟨by (with_reducible repeat (first | apply Kd.S_alloc | apply Kd.S_drewN | apply Kd.S_drew)); exact Kd.S_mono (Kd.S_far (p := ⟨gb174, 6, none⟩) (Kd.S_types HO_4.out BK174.out (by decide)) (fun _ hk => hk.2) (.int .i64 ((rd_T34 t167 x13_3).f5))) (fun _ hk => hk.1)⟩
               have n1_ : Aside0 (Kd.S k34 34 (w50.setCell ⟨gb174, 6, none⟩ (.int .i64 ((rd_T34 t167 x13_3).f5))) w.heap.size (fun k_ => some k_ ≠ (.slice (some ad173) t159.length co10 : Value).ownBlock) (.slice (some ad175) t167.length co48) t167) := ⟨by (with_reducible repeat (first | apply Kd.S_alloc | apply Kd.S_drewN | apply Kd.S_drew)); exact Kd.S_mono (Kd.S_far (p := ⟨gb174, 6, none⟩) (Kd.S_types HO_10.out BK174.out (by decide)) (fun _ hk => hk.2) (.int .i64 ((rd_T34 t167 x13_3).f5))) (fun _ hk => hk.1)⟩
               have n2_ : Aside0 (Kd.R k39 39 (w50.setCell ⟨gb174, 6, none⟩ (.int .i64 ((rd_T34 t167 x13_3).f5))) w.heap.size (fun k_ => some k_ ≠ (.slice (some ad173) t159.length co10 : Value).ownBlock ∧ some k_ ≠ (.slice (some ad175) t167.length co48 : Value).ownBlock) (.slice A173_3 ((rd_T34 t159 x13_3).f2.f1).length c173_3) ((rd_T34 t159 x13_3).f2.f1)) := ⟨by (with_reducible repeat (first | apply Kd.R_alloc | apply Kd.R_drewN | apply Kd.R_drew)); exact Kd.R_mono (Kd.R_far (p := ⟨gb174, 6, none⟩) (Kd.R_types HL173_3.out BK174.out (by decide)) (fun _ hk => hk.2) (.int .i64 ((rd_T34 t167 x13_3).f5))) (fun _ hk => ⟨hk.1.1, hk.1.2⟩)⟩
               have n3_ : Aside0 (Kd.R k39 39 (w50.setCell ⟨gb174, 6, none⟩ (.int .i64 ((rd_T34 t167 x13_3).f5))) w.heap.size (fun k_ => some k_ ≠ (.slice (some ad173) t159.length co10 : Value).ownBlock ∧ some k_ ≠ (.slice (some ad175) t167.length co48 : Value).ownBlock) (.slice A175_3 ((rd_T34 t167 x13_3).f2.f1).length c175_3) ((rd_T34 t167 x13_3).f2.f1)) := ⟨by (with_reducible repeat (first | apply Kd.R_alloc | apply Kd.R_drewN | apply Kd.R_drew)); exact Kd.R_mono (Kd.R_far (p := ⟨gb174, 6, none⟩) (Kd.R_types HL175_3.out BK174.out (by decide)) (fun _ hk => hk.2) (.int .i64 ((rd_T34 t167 x13_3).f5))) (fun _ hk => ⟨hk.1.1, hk.1.2⟩)⟩
               have n4_ : Aside0 (Kd.R k39 39 (w50.setCell ⟨gb174, 6, none⟩ (.int .i64 ((rd_T34 t167 x13_3).f5))) w.heap.size (fun k_ => some k_ ≠ (.slice (some ad173) t159.length co10 : Value).ownBlock ∧ some k_ ≠ (.slice (some ad175) t167.length co48 : Value).ownBlock) (.slice A176_3 ((rd_T34 t167 x13_3).f2.f1).length c176_3) ((rd_T34 t167 x13_3).f2.f1)) := ⟨by (with_reducible repeat (first | apply Kd.R_alloc | apply Kd.R_drewN | apply Kd.R_drew)); exact Kd.R_mono (Kd.R_far (p := ⟨gb174, 6, none⟩) (Kd.R_types HL176_3.out BK174.out (by decide)) (fun _ hk => hk.2) (.int .i64 ((rd_T34 t167 x13_3).f5))) (fun _ hk => ⟨hk.1.1, hk.1.2⟩)⟩
               have n5_ : Aside0 ((w50.setCell ⟨gb174, 6, none⟩ (.int .i64 ((rd_T34 t167 x13_3).f5))).heap[gb174]? = some (.cells #[.int .i64 ((rd_T34 t159 x13_3).f0), .string ((rd_T34 t159 x13_3).f1), .int .i64 ((rd_T34 t159 x13_3).f2.f0), .slice A173_3 ((rd_T34 t159 x13_3).f2.f1).length c173_3, .int .i64 ((rd_T34 t159 x13_3).f3), .int .i64 ((rd_T34 t167 x13_3).f4), .int .i64 ((rd_T34 t167 x13_3).f5)] 33 (0, 0))) := ⟨by (with_reducible repeat (first | refine blk_drewN ?_ _ | refine blk_drew ?_ | refine blk_alloc ?_ _)); refine blk_put (cs := #[.int .i64 ((rd_T34 t159 x13_3).f0), .string ((rd_T34 t159 x13_3).f1), .int .i64 ((rd_T34 t159 x13_3).f2.f0), .slice A173_3 ((rd_T34 t159 x13_3).f2.f1).length c173_3, .int .i64 ((rd_T34 t159 x13_3).f3), .int .i64 ((rd_T34 t167 x13_3).f4), .int .i64 ((rd_T34 t159 x13_3).f5)]) ?_ 6 _ rfl; (with_reducible repeat (first | refine blk_drewN ?_ _ | refine blk_drew ?_ | refine blk_alloc ?_ _)); exact BK174.out⟩
               have n6_ : Aside0 (Below w.heap.size w (w50.setCell ⟨gb174, 6, none⟩ (.int .i64 ((rd_T34 t167 x13_3).f5)))) := ⟨by repeat (first | (with_reducible first | exact HB.out | apply below_alloc | apply pw_below_drewN | apply below_drew1 | refine below_set ?_ GE174.out) | exact HB.out)⟩
               (try clear HO_4)
               (try clear HO_10)
               (try clear HL173_3)
               (try clear HL175_3)
               (try clear HL176_3)
               (try clear BK174)
               (try clear HB)
               generalize (w50.setCell ⟨gb174, 6, none⟩ (.int .i64 ((rd_T34 t167 x13_3).f5))) = w52 at n0_ n1_ n2_ n3_ n4_ n5_ n6_ ⊢
               have HO_4 := n0_
               have HO_10 := n1_
               have HL173_3 := n2_
               have HL175_3 := n3_
               have HL176_3 := n4_
               have BK174 := n5_
               have HB := n6_
               clear n0_ n1_ n2_ n3_ n4_ n5_ n6_
               have n0_ := Aside0.mk (Kd.S_drew HO_4.out)
               have n1_ := Aside0.mk (Kd.S_drew HO_10.out)
               have n2_ := Aside0.mk (Kd.R_drew HL173_3.out)
               have n3_ := Aside0.mk (Kd.R_drew HL175_3.out)
               have n4_ := Aside0.mk (Kd.R_drew HL176_3.out)
               have n5_ := Aside0.mk (blk_drew BK174.out)
               have n6_ := Aside0.mk (below_drew1 HB.out)
               clear HO_4
               clear HO_10
               clear HL173_3
               clear HL175_3
               clear HL176_3
               clear BK174
               clear HB
               have HO_4 := n0_
               have HO_10 := n1_
               have HL173_3 := n2_
               have HL175_3 := n3_
               have HL176_3 := n4_
               have BK174 := n5_
               have HB := n6_
               clear n0_ n1_ n2_ n3_ n4_ n5_ n6_
               have p177 : 0 ≤ (x13_3 : Int) := of_decide_eq_true (by first | (with_reducible assumption) | assumption)
               have q177 : x13_3 < (t167.length : Int) := of_decide_eq_true (by first | (with_reducible assumption) | assumption)
               obtain ⟨ad177, A177_3, c177_3, e177, hx177_0, hx177_1, hx177_2, hx177_3, hx177_4, hx177_5, hx177_6, hl177_3, hi177_3⟩ := at_T34 (Kd.S_reads' HO_10.out).2.2 x13_3 p177 q177
               obtain rfl : ad175 = ad177 := (by injection e177)
               obtain ⟨ce177, hce177, hMe177, hcc177⟩ := Kd.S_get HO_10.out z34 x13_3 p177 (by first | exact q177 | exact of_decide_eq_true (by first | (with_reducible assumption) | assumption) | (have e_ := (Kd.S_reads' HO_10.out).1; omega))
               obtain ⟨ve177_3, rfl, ge177_3⟩ := k34_openM hMe177
               have hv177_3 := hcc177 3 _ rfl
               rw [add_field _ _ 3 (by omega)] at hv177_3
               replace hv177_3 := Option.some.inj (hv177_3.symm.trans hx177_3)
               rw [hv177_3] at ge177_3
               have HL177_3 := Aside0.mk (show Kd.R k39 39 _ _ _ _ ((rd_T34 t167 x13_3).f2.f1) from ge177_3)
               clear hv177_3 ge177_3
               clear hcc177 hce177
               have HR177_3 := Aside0.mk hi177_3
               have HC177_3 := Aside0.mk hl177_3
               clear hi177_3 hl177_3
               replace p177 := eq_true p177
               replace q177 := eq_true q177
               refine start_ (n := 7) (S := fun w' => w'.cell? ⟨gb174, 0, none⟩ = some (.int .i64 ((rd_T34 t159 x13_3).f0)) ∧ w'.cell? ⟨gb174, 1, none⟩ = some (.string ((rd_T34 t159 x13_3).f1)) ∧ w'.cell? ⟨gb174, 2, none⟩ = some (.int .i64 ((rd_T34 t159 x13_3).f2.f0)) ∧ w'.cell? ⟨gb174, 3, none⟩ = some (.slice A173_3 ((rd_T34 t159 x13_3).f2.f1).length c173_3) ∧ w'.cell? ⟨gb174, 4, none⟩ = some (.int .i64 ((rd_T34 t159 x13_3).f3)) ∧ w'.cell? ⟨gb174, 5, none⟩ = some (.int .i64 ((rd_T34 t167 x13_3).f4)) ∧ w'.cell? ⟨gb174, 6, none⟩ = some (.int .i64 ((rd_T34 t167 x13_3).f5)) ∧ w'.cell? (ad175.add ((x13_3).toNat * 7)) = some (.int .i64 ((rd_T34 t167 x13_3).f0)) ∧ w'.cell? ⟨(ad175.add ((x13_3).toNat * 7)).block, (ad175.add ((x13_3).toNat * 7)).off + 1, none⟩ = some (.string ((rd_T34 t167 x13_3).f1)) ∧ w'.cell? ⟨(ad175.add ((x13_3).toNat * 7)).block, (ad175.add ((x13_3).toNat * 7)).off + 2, none⟩ = some (.int .i64 ((rd_T34 t167 x13_3).f2.f0)) ∧ w'.cell? ⟨(ad175.add ((x13_3).toNat * 7)).block, (ad175.add ((x13_3).toNat * 7)).off + 3, none⟩ = some (.slice A177_3 ((rd_T34 t167 x13_3).f2.f1).length c177_3) ∧ w'.cell? ⟨(ad175.add ((x13_3).toNat * 7)).block, (ad175.add ((x13_3).toNat * 7)).off + 4, none⟩ = some (.int .i64 ((rd_T34 t167 x13_3).f3)) ∧ w'.cell? ⟨(ad175.add ((x13_3).toNat * 7)).block, (ad175.add ((x13_3).toNat * 7)).off + 5, none⟩ = some (.int .i64 ((rd_T34 t167 x13_3).f4)) ∧ w'.cell? ⟨(ad175.add ((x13_3).toNat * 7)).block, (ad175.add ((x13_3).toNat * 7)).off + 6, none⟩ = some (.int .i64 ((rd_T34 t167 x13_3).f5))) (ds := []) #[false, false, false, false, false, false, false] (by kernel_rfl) rfl rfl ⟨(blk_cell BK174.out 0).trans rfl, (blk_cell BK174.out 1).trans rfl, (blk_cell BK174.out 2).trans rfl, (blk_cell BK174.out 3).trans rfl, (blk_cell BK174.out 4).trans rfl, (blk_cell BK174.out 5).trans rfl, (blk_cell BK174.out 6).trans rfl, hx177_0, hx177_1, hx177_2, hx177_3, hx177_4, hx177_5, hx177_6⟩ (fun hHeld => ?_)
               generalize w52.drew = w53 at HO_4 HO_10 HL173_3 HL175_3 HL176_3 BK174 HB HL177_3 HR177_3 hx177_0 hx177_1 hx177_2 hx177_3 hx177_4 hx177_5 hx177_6 hHeld ⊢
               refine pure_ (i := 0) (N := some 95) (v := ?_) (a' := ?_) #[true, false, false, false, false, false, false] rfl rfl (by kernel_rfl) (fun _ _ _ h => h) (Or.inl ⟨by rfl, ?_⟩) ?_ ?_
               rotate_left
               ·intro w'
                go_simp
                with_reducible rfl
               rotate_left
               ·simp only [Act.put, List.setIfInBounds_toArray, List.set_cons_zero, List.set_cons_succ, i64_w, i32_w]
                rfl
               refine pure_ (i := 1) (N := some 96) (v := ?_) (a' := ?_) #[true, true, false, false, false, false, false] rfl rfl (by kernel_rfl) (fun _ _ _ h => h) (Or.inl ⟨by rfl, ?_⟩) ?_ ?_
               rotate_left
               ·intro w'
                go_simp
                with_reducible rfl
               rotate_left
               ·simp only [Act.put, List.setIfInBounds_toArray, List.set_cons_zero, List.set_cons_succ, i64_w, i32_w]
                rfl
               refine pure_ (i := 2) (N := some 97) (v := ?_) (a' := ?_) #[true, true, true, false, false, false, false] rfl rfl (by kernel_rfl) (fun _ _ _ h => h) (Or.inl ⟨by rfl, ?_⟩) ?_ ?_
               rotate_left
               ·intro w'
                go_simp
                with_reducible rfl
               rotate_left
               ·simp only [Act.put, List.setIfInBounds_toArray, List.set_cons_zero, List.set_cons_succ, i64_w, i32_w]
                rfl
               refine take_ (i := 3) (N := some 98) (v := ?_) (a' := ?_) #[true, true, true, true, false, false, false] rfl rfl (by kernel_rfl) (fun _ _ _ h => h) (Or.inl ⟨by rfl, ?_⟩) hHeld ?_ ?_
               rotate_left
               ·rintro w' ⟨s0, s1, s2, s3, s4, s5, s6, s7, s8, s9, s10, s11, s12, s13⟩
                go_simp
                with_reducible rfl
               rotate_left
               ·simp only [Act.put, List.setIfInBounds_toArray, List.set_cons_zero, List.set_cons_succ, i64_w, i32_w]
                rfl
               refine take_ (i := 4) (N := some 99) (v := ?_) (a' := ?_) #[true, true, true, true, true, false, false] rfl rfl (by kernel_rfl) (fun _ _ _ h => h) (Or.inl ⟨by rfl, ?_⟩) hHeld ?_ ?_
               rotate_left
               ·rintro w' ⟨s0, s1, s2, s3, s4, s5, s6, s7, s8, s9, s10, s11, s12, s13⟩
                go_simp
                with_reducible rfl
               rotate_left
               ·simp only [Act.put, List.setIfInBounds_toArray, List.set_cons_zero, List.set_cons_succ, i64_w, i32_w]
                rfl
               refine one_ (i := 5) (N := some 100) #[true, true, true, true, true, true, false] rfl rfl (by kernel_rfl) (by decide) (fun K hK => ?_)
               refine goes_ Tryd.func12 (by kernel_rfl) rfl #[.agg #[.int .i64 ((rd_T34 t167 x13_3).f0), .string ((rd_T34 t167 x13_3).f1), .int .i64 ((rd_T34 t167 x13_3).f2.f0), .slice A177_3 ((rd_T34 t167 x13_3).f2.f1).length c177_3, .int .i64 ((rd_T34 t167 x13_3).f3), .int .i64 ((rd_T34 t167 x13_3).f4), .int .i64 ((rd_T34 t167 x13_3).f5)], .agg #[.int .i64 ((rd_T34 t159 x13_3).f0), .string ((rd_T34 t159 x13_3).f1), .int .i64 ((rd_T34 t159 x13_3).f2.f0), .slice A173_3 ((rd_T34 t159 x13_3).f2.f1).length c173_3, .int .i64 ((rd_T34 t159 x13_3).f3), .int .i64 ((rd_T34 t167 x13_3).f4), .int .i64 ((rd_T34 t167 x13_3).f5)]] (by rfl) rfl rfl (by (try simp only [List.map_toArray, List.map_cons, List.map_nil]); first | done | rfl | (simp only [List.length_drop, List.length_take]; rfl)) ?_
               with_reducible refine (carcanetref25_Same.calls k3 ((rd_T34 t167 x13_3).f0) ((rd_T34 t167 x13_3).f1) ((rd_T34 t167 x13_3).f2.f0) _ _ ((rd_T34 t167 x13_3).f2.f1) ((rd_T34 t167 x13_3).f3) ((rd_T34 t167 x13_3).f4) ((rd_T34 t167 x13_3).f5) ((rd_T34 t159 x13_3).f0) ((rd_T34 t159 x13_3).f1) ((rd_T34 t159 x13_3).f2.f0) _ _ ((rd_T34 t159 x13_3).f2.f1) ((rd_T34 t159 x13_3).f3) ((rd_T34 t167 x13_3).f4) ((rd_T34 t167 x13_3).f5) false _ ?side1 ?side2 ?side3 ?side4 A33.out).mono ?_
               (case side1 => repeat (first | exact (by repeat (first | (with_reducible exact HR177_3.out) | (with_reducible refine Kd.C_alloc ?_ _) | (with_reducible refine Kd.C_drewN ?_ _) | (with_reducible refine Kd.C_drew ?_) | exact HR177_3.out)) | (with_reducible refine Kd.C_alloc ?_ _) | (with_reducible refine Kd.C_drewN ?_ _) | (with_reducible refine Kd.C_drew ?_)))
               (case side2 => exact HC177_3.out)
               (case side3 => repeat (first | exact ((Kd.R_reads' (by (with_reducible repeat (first | apply Kd.R_alloc | apply Kd.R_drewN | apply Kd.R_drew)); exact HL173_3.out)).2.2) | (with_reducible refine Kd.C_alloc ?_ _) | (with_reducible refine Kd.C_drewN ?_ _) | (with_reducible refine Kd.C_drew ?_)))
               (case side4 => exact HC173_3.out)
               rintro e w54 ⟨rfl, hb⟩
               have HS7_ := (hb.cell (World.block_lt_of_cell? _ _ (hHeld.2.2.2.2.2.2.2.1))).trans (hHeld.2.2.2.2.2.2.2.1)
               have HS8_ := (hb.cell (World.block_lt_of_cell? _ _ (hHeld.2.2.2.2.2.2.2.2.1))).trans (hHeld.2.2.2.2.2.2.2.2.1)
               have HS9_ := (hb.cell (World.block_lt_of_cell? _ _ (hHeld.2.2.2.2.2.2.2.2.2.1))).trans (hHeld.2.2.2.2.2.2.2.2.2.1)
               have HS10_ := (hb.cell (World.block_lt_of_cell? _ _ (hHeld.2.2.2.2.2.2.2.2.2.2.1))).trans (hHeld.2.2.2.2.2.2.2.2.2.2.1)
               have HS11_ := (hb.cell (World.block_lt_of_cell? _ _ (hHeld.2.2.2.2.2.2.2.2.2.2.2.1))).trans (hHeld.2.2.2.2.2.2.2.2.2.2.2.1)
               have HS12_ := (hb.cell (World.block_lt_of_cell? _ _ (hHeld.2.2.2.2.2.2.2.2.2.2.2.2.1))).trans (hHeld.2.2.2.2.2.2.2.2.2.2.2.2.1)
               have HS13_ := (hb.cell (World.block_lt_of_cell? _ _ (hHeld.2.2.2.2.2.2.2.2.2.2.2.2.2))).trans (hHeld.2.2.2.2.2.2.2.2.2.2.2.2.2)
               refine ⟨_, rfl, ?_⟩
               have n0_ := Aside0.mk (Kd.S_below (by (with_reducible repeat (first | apply Kd.S_alloc | apply Kd.S_drewN | apply Kd.S_drew)); exact HO_4.out) hb)
               have n1_ := Aside0.mk (Kd.S_below (by (with_reducible repeat (first | apply Kd.S_alloc | apply Kd.S_drewN | apply Kd.S_drew)); exact HO_10.out) hb)
               have n2_ := Aside0.mk (Kd.R_below (by (with_reducible repeat (first | apply Kd.R_alloc | apply Kd.R_drewN | apply Kd.R_drew)); exact HL173_3.out) hb)
               have n3_ := Aside0.mk (Kd.R_below (by (with_reducible repeat (first | apply Kd.R_alloc | apply Kd.R_drewN | apply Kd.R_drew)); exact HL175_3.out) hb)
               have n4_ := Aside0.mk (Kd.R_below (by (with_reducible repeat (first | apply Kd.R_alloc | apply Kd.R_drewN | apply Kd.R_drew)); exact HL176_3.out) hb)
               have n5_ := Aside0.mk (Kd.R_below (by (with_reducible repeat (first | apply Kd.R_alloc | apply Kd.R_drewN | apply Kd.R_drew)); exact HL177_3.out) hb)
               have n6_ := Aside0.mk (blk_below (g := gb174) (o := .cells #[.int .i64 ((rd_T34 t159 x13_3).f0), .string ((rd_T34 t159 x13_3).f1), .int .i64 ((rd_T34 t159 x13_3).f2.f0), .slice A173_3 ((rd_T34 t159 x13_3).f2.f1).length c173_3, .int .i64 ((rd_T34 t159 x13_3).f3), .int .i64 ((rd_T34 t167 x13_3).f4), .int .i64 ((rd_T34 t167 x13_3).f5)] 33 (0, 0)) (by (with_reducible repeat (first | refine blk_drewN ?_ _ | refine blk_drew ?_ | refine blk_alloc ?_ _)); exact BK174.out) hb)
               have n7_ := Aside0.mk (Kd.C_below (by repeat (first | (with_reducible exact HR177_3.out) | (with_reducible refine Kd.C_alloc ?_ _) | (with_reducible refine Kd.C_drewN ?_ _) | (with_reducible refine Kd.C_drew ?_) | exact HR177_3.out)) hb)
               have n8_ := Aside0.mk (below_step (by repeat (first | (with_reducible first | exact HB.out | apply below_alloc | apply pw_below_drewN | apply below_drew1 | refine below_set ?_ GE174.out) | exact HB.out)) hb)
               clear HO_4
               clear HO_10
               clear HL173_3
               clear HL175_3
               clear HL176_3
               clear HL177_3
               clear BK174
               clear HR177_3
               clear HB
               have HO_4 := n0_
               have HO_10 := n1_
               have HL173_3 := n2_
               have HL175_3 := n3_
               have HL176_3 := n4_
               have HL177_3 := n5_
               have BK174 := n6_
               have HR177_3 := n7_
               have HB := n8_
               clear n0_ n1_ n2_ n3_ n4_ n5_ n6_ n7_ n8_
               (try clear hb)
               (try clear hb2)
               (try clear hk)
               (try clear hi)
               refine hK.out _ _ ⟨(blk_cell BK174.out 0).trans rfl, (blk_cell BK174.out 1).trans rfl, (blk_cell BK174.out 2).trans rfl, (blk_cell BK174.out 3).trans rfl, (blk_cell BK174.out 4).trans rfl, (blk_cell BK174.out 5).trans rfl, (blk_cell BK174.out 6).trans rfl, HS7_, HS8_, HS9_, HS10_, HS11_, HS12_, HS13_⟩ (fun hHeld => ?_)
               clear hK K
               refine norm_ (a' := ?_) ?_ ?_
               rotate_left
               ·show Act.put _ (some 100) _ = _
                simp only [Act.put, List.setIfInBounds_toArray, List.set_cons_zero, List.set_cons_succ, i64_w, i32_w]
                rfl
               refine pure_ (i := 6) (N := some 101) (v := ?_) (a' := ?_) #[true, true, true, true, true, true, true] rfl rfl (by kernel_rfl) (fun _ _ _ h => h) (Or.inl ⟨by rfl, ?_⟩) ?_ ?_
               rotate_left
               ·intro w'
                go_simp
                with_reducible rfl
               rotate_left
               ·simp only [Act.put, List.setIfInBounds_toArray, List.set_cons_zero, List.set_cons_succ, i64_w, i32_w]
                rfl
               refine done_ (by kernel_rfl) ?_
               try go_wp2
               go_ret
               exact ⟨by first | rfl | (simp [errW_none, errW_some] <;> rfl) | (simp only [← hji3]; first | rfl | (simp [errW_none, errW_some] <;> rfl)) | (simp [*, errW_none, errW_some] <;> rfl), by repeat (first | (with_reducible first | exact HB.out | apply below_alloc | apply pw_below_drewN | apply below_drew1 | refine below_set ?_ GE174.out) | exact HB.out)⟩
             ·rw [if_neg c32] at H
              exact absurd H (by simp)
            ·rw [if_neg c31] at H
             exact absurd H (by simp)
           ·rw [if_neg c30] at H
            have c30b0 : decide (x13_3 < (t159.length : Int)) = false := decide_eq_false c30
            clear c30
            obtain rfl := Option.some.inj H
            go_wp2
            go_ret
            exact ⟨by first | rfl | (simp [errW_none, errW_some] <;> rfl) | (simp only [← hji3]; first | rfl | (simp [errW_none, errW_some] <;> rfl)) | (simp [*, errW_none, errW_some] <;> rfl), by repeat (first | (with_reducible first | exact HB.out | apply below_alloc | apply pw_below_drewN | apply below_drew1) | exact HB.out)⟩
  ·rw [if_neg c5] at H
   exact absurd H (by simp)
 ·rw [if_neg c4] at H
  exact absurd H (by simp)

end Go.Proofs.YtmdmdbiinngneaaDoor.Q
