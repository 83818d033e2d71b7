-- Laid by prx.py (ours), out of the translation's print. Not trusted: Lean checks it.
import Derived.Test.YtmdmdbiinngneaaDoorQ0
import Derived.Test.YtmdmdbiinngneaaDoorQ6
import Derived.Test.YtmdmdbiinngneaaDoorQ11
import Derived.Test.YtmdmdbiinngneaaDoorQ13
import Derived.Test.YtmdmdbiinngneaaDoorQ16
namespace Go.Proofs.YtmdmdbiinngneaaDoor.Q
open Go.RowKit Go.Proofs.YtmdmdbiinngneaaDoorW.PrintWords Go.Proofs.YtmdmdbiinngneaaDoorW.PrintLast Go.Proofs.YtmdmdbiinngneaaDoorW.PrintMore
attribute [local go_sem] max2_int min2_int max_two min_two max_three min_three max_four min_four   -- for this text's walks alone
set_option linter.unusedVariables false
set_option linter.unusedSimpArgs false

/-! ### carcanetlaw25_ScriptLines: function 5 -/
mutual
def carcanetlaw25_ScriptLines.j0 : Nat → ByteArray → Bool → List (S34) → List (S34) → List (S34) → Option (Bool)
 | 0, _, _, _, _, _ => none
 | k + 1, x0, x5, x6, x9, x12 => carcanetlaw25_ScriptLines.l0 k x0 x5 x6 x9 x12 0
def carcanetlaw25_ScriptLines.l0 : Nat → ByteArray → Bool → List (S34) → List (S34) → List (S34) → Int → Option (Bool)
 | 0, _, _, _, _, _, _ => none
 | k + 1, x0, x5, x6, x9, x12, x16 => if x16 < (x12.length : Int) then (if x16 < (x6.length : Int) then (if 0 ≤ x16 then ((carcanetref25_Same.f k ((rd_T34 x12 x16).f0) ((rd_T34 x12 x16).f1) ((rd_T34 x12 x16).f2.f0) ((rd_T34 x12 x16).f2.f1) ((rd_T34 x12 x16).f3) ((rd_T34 x12 x16).f4) ((rd_T34 x12 x16).f5) ((rd_T34 x6 x16).f0) ((rd_T34 x6 x16).f1) ((rd_T34 x6 x16).f2.f0) ((rd_T34 x6 x16).f2.f1) ((rd_T34 x6 x16).f3) ((rd_T34 x6 x16).f4) ((rd_T34 x6 x16).f5)).bind fun t229 => (carcanetlaw25_ScriptLines.j2 k x0 x5 x6 x9 x12 x16 (!t229))) else (none)) else (carcanetlaw25_ScriptLines.j2 k x0 x5 x6 x9 x12 x16 false)) else (some x5)
def carcanetlaw25_ScriptLines.j2 : Nat → ByteArray → Bool → List (S34) → List (S34) → List (S34) → Int → Bool → Option (Bool)
 | 0, _, _, _, _, _, _, _ => none
 | k + 1, x0, x5, x6, x9, x12, x16, x113 => if x113 = true then (some false) else (if x16 ≥ (x6.length : Int) then (if 0 ≤ (wrap64 (x16 - (x6.length : Int))) then (if (wrap64 (x16 - (x6.length : Int))) < (x9.length : Int) then (if 0 ≤ x16 then (if x16 < (x12.length : Int) then ((carcanetref25_Same.f k ((rd_T34 x12 x16).f0) ((rd_T34 x12 x16).f1) ((rd_T34 x12 x16).f2.f0) ((rd_T34 x12 x16).f2.f1) ((rd_T34 x12 x16).f3) ((rd_T34 x12 x16).f4) ((rd_T34 x12 x16).f5) ((rd_T34 x9 (wrap64 (x16 - (x6.length : Int)))).f0) ((rd_T34 x9 (wrap64 (x16 - (x6.length : Int)))).f1) ((rd_T34 x9 (wrap64 (x16 - (x6.length : Int)))).f2.f0) ((rd_T34 x9 (wrap64 (x16 - (x6.length : Int)))).f2.f1) ((rd_T34 x9 (wrap64 (x16 - (x6.length : Int)))).f3) (wrap64 ((wrap64 (((rd_T34 x9 (wrap64 (x16 - (x6.length : Int)))).f4) + (x0.size : Int))) + 1)) (wrap64 ((wrap64 (((rd_T34 x9 (wrap64 (x16 - (x6.length : Int)))).f5) + (x0.size : Int))) + 1))).bind fun t233 => (if t233 = true then (carcanetlaw25_ScriptLines.l0 k x0 x5 x6 x9 x12 (wrap64 (x16 + 1))) else (some false))) else (none)) else (none)) else (none)) else (none)) else (carcanetlaw25_ScriptLines.l0 k x0 x5 x6 x9 x12 (wrap64 (x16 + 1))))
end
def carcanetlaw25_ScriptLines.f (k : Nat) (a0 : ByteArray) (a1 : ByteArray) : Option (Bool) := (carcanetlaw25_shown.f).bind fun t211 => (if 0 ≤ (mn (a0.size : Int) 700) then (if (mn (a0.size : Int) 700) ≤ (a0.size : Int) then (if 0 ≤ (mn (a1.size : Int) 700) then (if (mn (a1.size : Int) 700) ≤ (a1.size : Int) then ((script_Parse.f k (a0.extract 0 ((mn (a0.size : Int) 700) : Int).toNat)).bind fun bt212 => ((script_Parse.f k (a1.extract 0 ((mn (a1.size : Int) 700) : Int).toNat)).bind fun bt217 => (if (a0.extract 0 ((mn (a0.size : Int) 700) : Int).toNat).size + 1 ≤ 9223372036854775807 then (if ((a0.extract 0 ((mn (a0.size : Int) 700) : Int).toNat) ++ (⟨#[10]⟩ : ByteArray)).size + (a1.extract 0 ((mn (a1.size : Int) 700) : Int).toNat).size ≤ 9223372036854775807 then ((script_Parse.f k (((a0.extract 0 ((mn (a0.size : Int) 700) : Int).toNat) ++ (⟨#[10]⟩ : ByteArray)) ++ (a1.extract 0 ((mn (a1.size : Int) 700) : Int).toNat))).bind fun bt222 => (if bt212.2.2 = 0 then (if bt217.2.2 = 0 then (if (bt222.1.length : Int) = (wrap64 ((bt212.1.length : Int) + (bt217.1.length : Int))) then (if bt222.2.2 = bt217.2.2 then (if bt222.2.1 = 0 then (carcanetlaw25_ScriptLines.j0 k (a0.extract 0 ((mn (a0.size : Int) 700) : Int).toNat) t211 bt212.1 bt217.1 bt222.1) else (some false)) else (some false)) else (some false)) else (if (bt222.1.length : Int) = (wrap64 ((bt212.1.length : Int) + (bt217.1.length : Int))) then (if bt222.2.2 = bt217.2.2 then (if bt222.2.1 = (wrap64 ((wrap64 (((a0.extract 0 ((mn (a0.size : Int) 700) : Int).toNat).size : Int) + 1)) + bt217.2.1)) then (carcanetlaw25_ScriptLines.j0 k (a0.extract 0 ((mn (a0.size : Int) 700) : Int).toNat) t211 bt212.1 bt217.1 bt222.1) else (some false)) else (some false)) else (some false))) else (if (bt222.1.length : Int) = (bt212.1.length : Int) then (if bt222.2.1 = bt212.2.1 then (if bt222.2.2 = bt212.2.2 then (carcanetlaw25_ScriptLines.j0 k (a0.extract 0 ((mn (a0.size : Int) 700) : Int).toNat) t211 bt212.1 bt217.1 bt222.1) else (some false)) else (some false)) else (some false)))) else (none)) else (none)))) else (none)) else (none)) else (none)) else (none))
theorem carcanetlaw25_ScriptLines.mono_l : ∀ k, (∀ y0 y1 y2 y3 y4, LeO (carcanetlaw25_ScriptLines.j0 k y0 y1 y2 y3 y4) (carcanetlaw25_ScriptLines.j0 (k + 1) y0 y1 y2 y3 y4)) ∧ (∀ y0 y1 y2 y3 y4 y5, LeO (carcanetlaw25_ScriptLines.l0 k y0 y1 y2 y3 y4 y5) (carcanetlaw25_ScriptLines.l0 (k + 1) y0 y1 y2 y3 y4 y5)) ∧ (∀ y0 y1 y2 y3 y4 y5 y6, LeO (carcanetlaw25_ScriptLines.j2 k y0 y1 y2 y3 y4 y5 y6) (carcanetlaw25_ScriptLines.j2 (k + 1) y0 y1 y2 y3 y4 y5 y6))
 | 0 => ⟨fun _ _ _ _ _ r h => by simp [carcanetlaw25_ScriptLines.j0] at h, fun _ _ _ _ _ _ r h => by simp [carcanetlaw25_ScriptLines.l0] at h, fun _ _ _ _ _ _ _ r h => by simp [carcanetlaw25_ScriptLines.j2] at h⟩
 | k + 1 => by
  obtain ⟨ih0, ih1, ih2⟩ := carcanetlaw25_ScriptLines.mono_l k
  refine ⟨?_, ?_, ?_⟩
  ·intro y0 y1 y2 y3 y4
   unfold carcanetlaw25_ScriptLines.j0
   repeat' first
   | (with_reducible exact ih0 _ _ _ _ _)
   | (with_reducible exact ih1 _ _ _ _ _ _)
   | (with_reducible exact ih2 _ _ _ _ _ _ _)
   | (with_reducible exact carcanetref25_Same.mono _ _ _ _ _ _ _ _ _ _ _ _ _ _ _)
   | (with_reducible exact script_Parse.mono _ _)
   | (with_reducible exact LeO.refl _)
   | (with_reducible exact LeO.none _)
   | (with_reducible refine LeO.ite ?_ ?_)
   | (with_reducible refine LeO.bind ?_ (fun _ => ?_))
   | exact ih0 _ _ _ _ _
   | exact ih1 _ _ _ _ _ _
   | exact ih2 _ _ _ _ _ _ _
   | exact carcanetref25_Same.mono _ _ _ _ _ _ _ _ _ _ _ _ _ _ _
   | exact script_Parse.mono _ _
   | exact LeO.none _
   | refine LeO.ite ?_ ?_
   | refine LeO.bind ?_ (fun _ => ?_)
  ·intro y0 y1 y2 y3 y4 y5
   unfold carcanetlaw25_ScriptLines.l0
   repeat' first
   | (with_reducible exact ih0 _ _ _ _ _)
   | (with_reducible exact ih1 _ _ _ _ _ _)
   | (with_reducible exact ih2 _ _ _ _ _ _ _)
   | (with_reducible exact carcanetref25_Same.mono _ _ _ _ _ _ _ _ _ _ _ _ _ _ _)
   | (with_reducible exact script_Parse.mono _ _)
   | (with_reducible exact LeO.refl _)
   | (with_reducible exact LeO.none _)
   | (with_reducible refine LeO.ite ?_ ?_)
   | (with_reducible refine LeO.bind ?_ (fun _ => ?_))
   | exact ih0 _ _ _ _ _
   | exact ih1 _ _ _ _ _ _
   | exact ih2 _ _ _ _ _ _ _
   | exact carcanetref25_Same.mono _ _ _ _ _ _ _ _ _ _ _ _ _ _ _
   | exact script_Parse.mono _ _
   | exact LeO.none _
   | refine LeO.ite ?_ ?_
   | refine LeO.bind ?_ (fun _ => ?_)
  ·intro y0 y1 y2 y3 y4 y5 y6
   unfold carcanetlaw25_ScriptLines.j2
   repeat' first
   | (with_reducible exact ih0 _ _ _ _ _)
   | (with_reducible exact ih1 _ _ _ _ _ _)
   | (with_reducible exact ih2 _ _ _ _ _ _ _)
   | (with_reducible exact carcanetref25_Same.mono _ _ _ _ _ _ _ _ _ _ _ _ _ _ _)
   | (with_reducible exact script_Parse.mono _ _)
   | (with_reducible exact LeO.refl _)
   | (with_reducible exact LeO.none _)
   | (with_reducible refine LeO.ite ?_ ?_)
   | (with_reducible refine LeO.bind ?_ (fun _ => ?_))
   | exact ih0 _ _ _ _ _
   | exact ih1 _ _ _ _ _ _
   | exact ih2 _ _ _ _ _ _ _
   | exact carcanetref25_Same.mono _ _ _ _ _ _ _ _ _ _ _ _ _ _ _
   | exact script_Parse.mono _ _
   | exact LeO.none _
   | refine LeO.ite ?_ ?_
   | refine LeO.bind ?_ (fun _ => ?_)
theorem carcanetlaw25_ScriptLines.mono : ∀ a0 a1 k, LeO (carcanetlaw25_ScriptLines.f k a0 a1) (carcanetlaw25_ScriptLines.f (k + 1) a0 a1) := by
 intro a0 a1 k
 obtain ⟨ih0, ih1, ih2⟩ := carcanetlaw25_ScriptLines.mono_l k
 unfold carcanetlaw25_ScriptLines.f
 repeat' first
   | (with_reducible exact ih0 _ _ _ _ _)
   | (with_reducible exact ih1 _ _ _ _ _ _)
   | (with_reducible exact ih2 _ _ _ _ _ _ _)
   | (with_reducible exact carcanetref25_Same.mono _ _ _ _ _ _ _ _ _ _ _ _ _ _ _)
   | (with_reducible exact script_Parse.mono _ _)
   | (with_reducible exact LeO.refl _)
   | (with_reducible exact LeO.none _)
   | (with_reducible refine LeO.ite ?_ ?_)
   | (with_reducible refine LeO.bind ?_ (fun _ => ?_))
   | exact ih0 _ _ _ _ _
   | exact ih1 _ _ _ _ _ _
   | exact ih2 _ _ _ _ _ _ _
   | exact carcanetref25_Same.mono _ _ _ _ _ _ _ _ _ _ _ _ _ _ _
   | exact script_Parse.mono _ _
   | exact LeO.none _
   | refine LeO.ite ?_ ?_
   | refine LeO.bind ?_ (fun _ => ?_)
def carcanetlaw25_ScriptLines.T18 : Bool × List (List Nat × List Nat) := (true, [([], []), ([], []), ([1], [1]), ([0, 2], [0, 2]), ([3], [3]), ([4], [4]), ([4], [4]), ([5, 6, 4], [4, 5, 6]), ([7, 4], [4, 7]), ([4], [4]), ([4], [4]), ([9, 10, 4], [4, 9, 10]), ([11, 4], [4, 11]), ([8, 12, 4, 4], [4, 8, 12]), ([13, 4], [4, 13]), ([4, 14], [4, 14])])
def carcanetlaw25_ScriptLines.B18 : List Nat := [0, 0, 2, 7, 15, 31, 31, 127, 255, 31, 31, 1567, 3615, 8191, 16383, 32767]
theorem carcanetlaw25_ScriptLines.tab18 : rtab .any (opsOf Tryd.f5 18) = carcanetlaw25_ScriptLines.T18 := by kernel_rfl
theorem carcanetlaw25_ScriptLines.bits18 : waitsOk carcanetlaw25_ScriptLines.T18.2 carcanetlaw25_ScriptLines.B18 = true := by kernel_rfl
set_option maxHeartbeats 8000000 in
set_option maxRecDepth 100000 in
theorem carcanetlaw25_ScriptLines.calls (k : Nat) (a0 : ByteArray) (a1 : ByteArray) (r : Bool) (w : World) (hGW : GW w) (h : carcanetlaw25_ScriptLines.f k a0 a1 = some r) :
  Calls Tryd.prog 5 #[.string a0, .string a1] w fun e w' => e = .returned (.bool r) ∧ Below w.heap.size w w' := by
 have hu34 := Tryd.underlying34
 have hu33 := Tryd.underlying33
 have HGW := Aside0.mk hGW
 clear hGW
 have HB := Aside0.mk (Below.refl w.heap.size w)
 have H : ((carcanetlaw25_shown.f).bind fun t211 => (if 0 ≤ (mn (a0.size : Int) 700) then (if (mn (a0.size : Int) 700) ≤ (a0.size : Int) then (if 0 ≤ (mn (a1.size : Int) 700) then (if (mn (a1.size : Int) 700) ≤ (a1.size : Int) then ((script_Parse.f k (a0.extract 0 ((mn (a0.size : Int) 700) : Int).toNat)).bind fun bt212 => ((script_Parse.f k (a1.extract 0 ((mn (a1.size : Int) 700) : Int).toNat)).bind fun bt217 => (if (a0.extract 0 ((mn (a0.size : Int) 700) : Int).toNat).size + 1 ≤ 9223372036854775807 then (if ((a0.extract 0 ((mn (a0.size : Int) 700) : Int).toNat) ++ (⟨#[10]⟩ : ByteArray)).size + (a1.extract 0 ((mn (a1.size : Int) 700) : Int).toNat).size ≤ 9223372036854775807 then ((script_Parse.f k (((a0.extract 0 ((mn (a0.size : Int) 700) : Int).toNat) ++ (⟨#[10]⟩ : ByteArray)) ++ (a1.extract 0 ((mn (a1.size : Int) 700) : Int).toNat))).bind fun bt222 => (if bt212.2.2 = 0 then (if bt217.2.2 = 0 then (if (bt222.1.length : Int) = (wrap64 ((bt212.1.length : Int) + (bt217.1.length : Int))) then (if bt222.2.2 = bt217.2.2 then (if bt222.2.1 = 0 then (carcanetlaw25_ScriptLines.j0 k (a0.extract 0 ((mn (a0.size : Int) 700) : Int).toNat) t211 bt212.1 bt217.1 bt222.1) else (some false)) else (some false)) else (some false)) else (if (bt222.1.length : Int) = (wrap64 ((bt212.1.length : Int) + (bt217.1.length : Int))) then (if bt222.2.2 = bt217.2.2 then (if bt222.2.1 = (wrap64 ((wrap64 (((a0.extract 0 ((mn (a0.size : Int) 700) : Int).toNat).size : Int) + 1)) + bt217.2.1)) then (carcanetlaw25_ScriptLines.j0 k (a0.extract 0 ((mn (a0.size : Int) 700) : Int).toNat) t211 bt212.1 bt217.1 bt222.1) else (some false)) else (some false)) else (some false))) else (if (bt222.1.length : Int) = (bt212.1.length : Int) then (if bt222.2.1 = bt212.2.1 then (if bt222.2.2 = bt212.2.2 then (carcanetlaw25_ScriptLines.j0 k (a0.extract 0 ((mn (a0.size : Int) 700) : Int).toNat) t211 bt212.1 bt217.1 bt222.1) else (some false)) else (some false)) else (some false)))) else (none)) else (none)))) else (none)) else (none)) else (none)) else (none))) = some r := h
 clear h
 replace H := Option.bind_eq_some_iff.mp H
 obtain ⟨t211, A30, H⟩ := H
 replace H : (if 0 ≤ (mn (a0.size : Int) 700) then (if (mn (a0.size : Int) 700) ≤ (a0.size : Int) then (if 0 ≤ (mn (a1.size : Int) 700) then (if (mn (a1.size : Int) 700) ≤ (a1.size : Int) then ((script_Parse.f k (a0.extract 0 ((mn (a0.size : Int) 700) : Int).toNat)).bind fun bt212 => ((script_Parse.f k (a1.extract 0 ((mn (a1.size : Int) 700) : Int).toNat)).bind fun bt217 => (if (a0.extract 0 ((mn (a0.size : Int) 700) : Int).toNat).size + 1 ≤ 9223372036854775807 then (if ((a0.extract 0 ((mn (a0.size : Int) 700) : Int).toNat) ++ (⟨#[10]⟩ : ByteArray)).size + (a1.extract 0 ((mn (a1.size : Int) 700) : Int).toNat).size ≤ 9223372036854775807 then ((script_Parse.f k (((a0.extract 0 ((mn (a0.size : Int) 700) : Int).toNat) ++ (⟨#[10]⟩ : ByteArray)) ++ (a1.extract 0 ((mn (a1.size : Int) 700) : Int).toNat))).bind fun bt222 => (if bt212.2.2 = 0 then (if bt217.2.2 = 0 then (if (bt222.1.length : Int) = (wrap64 ((bt212.1.length : Int) + (bt217.1.length : Int))) then (if bt222.2.2 = bt217.2.2 then (if bt222.2.1 = 0 then (carcanetlaw25_ScriptLines.j0 k (a0.extract 0 ((mn (a0.size : Int) 700) : Int).toNat) t211 bt212.1 bt217.1 bt222.1) else (some false)) else (some false)) else (some false)) else (if (bt222.1.length : Int) = (wrap64 ((bt212.1.length : Int) + (bt217.1.length : Int))) then (if bt222.2.2 = bt217.2.2 then (if bt222.2.1 = (wrap64 ((wrap64 (((a0.extract 0 ((mn (a0.size : Int) 700) : Int).toNat).size : Int) + 1)) + bt217.2.1)) then (carcanetlaw25_ScriptLines.j0 k (a0.extract 0 ((mn (a0.size : Int) 700) : Int).toNat) t211 bt212.1 bt217.1 bt222.1) else (some false)) else (some false)) else (some false))) else (if (bt222.1.length : Int) = (bt212.1.length : Int) then (if bt222.2.1 = bt212.2.1 then (if bt222.2.2 = bt212.2.2 then (carcanetlaw25_ScriptLines.j0 k (a0.extract 0 ((mn (a0.size : Int) 700) : Int).toNat) t211 bt212.1 bt217.1 bt222.1) else (some false)) else (some false)) else (some false)))) else (none)) else (none)))) else (none)) else (none)) else (none)) else (none)) = some r := H
 have A3 := Aside0.mk A30
 clear A30
 obtain ⟨ji4, hji4⟩ : ∃ j_ : Int, (mn (a0.size : Int) 700) = j_ := ⟨_, rfl⟩
 replace H : (if 0 ≤ (ji4) then (if (ji4) ≤ (a0.size : Int) then (if 0 ≤ (mn (a1.size : Int) 700) then (if (mn (a1.size : Int) 700) ≤ (a1.size : Int) then ((script_Parse.f k (a0.extract 0 ((ji4) : Int).toNat)).bind fun bt212 => ((script_Parse.f k (a1.extract 0 ((mn (a1.size : Int) 700) : Int).toNat)).bind fun bt217 => (if (a0.extract 0 ((ji4) : Int).toNat).size + 1 ≤ 9223372036854775807 then (if ((a0.extract 0 ((ji4) : Int).toNat) ++ (⟨#[10]⟩ : ByteArray)).size + (a1.extract 0 ((mn (a1.size : Int) 700) : Int).toNat).size ≤ 9223372036854775807 then ((script_Parse.f k (((a0.extract 0 ((ji4) : Int).toNat) ++ (⟨#[10]⟩ : ByteArray)) ++ (a1.extract 0 ((mn (a1.size : Int) 700) : Int).toNat))).bind fun bt222 => (if bt212.2.2 = 0 then (if bt217.2.2 = 0 then (if (bt222.1.length : Int) = (wrap64 ((bt212.1.length : Int) + (bt217.1.length : Int))) then (if bt222.2.2 = bt217.2.2 then (if bt222.2.1 = 0 then (carcanetlaw25_ScriptLines.j0 k (a0.extract 0 ((ji4) : Int).toNat) t211 bt212.1 bt217.1 bt222.1) else (some false)) else (some false)) else (some false)) else (if (bt222.1.length : Int) = (wrap64 ((bt212.1.length : Int) + (bt217.1.length : Int))) then (if bt222.2.2 = bt217.2.2 then (if bt222.2.1 = (wrap64 ((wrap64 (((a0.extract 0 ((ji4) : Int).toNat).size : Int) + 1)) + bt217.2.1)) then (carcanetlaw25_ScriptLines.j0 k (a0.extract 0 ((ji4) : Int).toNat) t211 bt212.1 bt217.1 bt222.1) else (some false)) else (some false)) else (some false))) else (if (bt222.1.length : Int) = (bt212.1.length : Int) then (if bt222.2.1 = bt212.2.1 then (if bt222.2.2 = bt212.2.2 then (carcanetlaw25_ScriptLines.j0 k (a0.extract 0 ((ji4) : Int).toNat) t211 bt212.1 bt217.1 bt222.1) else (some false)) else (some false)) else (some false)))) else (none)) else (none)))) else (none)) else (none)) else (none)) else (none)) = some r := by first | (rw [hji4] at H; exact H) | (simp only [hji4] at H ⊢; exact H)
 (try rw [hji4] at A3)
 (try (have hji4h : ji4 ≤ 700 := by (rw [← hji4]; unfold mn; (repeat' split) <;> omega)))
 (try (have hji4g : ji4 ≤ 64 := by omega))
 (try (have hji4l : 0 ≤ ji4 := by (rw [← hji4]; unfold mn; (repeat' split) <;> omega)))
 (try (have hji4m : 0 ≤ ji4 := by omega))
 have hji4_ : (if 700 < (a0.size : Int) then 700 else (a0.size : Int)) = ji4 := hji4
 by_cases c5 : 0 ≤ (ji4)
 ·rw [if_pos c5] at H
  have c5b0 := eq_true c5
  have c5b1 : decide (0 ≤ (ji4)) = true := decide_eq_true c5
  clear c5
  by_cases c6 : (ji4) ≤ (a0.size : Int)
  ·rw [if_pos c6] at H
   have c6b0 := eq_true c6
   have c6b1 : decide ((ji4) ≤ (a0.size : Int)) = true := decide_eq_true c6
   obtain ⟨sx4, hsx4⟩ : ∃ s_, a0.extract 0 ((ji4) : Int).toNat = s_ := ⟨_, rfl⟩
   rw [hsx4] at H
   clear c6
   obtain ⟨ji7, hji7⟩ : ∃ j_ : Int, (mn (a1.size : Int) 700) = j_ := ⟨_, rfl⟩
   replace H : (if 0 ≤ (ji7) then (if (ji7) ≤ (a1.size : Int) then ((script_Parse.f k sx4).bind fun bt212 => ((script_Parse.f k (a1.extract 0 ((ji7) : Int).toNat)).bind fun bt217 => (if sx4.size + 1 ≤ 9223372036854775807 then (if (sx4 ++ (⟨#[10]⟩ : ByteArray)).size + (a1.extract 0 ((ji7) : Int).toNat).size ≤ 9223372036854775807 then ((script_Parse.f k ((sx4 ++ (⟨#[10]⟩ : ByteArray)) ++ (a1.extract 0 ((ji7) : Int).toNat))).bind fun bt222 => (if bt212.2.2 = 0 then (if bt217.2.2 = 0 then (if (bt222.1.length : Int) = (wrap64 ((bt212.1.length : Int) + (bt217.1.length : Int))) then (if bt222.2.2 = bt217.2.2 then (if bt222.2.1 = 0 then (carcanetlaw25_ScriptLines.j0 k sx4 t211 bt212.1 bt217.1 bt222.1) else (some false)) else (some false)) else (some false)) else (if (bt222.1.length : Int) = (wrap64 ((bt212.1.length : Int) + (bt217.1.length : Int))) then (if bt222.2.2 = bt217.2.2 then (if bt222.2.1 = (wrap64 ((wrap64 ((sx4.size : Int) + 1)) + bt217.2.1)) then (carcanetlaw25_ScriptLines.j0 k sx4 t211 bt212.1 bt217.1 bt222.1) else (some false)) else (some false)) else (some false))) else (if (bt222.1.length : Int) = (bt212.1.length : Int) then (if bt222.2.1 = bt212.2.1 then (if bt222.2.2 = bt212.2.2 then (carcanetlaw25_ScriptLines.j0 k sx4 t211 bt212.1 bt217.1 bt222.1) else (some false)) else (some false)) else (some false)))) else (none)) else (none)))) else (none)) else (none)) = some r := by first | (rw [hji7] at H; exact H) | (simp only [hji7] at H ⊢; exact H)
   (try rw [hji7] at A3)
   (try (have hji7h : ji7 ≤ 700 := by (rw [← hji7]; unfold mn; (repeat' split) <;> omega)))
   (try (have hji7g : ji7 ≤ 64 := by omega))
   (try (have hji7l : 0 ≤ ji7 := by (rw [← hji7]; unfold mn; (repeat' split) <;> omega)))
   (try (have hji7m : 0 ≤ ji7 := by omega))
   have hji7_ : (if 700 < (a1.size : Int) then 700 else (a1.size : Int)) = ji7 := hji7
   by_cases c8 : 0 ≤ (ji7)
   ·rw [if_pos c8] at H
    have c8b0 := eq_true c8
    have c8b1 : decide (0 ≤ (ji7)) = true := decide_eq_true c8
    clear c8
    by_cases c9 : (ji7) ≤ (a1.size : Int)
    ·rw [if_pos c9] at H
     have c9b0 := eq_true c9
     have c9b1 : decide ((ji7) ≤ (a1.size : Int)) = true := decide_eq_true c9
     obtain ⟨sx7, hsx7⟩ : ∃ s_, a1.extract 0 ((ji7) : Int).toNat = s_ := ⟨_, rfl⟩
     rw [hsx7] at H
     clear c9
     replace H := Option.bind_eq_some_iff.mp H
     obtain ⟨⟨t212, t213, t214⟩, A100, H⟩ := H
     replace H : ((script_Parse.f k sx7).bind fun bt217 => (if sx4.size + 1 ≤ 9223372036854775807 then (if (sx4 ++ (⟨#[10]⟩ : ByteArray)).size + sx7.size ≤ 9223372036854775807 then ((script_Parse.f k ((sx4 ++ (⟨#[10]⟩ : ByteArray)) ++ sx7)).bind fun bt222 => (if t214 = 0 then (if bt217.2.2 = 0 then (if (bt222.1.length : Int) = (wrap64 ((t212.length : Int) + (bt217.1.length : Int))) then (if bt222.2.2 = bt217.2.2 then (if bt222.2.1 = 0 then (carcanetlaw25_ScriptLines.j0 k sx4 t211 t212 bt217.1 bt222.1) else (some false)) else (some false)) else (some false)) else (if (bt222.1.length : Int) = (wrap64 ((t212.length : Int) + (bt217.1.length : Int))) then (if bt222.2.2 = bt217.2.2 then (if bt222.2.1 = (wrap64 ((wrap64 ((sx4.size : Int) + 1)) + bt217.2.1)) then (carcanetlaw25_ScriptLines.j0 k sx4 t211 t212 bt217.1 bt222.1) else (some false)) else (some false)) else (some false))) else (if (bt222.1.length : Int) = (t212.length : Int) then (if bt222.2.1 = t213 then (if bt222.2.2 = t214 then (carcanetlaw25_ScriptLines.j0 k sx4 t211 t212 bt217.1 bt222.1) else (some false)) else (some false)) else (some false)))) else (none)) else (none))) = some r := H
     have A10 := Aside0.mk A100
     clear A100
     replace H := Option.bind_eq_some_iff.mp H
     obtain ⟨⟨t217, t218, t219⟩, A110, H⟩ := H
     replace H : (if sx4.size + 1 ≤ 9223372036854775807 then (if (sx4 ++ (⟨#[10]⟩ : ByteArray)).size + sx7.size ≤ 9223372036854775807 then ((script_Parse.f k ((sx4 ++ (⟨#[10]⟩ : ByteArray)) ++ sx7)).bind fun bt222 => (if t214 = 0 then (if t219 = 0 then (if (bt222.1.length : Int) = (wrap64 ((t212.length : Int) + (t217.length : Int))) then (if bt222.2.2 = t219 then (if bt222.2.1 = 0 then (carcanetlaw25_ScriptLines.j0 k sx4 t211 t212 t217 bt222.1) else (some false)) else (some false)) else (some false)) else (if (bt222.1.length : Int) = (wrap64 ((t212.length : Int) + (t217.length : Int))) then (if bt222.2.2 = t219 then (if bt222.2.1 = (wrap64 ((wrap64 ((sx4.size : Int) + 1)) + t218)) then (carcanetlaw25_ScriptLines.j0 k sx4 t211 t212 t217 bt222.1) else (some false)) else (some false)) else (some false))) else (if (bt222.1.length : Int) = (t212.length : Int) then (if bt222.2.1 = t213 then (if bt222.2.2 = t214 then (carcanetlaw25_ScriptLines.j0 k sx4 t211 t212 t217 bt222.1) else (some false)) else (some false)) else (some false)))) else (none)) else (none)) = some r := H
     have A11 := Aside0.mk A110
     clear A110
     by_cases c12 : sx4.size + 1 ≤ 9223372036854775807
     ·rw [if_pos c12] at H
      have c12b0 := eq_true c12
      have c12b1 : decide (sx4.size + 1 ≤ 9223372036854775807) = true := decide_eq_true c12
      try have c12b2 : (9223372036854775807 < sx4.size + 1) = False := eq_false (Nat.not_lt.2 c12)
      by_cases c13 : (sx4 ++ (⟨#[10]⟩ : ByteArray)).size + sx7.size ≤ 9223372036854775807
      ·rw [if_pos c13] at H
       have c13b0 := eq_true c13
       have c13b1 : decide ((sx4 ++ (⟨#[10]⟩ : ByteArray)).size + sx7.size ≤ 9223372036854775807) = true := decide_eq_true c13
       try have c13b2 : (9223372036854775807 < (sx4 ++ (⟨#[10]⟩ : ByteArray)).size + sx7.size) = False := eq_false (Nat.not_lt.2 c13)
       try have c13b3 := c13b2
       try (conv at c13b3 => lhs; simp only [ByteArray.size_append, show (⟨#[10]⟩ : ByteArray).size = 1 from rfl])
       replace H := Option.bind_eq_some_iff.mp H
       obtain ⟨⟨t222, t223, t224⟩, A140, H⟩ := H
       replace H : (if t214 = 0 then (if t219 = 0 then (if (t222.length : Int) = (wrap64 ((t212.length : Int) + (t217.length : Int))) then (if t224 = t219 then (if t223 = 0 then (carcanetlaw25_ScriptLines.j0 k sx4 t211 t212 t217 t222) else (some false)) else (some false)) else (some false)) else (if (t222.length : Int) = (wrap64 ((t212.length : Int) + (t217.length : Int))) then (if t224 = t219 then (if t223 = (wrap64 ((wrap64 ((sx4.size : Int) + 1)) + t218)) then (carcanetlaw25_ScriptLines.j0 k sx4 t211 t212 t217 t222) else (some false)) else (some false)) else (some false))) else (if (t222.length : Int) = (t212.length : Int) then (if t223 = t213 then (if t224 = t214 then (carcanetlaw25_ScriptLines.j0 k sx4 t211 t212 t217 t222) else (some false)) else (some false)) else (some false))) = some r := H
       have A14 := Aside0.mk A140
       clear A140
       have HC15 := Aside0.mk H
       clear H
       go_enter Tryd.func5, Tryd.ntmps5
       go_upto_if 51 with (first | ((with_reducible refine gate_callee (f := 8) rfl ?_); refine goesL_ (some 18) rfl rfl Tryd.func8 (by kernel_rfl) rfl #[] rfl (by (try simp only [List.map_toArray, List.map_cons, List.map_nil]); first | done | rfl | (simp only [List.length_drop, List.length_take]; rfl)) ?_; (with_reducible refine (carcanetlaw25_shown.calls  t211 _ ?side1 A3.out).mono ?_); (case side1 => exact GW.of_below HGW.out (by repeat (first | (with_reducible first | exact HB.out | apply below_alloc | apply pw_below_drewN | apply below_drew1) | exact HB.out))); rintro e w16 ⟨rfl, hb⟩; refine ⟨_, rfl, ?_⟩; have n0_ := Aside0.mk (below_step (by repeat (first | (with_reducible first | exact HB.out | apply below_alloc | apply pw_below_drewN | apply below_drew1) | exact HB.out)) hb); clear HB; have HB := n0_; clear n0_; (try clear hb); (try clear hb2); (try clear hk); (try clear hi)) | ((with_reducible refine gate_callee (f := 9) rfl ?_); refine goesL_ (some 31) rfl rfl Tryd.func9 (by kernel_rfl) rfl #[.string sx4] rfl (by (try simp only [List.map_toArray, List.map_cons, List.map_nil]); first | done | (simp only [hji4]; rfl) | rfl | (simp only [List.length_drop, List.length_take]; rfl)) ?_; (with_reducible refine (script_Parse.calls k sx4 t212 t213 t214 _ ?side1 A10.out).mono ?_); (case side1 => exact GW.of_below HGW.out (by repeat (first | (with_reducible first | exact HB.out | apply below_alloc | apply pw_below_drewN | apply below_drew1) | exact HB.out))); rintro e w17 ⟨v215, rfl, ho0, hb⟩; refine ⟨_, rfl, ?_⟩; have n0_ := Aside0.mk (Kd.S_lower ho0 (below_size (by repeat (first | (with_reducible first | exact HB.out | apply below_alloc | apply pw_below_drewN | apply below_drew1) | exact HB.out)))); have n1_ := Aside0.mk (below_step (by repeat (first | (with_reducible first | exact HB.out | apply below_alloc | apply pw_below_drewN | apply below_drew1) | exact HB.out)) hb); clear HB; have HO216 := n0_; have HB := n1_; clear n0_ n1_; (try clear hb); (try clear hb2); (try clear hk); (try clear hi); (try clear ho0)) | ((with_reducible refine gate_callee (f := 9) rfl ?_); refine goesL_ (some 37) rfl rfl Tryd.func9 (by kernel_rfl) rfl #[.string sx7] rfl (by (try simp only [List.map_toArray, List.map_cons, List.map_nil]); first | done | (simp only [hji7]; rfl) | rfl | (simp only [List.length_drop, List.length_take]; rfl)) ?_; (with_reducible refine (script_Parse.calls k sx7 t217 t218 t219 _ ?side1 A11.out).mono ?_); (case side1 => exact GW.of_below HGW.out (by repeat (first | (with_reducible first | exact HB.out | apply below_alloc | apply pw_below_drewN | apply below_drew1) | exact HB.out))); rintro e w18 ⟨v220, rfl, ho0, hb⟩; refine ⟨_, rfl, ?_⟩; have n0_ := Aside0.mk (Kd.S_elder' (by (with_reducible repeat (first | apply Kd.S_alloc | apply Kd.S_drewN | apply Kd.S_drew)); exact HO216.out) (Kd.S_base ho0) hb); have n1_ := Aside0.mk (Kd.S_lower (Kd.S_new' ho0 (Kd.S_lt (by (with_reducible repeat (first | apply Kd.S_alloc | apply Kd.S_drewN | apply Kd.S_drew)); exact HO216.out))) (below_size (by repeat (first | (with_reducible first | exact HB.out | apply below_alloc | apply pw_below_drewN | apply below_drew1) | exact HB.out)))); have n2_ := Aside0.mk (below_step (by repeat (first | (with_reducible first | exact HB.out | apply below_alloc | apply pw_below_drewN | apply below_drew1) | exact HB.out)) hb); clear HO216; clear HB; have HO216 := n0_; have HO221 := n1_; have HB := n2_; clear n0_ n1_ n2_; (try clear hb); (try clear hb2); (try clear hk); (try clear hi); (try clear ho0)) | ((with_reducible refine gate_callee (f := 9) rfl ?_); refine goesL_ (some 46) rfl rfl Tryd.func9 (by kernel_rfl) rfl #[.string ((sx4 ++ (⟨#[10]⟩ : ByteArray)) ++ sx7)] rfl (by (try simp only [List.map_toArray, List.map_cons, List.map_nil]); first | done | (simp only [hji4, hji7]; rfl) | rfl | (simp only [List.length_drop, List.length_take]; rfl)) ?_; (with_reducible refine (script_Parse.calls k ((sx4 ++ (⟨#[10]⟩ : ByteArray)) ++ sx7) t222 t223 t224 _ ?side1 A14.out).mono ?_); (case side1 => exact GW.of_below HGW.out (by repeat (first | (with_reducible first | exact HB.out | apply below_alloc | apply pw_below_drewN | apply below_drew1) | exact HB.out))); rintro e w19 ⟨v225, rfl, ho0, hb⟩; refine ⟨_, rfl, ?_⟩; have n0_ := Aside0.mk (Kd.S_elder' (by (with_reducible repeat (first | apply Kd.S_alloc | apply Kd.S_drewN | apply Kd.S_drew)); exact HO216.out) (Kd.S_base ho0) hb); have n1_ := Aside0.mk (Kd.S_elder' (by (with_reducible repeat (first | apply Kd.S_alloc | apply Kd.S_drewN | apply Kd.S_drew)); exact HO221.out) (Kd.S_base ho0) hb); have n2_ := Aside0.mk (Kd.S_lower (Kd.S_new' (Kd.S_new' ho0 (Kd.S_lt (by (with_reducible repeat (first | apply Kd.S_alloc | apply Kd.S_drewN | apply Kd.S_drew)); exact HO216.out))) (Kd.S_lt (by (with_reducible repeat (first | apply Kd.S_alloc | apply Kd.S_drewN | apply Kd.S_drew)); exact HO221.out))) (below_size (by repeat (first | (with_reducible first | exact HB.out | apply below_alloc | apply pw_below_drewN | apply below_drew1) | exact HB.out)))); have n3_ := Aside0.mk (below_step (by repeat (first | (with_reducible first | exact HB.out | apply below_alloc | apply pw_below_drewN | apply below_drew1) | exact HB.out)) hb); clear HO216; clear HO221; clear HB; have HO216 := n0_; have HO221 := n1_; have HO226 := n2_; have HB := n3_; clear n0_ n1_ n2_ n3_; (try clear hb); (try clear hb2); (try clear hk); (try clear hi); (try clear ho0)))
       (try simp only [Act.put, List.setIfInBounds_toArray, List.set_cons_zero, List.set_cons_succ])
       go_cut [] (fun wc => ∃ (kq : Nat), Aside0 (carcanetlaw25_ScriptLines.j0 kq sx4 t211 t212 t217 t222 = some r) ∧ Aside0 (kq ≤ k) ∧ Aside0 (Kd.S k34 34 wc w.heap.size (fun k_ => some k_ ≠ (v220 : Value).ownBlock ∧ some k_ ≠ (v225 : Value).ownBlock) v215 t212) ∧ Aside0 (Kd.S k34 34 wc w.heap.size (fun k_ => some k_ ≠ (v215 : Value).ownBlock ∧ some k_ ≠ (v225 : Value).ownBlock) v220 t217) ∧ Aside0 (Kd.S k34 34 wc w.heap.size (fun k_ => some k_ ≠ (v215 : Value).ownBlock ∧ some k_ ≠ (v220 : Value).ownBlock) v225 t222) ∧ Aside0 (Below w.heap.size w wc))
       case first =>
        have H := HC15.out
        clear HC15
        by_cases c20 : t214 = 0
        ·rw [if_pos c20] at H
         have c20b0 : (t214 == 0) = true := beq_iff_eq.mpr c20
         have c20b1 : (t214 != 0) = false := bne_eq_false_iff_eq.mpr c20
         clear c20
         (first | rw [c20b0] | (simp only [i64_w, i32_w]; rw [c20b0]) | skip)
         by_cases c21 : t219 = 0
         ·rw [if_pos c21] at H
          have c21b0 : (t219 == 0) = true := beq_iff_eq.mpr c21
          have c21b1 : (t219 != 0) = false := bne_eq_false_iff_eq.mpr c21
          clear c21
          by_cases c22 : (t222.length : Int) = (wrap64 ((t212.length : Int) + (t217.length : Int)))
          ·rw [if_pos c22] at H
           have c22b0 : ((t222.length : Int) == (wrap64 ((t212.length : Int) + (t217.length : Int)))) = true := beq_iff_eq.mpr c22
           have c22b1 : ((t222.length : Int) != (wrap64 ((t212.length : Int) + (t217.length : Int)))) = false := bne_eq_false_iff_eq.mpr c22
           clear c22
           by_cases c23 : t224 = t219
           ·rw [if_pos c23] at H
            have c23b0 : (t224 == t219) = true := beq_iff_eq.mpr c23
            have c23b1 : (t224 != t219) = false := bne_eq_false_iff_eq.mpr c23
            clear c23
            by_cases c24 : t223 = 0
            ·rw [if_pos c24] at H
             have c24b0 : (t223 == 0) = true := beq_iff_eq.mpr c24
             have c24b1 : (t223 != 0) = false := bne_eq_false_iff_eq.mpr c24
             clear c24
             have H' := Aside0.mk H
             clear H
             obtain ⟨Ao25, co25, eo25⟩ := Kd.S_slice HO226.out
             subst eo25
             obtain ⟨Ao26, co26, eo26⟩ := Kd.S_slice HO216.out
             subst eo26
             obtain ⟨Ao27, co27, eo27⟩ := Kd.S_slice HO221.out
             subst eo27
             go_wp2
             go_meet
             case rel => exact ⟨_, H', ⟨by first | omega | exact Nat.le_refl _⟩, ⟨by (with_reducible repeat (first | apply Kd.S_alloc | apply Kd.S_drewN | apply Kd.S_drew)); exact Kd.S_mono HO216.out (fun _ hk => ⟨hk.1.2, hk.2⟩)⟩, ⟨by (with_reducible repeat (first | apply Kd.S_alloc | apply Kd.S_drewN | apply Kd.S_drew)); exact Kd.S_mono HO221.out (fun _ hk => ⟨hk.1.2, hk.2⟩)⟩, ⟨by (with_reducible repeat (first | apply Kd.S_alloc | apply Kd.S_drewN | apply Kd.S_drew)); exact Kd.S_mono HO226.out (fun _ hk => ⟨hk.1.2, hk.2⟩)⟩, ⟨by repeat (first | (with_reducible first | exact HB.out | apply below_alloc | apply pw_below_drewN | apply below_drew1) | exact HB.out)⟩⟩
            ·rw [if_neg c24] at H
             have c24b0 : (t223 == 0) = false := beq_eq_false_iff_ne.mpr c24
             have c24b1 : (t223 != 0) = true := bne_iff_ne.mpr c24
             obtain rfl := Option.some.inj H
             obtain ⟨Ao28, co28, eo28⟩ := Kd.S_slice HO226.out
             subst eo28
             obtain ⟨Ao29, co29, eo29⟩ := Kd.S_slice HO216.out
             subst eo29
             obtain ⟨Ao30, co30, eo30⟩ := Kd.S_slice HO221.out
             subst eo30
             go_wp2
             go_ret
             exact ⟨by first | rfl | (simp [errW_none, errW_some] <;> rfl) | (simp only [← hji4, ← hji7]; first | rfl | (simp [errW_none, errW_some] <;> rfl)) | (simp [*, errW_none, errW_some] <;> rfl), by repeat (first | (with_reducible first | exact HB.out | apply below_alloc | apply pw_below_drewN | apply below_drew1) | exact HB.out)⟩
           ·rw [if_neg c23] at H
            have c23b0 : (t224 == t219) = false := beq_eq_false_iff_ne.mpr c23
            have c23b1 : (t224 != t219) = true := bne_iff_ne.mpr c23
            obtain rfl := Option.some.inj H
            obtain ⟨Ao31, co31, eo31⟩ := Kd.S_slice HO226.out
            subst eo31
            obtain ⟨Ao32, co32, eo32⟩ := Kd.S_slice HO216.out
            subst eo32
            obtain ⟨Ao33, co33, eo33⟩ := Kd.S_slice HO221.out
            subst eo33
            go_wp2
            go_ret
            exact ⟨by first | rfl | (simp [errW_none, errW_some] <;> rfl) | (simp only [← hji4, ← hji7]; first | rfl | (simp [errW_none, errW_some] <;> rfl)) | (simp [*, errW_none, errW_some] <;> rfl), by repeat (first | (with_reducible first | exact HB.out | apply below_alloc | apply pw_below_drewN | apply below_drew1) | exact HB.out)⟩
          ·rw [if_neg c22] at H
           have c22b0 : ((t222.length : Int) == (wrap64 ((t212.length : Int) + (t217.length : Int)))) = false := beq_eq_false_iff_ne.mpr c22
           have c22b1 : ((t222.length : Int) != (wrap64 ((t212.length : Int) + (t217.length : Int)))) = true := bne_iff_ne.mpr c22
           obtain rfl := Option.some.inj H
           obtain ⟨Ao34, co34, eo34⟩ := Kd.S_slice HO226.out
           subst eo34
           obtain ⟨Ao35, co35, eo35⟩ := Kd.S_slice HO216.out
           subst eo35
           obtain ⟨Ao36, co36, eo36⟩ := Kd.S_slice HO221.out
           subst eo36
           go_wp2
           go_ret
           exact ⟨by first | rfl | (simp [errW_none, errW_some] <;> rfl) | (simp only [← hji4, ← hji7]; first | rfl | (simp [errW_none, errW_some] <;> rfl)) | (simp [*, errW_none, errW_some] <;> rfl), by repeat (first | (with_reducible first | exact HB.out | apply below_alloc | apply pw_below_drewN | apply below_drew1) | exact HB.out)⟩
         ·rw [if_neg c21] at H
          have c21b0 : (t219 == 0) = false := beq_eq_false_iff_ne.mpr c21
          have c21b1 : (t219 != 0) = true := bne_iff_ne.mpr c21
          by_cases c37 : (t222.length : Int) = (wrap64 ((t212.length : Int) + (t217.length : Int)))
          ·rw [if_pos c37] at H
           have c37b0 : ((t222.length : Int) == (wrap64 ((t212.length : Int) + (t217.length : Int)))) = true := beq_iff_eq.mpr c37
           have c37b1 : ((t222.length : Int) != (wrap64 ((t212.length : Int) + (t217.length : Int)))) = false := bne_eq_false_iff_eq.mpr c37
           clear c37
           by_cases c38 : t224 = t219
           ·rw [if_pos c38] at H
            have c38b0 : (t224 == t219) = true := beq_iff_eq.mpr c38
            have c38b1 : (t224 != t219) = false := bne_eq_false_iff_eq.mpr c38
            clear c38
            by_cases c39 : t223 = (wrap64 ((wrap64 ((sx4.size : Int) + 1)) + t218))
            ·rw [if_pos c39] at H
             have c39b0 : (t223 == (wrap64 ((wrap64 ((sx4.size : Int) + 1)) + t218))) = true := beq_iff_eq.mpr c39
             have c39b1 : (t223 != (wrap64 ((wrap64 ((sx4.size : Int) + 1)) + t218))) = false := bne_eq_false_iff_eq.mpr c39
             (try rw [show wrap64 ((sx4.size : Int) + 1) = (sx4.size : Int) + 1 by unfold wrap64; omega] at c39b0 c39b1)
             clear c39
             have H' := Aside0.mk H
             clear H
             obtain ⟨Ao40, co40, eo40⟩ := Kd.S_slice HO226.out
             subst eo40
             obtain ⟨Ao41, co41, eo41⟩ := Kd.S_slice HO216.out
             subst eo41
             obtain ⟨Ao42, co42, eo42⟩ := Kd.S_slice HO221.out
             subst eo42
             go_wp2
             go_meet
             case rel => exact ⟨_, H', ⟨by first | omega | exact Nat.le_refl _⟩, ⟨by (with_reducible repeat (first | apply Kd.S_alloc | apply Kd.S_drewN | apply Kd.S_drew)); exact Kd.S_mono HO216.out (fun _ hk => ⟨hk.1.2, hk.2⟩)⟩, ⟨by (with_reducible repeat (first | apply Kd.S_alloc | apply Kd.S_drewN | apply Kd.S_drew)); exact Kd.S_mono HO221.out (fun _ hk => ⟨hk.1.2, hk.2⟩)⟩, ⟨by (with_reducible repeat (first | apply Kd.S_alloc | apply Kd.S_drewN | apply Kd.S_drew)); exact Kd.S_mono HO226.out (fun _ hk => ⟨hk.1.2, hk.2⟩)⟩, ⟨by repeat (first | (with_reducible first | exact HB.out | apply below_alloc | apply pw_below_drewN | apply below_drew1) | exact HB.out)⟩⟩
            ·rw [if_neg c39] at H
             have c39b0 : (t223 == (wrap64 ((wrap64 ((sx4.size : Int) + 1)) + t218))) = false := beq_eq_false_iff_ne.mpr c39
             have c39b1 : (t223 != (wrap64 ((wrap64 ((sx4.size : Int) + 1)) + t218))) = true := bne_iff_ne.mpr c39
             (try rw [show wrap64 ((sx4.size : Int) + 1) = (sx4.size : Int) + 1 by unfold wrap64; omega] at c39b0 c39b1)
             obtain rfl := Option.some.inj H
             obtain ⟨Ao43, co43, eo43⟩ := Kd.S_slice HO226.out
             subst eo43
             obtain ⟨Ao44, co44, eo44⟩ := Kd.S_slice HO216.out
             subst eo44
             obtain ⟨Ao45, co45, eo45⟩ := Kd.S_slice HO221.out
             subst eo45
             go_wp2
             go_ret
             exact ⟨by first | rfl | (simp [errW_none, errW_some] <;> rfl) | (simp only [← hji4, ← hji7]; first | rfl | (simp [errW_none, errW_some] <;> rfl)) | (simp [*, errW_none, errW_some] <;> rfl), by repeat (first | (with_reducible first | exact HB.out | apply below_alloc | apply pw_below_drewN | apply below_drew1) | exact HB.out)⟩
           ·rw [if_neg c38] at H
            have c38b0 : (t224 == t219) = false := beq_eq_false_iff_ne.mpr c38
            have c38b1 : (t224 != t219) = true := bne_iff_ne.mpr c38
            obtain rfl := Option.some.inj H
            obtain ⟨Ao46, co46, eo46⟩ := Kd.S_slice HO226.out
            subst eo46
            obtain ⟨Ao47, co47, eo47⟩ := Kd.S_slice HO216.out
            subst eo47
            obtain ⟨Ao48, co48, eo48⟩ := Kd.S_slice HO221.out
            subst eo48
            go_wp2
            go_ret
            exact ⟨by first | rfl | (simp [errW_none, errW_some] <;> rfl) | (simp only [← hji4, ← hji7]; first | rfl | (simp [errW_none, errW_some] <;> rfl)) | (simp [*, errW_none, errW_some] <;> rfl), by repeat (first | (with_reducible first | exact HB.out | apply below_alloc | apply pw_below_drewN | apply below_drew1) | exact HB.out)⟩
          ·rw [if_neg c37] at H
           have c37b0 : ((t222.length : Int) == (wrap64 ((t212.length : Int) + (t217.length : Int)))) = false := beq_eq_false_iff_ne.mpr c37
           have c37b1 : ((t222.length : Int) != (wrap64 ((t212.length : Int) + (t217.length : Int)))) = true := bne_iff_ne.mpr c37
           obtain rfl := Option.some.inj H
           obtain ⟨Ao49, co49, eo49⟩ := Kd.S_slice HO226.out
           subst eo49
           obtain ⟨Ao50, co50, eo50⟩ := Kd.S_slice HO216.out
           subst eo50
           obtain ⟨Ao51, co51, eo51⟩ := Kd.S_slice HO221.out
           subst eo51
           go_wp2
           go_ret
           exact ⟨by first | rfl | (simp [errW_none, errW_some] <;> rfl) | (simp only [← hji4, ← hji7]; first | rfl | (simp [errW_none, errW_some] <;> rfl)) | (simp [*, errW_none, errW_some] <;> rfl), by repeat (first | (with_reducible first | exact HB.out | apply below_alloc | apply pw_below_drewN | apply below_drew1) | exact HB.out)⟩
        ·rw [if_neg c20] at H
         have c20b0 : (t214 == 0) = false := beq_eq_false_iff_ne.mpr c20
         have c20b1 : (t214 != 0) = true := bne_iff_ne.mpr c20
         (first | rw [c20b0] | (simp only [i64_w, i32_w]; rw [c20b0]) | skip)
         by_cases c52 : (t222.length : Int) = (t212.length : Int)
         ·rw [if_pos c52] at H
          have c52b0 : ((t222.length : Int) == (t212.length : Int)) = true := beq_iff_eq.mpr c52
          have c52b1 : ((t222.length : Int) != (t212.length : Int)) = false := bne_eq_false_iff_eq.mpr c52
          have c52b2 : (t222.length == t212.length) = true := by first | simpa using c52 | (simp at c52 ⊢; omega)
          clear c52
          by_cases c53 : t223 = t213
          ·rw [if_pos c53] at H
           have c53b0 : (t223 == t213) = true := beq_iff_eq.mpr c53
           have c53b1 : (t223 != t213) = false := bne_eq_false_iff_eq.mpr c53
           clear c53
           by_cases c54 : t224 = t214
           ·rw [if_pos c54] at H
            have c54b0 : (t224 == t214) = true := beq_iff_eq.mpr c54
            have c54b1 : (t224 != t214) = false := bne_eq_false_iff_eq.mpr c54
            clear c54
            have H' := Aside0.mk H
            clear H
            obtain ⟨Ao55, co55, eo55⟩ := Kd.S_slice HO226.out
            subst eo55
            obtain ⟨Ao56, co56, eo56⟩ := Kd.S_slice HO216.out
            subst eo56
            go_wp2
            go_meet
            case rel => exact ⟨_, H', ⟨by first | omega | exact Nat.le_refl _⟩, ⟨by (with_reducible repeat (first | apply Kd.S_alloc | apply Kd.S_drewN | apply Kd.S_drew)); exact Kd.S_mono HO216.out (fun _ hk => ⟨hk.1.2, hk.2⟩)⟩, ⟨by (with_reducible repeat (first | apply Kd.S_alloc | apply Kd.S_drewN | apply Kd.S_drew)); exact Kd.S_mono HO221.out (fun _ hk => ⟨hk.1.2, hk.2⟩)⟩, ⟨by (with_reducible repeat (first | apply Kd.S_alloc | apply Kd.S_drewN | apply Kd.S_drew)); exact Kd.S_mono HO226.out (fun _ hk => ⟨hk.1.2, hk.2⟩)⟩, ⟨by repeat (first | (with_reducible first | exact HB.out | apply below_alloc | apply pw_below_drewN | apply below_drew1) | exact HB.out)⟩⟩
           ·rw [if_neg c54] at H
            have c54b0 : (t224 == t214) = false := beq_eq_false_iff_ne.mpr c54
            have c54b1 : (t224 != t214) = true := bne_iff_ne.mpr c54
            obtain rfl := Option.some.inj H
            obtain ⟨Ao57, co57, eo57⟩ := Kd.S_slice HO226.out
            subst eo57
            obtain ⟨Ao58, co58, eo58⟩ := Kd.S_slice HO216.out
            subst eo58
            go_wp2
            go_ret
            exact ⟨by first | rfl | (simp [errW_none, errW_some] <;> rfl) | (simp only [← hji4, ← hji7]; first | rfl | (simp [errW_none, errW_some] <;> rfl)) | (simp [*, errW_none, errW_some] <;> rfl), by repeat (first | (with_reducible first | exact HB.out | apply below_alloc | apply pw_below_drewN | apply below_drew1) | exact HB.out)⟩
          ·rw [if_neg c53] at H
           have c53b0 : (t223 == t213) = false := beq_eq_false_iff_ne.mpr c53
           have c53b1 : (t223 != t213) = true := bne_iff_ne.mpr c53
           obtain rfl := Option.some.inj H
           obtain ⟨Ao59, co59, eo59⟩ := Kd.S_slice HO226.out
           subst eo59
           obtain ⟨Ao60, co60, eo60⟩ := Kd.S_slice HO216.out
           subst eo60
           go_wp2
           go_ret
           exact ⟨by first | rfl | (simp [errW_none, errW_some] <;> rfl) | (simp only [← hji4, ← hji7]; first | rfl | (simp [errW_none, errW_some] <;> rfl)) | (simp [*, errW_none, errW_some] <;> rfl), by repeat (first | (with_reducible first | exact HB.out | apply below_alloc | apply pw_below_drewN | apply below_drew1) | exact HB.out)⟩
         ·rw [if_neg c52] at H
          have c52b0 : ((t222.length : Int) == (t212.length : Int)) = false := beq_eq_false_iff_ne.mpr c52
          have c52b1 : ((t222.length : Int) != (t212.length : Int)) = true := bne_iff_ne.mpr c52
          have c52b2 : (t222.length == t212.length) = false := by first | simpa using c52 | (simp at c52 ⊢; omega)
          obtain rfl := Option.some.inj H
          obtain ⟨Ao61, co61, eo61⟩ := Kd.S_slice HO226.out
          subst eo61
          obtain ⟨Ao62, co62, eo62⟩ := Kd.S_slice HO216.out
          subst eo62
          go_wp2
          go_ret
          exact ⟨by first | rfl | (simp [errW_none, errW_some] <;> rfl) | (simp only [← hji4, ← hji7]; first | rfl | (simp [errW_none, errW_some] <;> rfl)) | (simp [*, errW_none, errW_some] <;> rfl), by repeat (first | (with_reducible first | exact HB.out | apply below_alloc | apply pw_below_drewN | apply below_drew1) | exact HB.out)⟩
       case rest =>
        clear HC15
        try clear c1
        try clear c2
        try clear p2
        try clear c3
        try clear c5
        try clear c5b0
        try clear c5b1
        try clear c6
        try clear c6b0
        try clear c6b1
        try clear p6
        try clear c8
        try clear c8b0
        try clear c8b1
        try clear c9
        try clear c9b0
        try clear c9b1
        try clear c12
        try clear c12b0
        try clear c12b1
        try clear c12b2
        try clear c13
        try clear c13b0
        try clear c13b1
        try clear c13b2
        try clear c20
        try clear c20b0
        try clear c20b1
        try clear c21
        try clear c21b0
        try clear c21b1
        try clear c22
        try clear c22b0
        try clear c22b1
        try clear c23
        try clear c23b0
        try clear c23b1
        try clear c24
        try clear c24b0
        try clear c24b1
        try clear c37
        try clear c37b0
        try clear c37b1
        try clear c38
        try clear c38b0
        try clear c38b1
        try clear c39
        try clear c39b0
        try clear c39b1
        try clear c52
        try clear c52b0
        try clear c52b1
        try clear c52b2
        try clear c53
        try clear c53b0
        try clear c53b1
        try clear c54
        try clear c54b0
        try clear c54b1
        obtain ⟨kq, HA, HJ14, HO_6, HO_9, HO_12, HB⟩ := hcut
        cases kq with
        | zero => exact absurd HA.out (by simp [carcanetlaw25_ScriptLines.j0])
        | succ kj14 =>
         have H := HA.out
         clear HA
         simp only [carcanetlaw25_ScriptLines.j0] at H
         have H' := Aside0.mk H
         clear H
         go_wp2
         go_loopg [16] kj14 (fun kq v16 w' => ∃ (x16_2 : Int), v16 = .int .i64 x16_2 ∧ Aside0 (carcanetlaw25_ScriptLines.l0 kq sx4 t211 t212 t217 t222 x16_2 = some r) ∧ Aside0 (kq ≤ kj14) ∧ Aside0 (Kd.S k34 34 w' w.heap.size (fun k_ => some k_ ≠ (v220 : Value).ownBlock ∧ some k_ ≠ (v225 : Value).ownBlock) v215 t212) ∧ Aside0 (Kd.S k34 34 w' w.heap.size (fun k_ => some k_ ≠ (v215 : Value).ownBlock ∧ some k_ ≠ (v225 : Value).ownBlock) v220 t217) ∧ Aside0 (Kd.S k34 34 w' w.heap.size (fun k_ => some k_ ≠ (v215 : Value).ownBlock ∧ some k_ ≠ (v220 : Value).ownBlock) v225 t222) ∧ Aside0 (Below w.heap.size w w'))
         case atStart => exact ⟨(0), (by first | rfl | (simp; done) | (simp [*]; done)), H', ⟨Nat.le_refl _⟩, ⟨by (with_reducible repeat (first | apply Kd.S_alloc | apply Kd.S_drewN | apply Kd.S_drew)); exact HO_6.out⟩, ⟨by (with_reducible repeat (first | apply Kd.S_alloc | apply Kd.S_drewN | apply Kd.S_drew)); exact HO_9.out⟩, ⟨by (with_reducible repeat (first | apply Kd.S_alloc | apply Kd.S_drewN | apply Kd.S_drew)); exact HO_12.out⟩, ⟨by repeat (first | (with_reducible first | exact HB.out | apply below_alloc | apply pw_below_drewN | apply below_drew1) | exact HB.out)⟩⟩
         case round =>
          clear H'
          try clear c1
          try clear c2
          try clear p2
          try clear c3
          try clear c5
          try clear c5b0
          try clear c5b1
          try clear c6
          try clear c6b0
          try clear c6b1
          try clear p6
          try clear c8
          try clear c8b0
          try clear c8b1
          try clear c9
          try clear c9b0
          try clear c9b1
          try clear c12
          try clear c12b0
          try clear c12b1
          try clear c12b2
          try clear c13
          try clear c13b0
          try clear c13b1
          try clear c13b2
          try clear c20
          try clear c20b0
          try clear c20b1
          try clear c21
          try clear c21b0
          try clear c21b1
          try clear c22
          try clear c22b0
          try clear c22b1
          try clear c23
          try clear c23b0
          try clear c23b1
          try clear c24
          try clear c24b0
          try clear c24b1
          try clear c37
          try clear c37b0
          try clear c37b1
          try clear c38
          try clear c38b0
          try clear c38b1
          try clear c39
          try clear c39b0
          try clear c39b1
          try clear c52
          try clear c52b0
          try clear c52b1
          try clear c52b2
          try clear c53
          try clear c53b0
          try clear c53b1
          try clear c54
          try clear c54b0
          try clear c54b1
          try clear p2
          try clear p6
          obtain ⟨x16_2, rfl, HA, HK2, HO_6, HO_9, HO_12, HB⟩ := hrel
          cases gk with
          | zero => exact absurd HA.out (by simp [carcanetlaw25_ScriptLines.l0])
          | succ k2 =>
           have H := HA.out
           clear HA
           simp only [carcanetlaw25_ScriptLines.l0] at H
           by_cases c63 : x16_2 < (t222.length : Int)
           ·rw [if_pos c63] at H
            have c63b0 : decide (x16_2 < (t222.length : Int)) = true := decide_eq_true c63
            clear c63
            have HC64 := Aside0.mk H
            clear H
            obtain ⟨Ao65, co65, eo65⟩ := Kd.S_slice HO_12.out
            subst eo65
            go_upto_region 18 with (fail)
            go_cut [113] (fun v113 wc => ∃ (kq : Nat) (x113_63 : Bool), v113 = .bool x113_63 ∧ Aside0 (carcanetlaw25_ScriptLines.j2 kq sx4 t211 t212 t217 t222 x16_2 x113_63 = some r) ∧ Aside0 (kq ≤ k2) ∧ Aside0 (Kd.S k34 34 wc w.heap.size (fun k_ => some k_ ≠ (v220 : Value).ownBlock ∧ some k_ ≠ ((.slice Ao65 t222.length co65) : Value).ownBlock) v215 t212) ∧ Aside0 (Kd.S k34 34 wc w.heap.size (fun k_ => some k_ ≠ (v215 : Value).ownBlock ∧ some k_ ≠ ((.slice Ao65 t222.length co65) : Value).ownBlock) v220 t217) ∧ Aside0 (Kd.S k34 34 wc w.heap.size (fun k_ => some k_ ≠ (v215 : Value).ownBlock ∧ some k_ ≠ (v220 : Value).ownBlock) (.slice Ao65 t222.length co65) t222) ∧ Aside0 (Below w.heap.size w wc))
            case first =>
             have H := HC64.out
             clear HC64
             by_cases c66 : x16_2 < (t212.length : Int)
             ·rw [if_pos c66] at H
              have c66b0 : decide (x16_2 < (t212.length : Int)) = true := decide_eq_true c66
              clear c66
              (first | rw [c66b0] | (simp only [i64_w, i32_w]; rw [c66b0]) | skip)
              by_cases c67 : 0 ≤ x16_2
              ·rw [if_pos c67] at H
               have c67b0 : decide (0 ≤ x16_2) = true := decide_eq_true c67
               clear c67
               replace H := Option.bind_eq_some_iff.mp H
               obtain ⟨t229, A680, H⟩ := H
               replace H : (carcanetlaw25_ScriptLines.j2 k2 sx4 t211 t212 t217 t222 x16_2 (!t229)) = some r := H
               have A68 := Aside0.mk A680
               clear A680
               have H' := Aside0.mk H
               clear H
               try go_wp2
               have n0_ := Aside0.mk (Kd.S_drew HO_6.out)
               have n1_ := Aside0.mk (Kd.S_drew HO_9.out)
               have n2_ := Aside0.mk (Kd.S_drew HO_12.out)
               have n3_ := Aside0.mk (below_drew1 HB.out)
               clear HO_6
               clear HO_9
               clear HO_12
               clear HB
               have HO_6 := n0_
               have HO_9 := n1_
               have HO_12 := n2_
               have HB := n3_
               clear n0_ n1_ n2_ n3_
               obtain ⟨Ao70, co70, eo70⟩ := Kd.S_slice HO_6.out
               (first | subst eo70 | (injection eo70 with f1_ f2_ f3_; have f4_ := f1_.symm; have f5_ := f3_.symm; clear f1_ f2_ f3_; subst f4_; subst f5_))
               have p227 : 0 ≤ (x16_2 : Int) := of_decide_eq_true (by first | (with_reducible assumption) | assumption)
               have q227 : x16_2 < (t222.length : Int) := of_decide_eq_true (by first | (with_reducible assumption) | assumption)
               obtain ⟨ad227, A227_3, c227_3, e227, hx227_0, hx227_1, hx227_2, hx227_3, hx227_4, hx227_5, hx227_6, hl227_3, hi227_3⟩ := at_T34 (Kd.S_reads' HO_12.out).2.2 x16_2 p227 q227
               cases e227
               obtain ⟨ce227, hce227, hMe227, hcc227⟩ := Kd.S_get HO_12.out z34 x16_2 p227 (by first | exact q227 | exact of_decide_eq_true (by first | (with_reducible assumption) | assumption) | (have e_ := (Kd.S_reads' HO_12.out).1; omega))
               obtain ⟨ve227_3, rfl, ge227_3⟩ := k34_openM hMe227
               have hv227_3 := hcc227 3 _ rfl
               rw [add_field _ _ 3 (by omega)] at hv227_3
               replace hv227_3 := Option.some.inj (hv227_3.symm.trans hx227_3)
               rw [hv227_3] at ge227_3
               have HL227_3 := Aside0.mk (show Kd.R k39 39 _ _ _ _ ((rd_T34 t222 x16_2).f2.f1) from ge227_3)
               clear hv227_3 ge227_3
               clear hcc227 hce227
               have HR227_3 := Aside0.mk hi227_3
               have HC227_3 := Aside0.mk hl227_3
               clear hi227_3 hl227_3
               replace p227 := eq_true p227
               replace q227 := eq_true q227
               have p228 : 0 ≤ (x16_2 : Int) := of_decide_eq_true (by first | (with_reducible assumption) | assumption)
               have q228 : x16_2 < (t212.length : Int) := of_decide_eq_true (by first | (with_reducible assumption) | assumption)
               obtain ⟨ad228, A228_3, c228_3, e228, hx228_0, hx228_1, hx228_2, hx228_3, hx228_4, hx228_5, hx228_6, hl228_3, hi228_3⟩ := at_T34 (Kd.S_reads' HO_6.out).2.2 x16_2 p228 q228
               cases e228
               obtain ⟨ce228, hce228, hMe228, hcc228⟩ := Kd.S_get HO_6.out z34 x16_2 p228 (by first | exact q228 | exact of_decide_eq_true (by first | (with_reducible assumption) | assumption) | (have e_ := (Kd.S_reads' HO_6.out).1; omega))
               obtain ⟨ve228_3, rfl, ge228_3⟩ := k34_openM hMe228
               have hv228_3 := hcc228 3 _ rfl
               rw [add_field _ _ 3 (by omega)] at hv228_3
               replace hv228_3 := Option.some.inj (hv228_3.symm.trans hx228_3)
               rw [hv228_3] at ge228_3
               have HL228_3 := Aside0.mk (show Kd.R k39 39 _ _ _ _ ((rd_T34 t212 x16_2).f2.f1) from ge228_3)
               clear hv228_3 ge228_3
               clear hcc228 hce228
               have HR228_3 := Aside0.mk hi228_3
               have HC228_3 := Aside0.mk hl228_3
               clear hi228_3 hl228_3
               replace p228 := eq_true p228
               replace q228 := eq_true q228
               refine start_ (n := 16) (S := fun w' => w'.cell? (ad227.add ((x16_2).toNat * 7)) = some (.int .i64 ((rd_T34 t222 x16_2).f0)) ∧ w'.cell? ⟨(ad227.add ((x16_2).toNat * 7)).block, (ad227.add ((x16_2).toNat * 7)).off + 1, none⟩ = some (.string ((rd_T34 t222 x16_2).f1)) ∧ w'.cell? ⟨(ad227.add ((x16_2).toNat * 7)).block, (ad227.add ((x16_2).toNat * 7)).off + 2, none⟩ = some (.int .i64 ((rd_T34 t222 x16_2).f2.f0)) ∧ w'.cell? ⟨(ad227.add ((x16_2).toNat * 7)).block, (ad227.add ((x16_2).toNat * 7)).off + 3, none⟩ = some (.slice A227_3 ((rd_T34 t222 x16_2).f2.f1).length c227_3) ∧ w'.cell? ⟨(ad227.add ((x16_2).toNat * 7)).block, (ad227.add ((x16_2).toNat * 7)).off + 4, none⟩ = some (.int .i64 ((rd_T34 t222 x16_2).f3)) ∧ w'.cell? ⟨(ad227.add ((x16_2).toNat * 7)).block, (ad227.add ((x16_2).toNat * 7)).off + 5, none⟩ = some (.int .i64 ((rd_T34 t222 x16_2).f4)) ∧ w'.cell? ⟨(ad227.add ((x16_2).toNat * 7)).block, (ad227.add ((x16_2).toNat * 7)).off + 6, none⟩ = some (.int .i64 ((rd_T34 t222 x16_2).f5)) ∧ w'.cell? (ad228.add ((x16_2).toNat * 7)) = some (.int .i64 ((rd_T34 t212 x16_2).f0)) ∧ w'.cell? ⟨(ad228.add ((x16_2).toNat * 7)).block, (ad228.add ((x16_2).toNat * 7)).off + 1, none⟩ = some (.string ((rd_T34 t212 x16_2).f1)) ∧ w'.cell? ⟨(ad228.add ((x16_2).toNat * 7)).block, (ad228.add ((x16_2).toNat * 7)).off + 2, none⟩ = some (.int .i64 ((rd_T34 t212 x16_2).f2.f0)) ∧ w'.cell? ⟨(ad228.add ((x16_2).toNat * 7)).block, (ad228.add ((x16_2).toNat * 7)).off + 3, none⟩ = some (.slice A228_3 ((rd_T34 t212 x16_2).f2.f1).length c228_3) ∧ w'.cell? ⟨(ad228.add ((x16_2).toNat * 7)).block, (ad228.add ((x16_2).toNat * 7)).off + 4, none⟩ = some (.int .i64 ((rd_T34 t212 x16_2).f3)) ∧ w'.cell? ⟨(ad228.add ((x16_2).toNat * 7)).block, (ad228.add ((x16_2).toNat * 7)).off + 5, none⟩ = some (.int .i64 ((rd_T34 t212 x16_2).f4)) ∧ w'.cell? ⟨(ad228.add ((x16_2).toNat * 7)).block, (ad228.add ((x16_2).toNat * 7)).off + 6, none⟩ = some (.int .i64 ((rd_T34 t212 x16_2).f5))) (ds := []) #[false, false, false, false, false, false, false, false, false, false, false, false, false, false, false, false] (by kernel_rfl) rfl rfl ⟨hx227_0, hx227_1, hx227_2, hx227_3, hx227_4, hx227_5, hx227_6, hx228_0, hx228_1, hx228_2, hx228_3, hx228_4, hx228_5, hx228_6⟩ (fun hHeld => ?_); refine with_tabW carcanetlaw25_ScriptLines.tab18 carcanetlaw25_ScriptLines.bits18 (fun HT_ HW_ => ?_)
               generalize wr.drew = w69 at HO_6 HO_9 HO_12 HB HL227_3 HL228_3 HR227_3 HR228_3 hx227_0 hx227_1 hx227_2 hx227_3 hx227_4 hx227_5 hx227_6 hx228_0 hx228_1 hx228_2 hx228_3 hx228_4 hx228_5 hx228_6 hHeld ⊢
               refine pure_ (i := 0) (N := some 98) (v := ?_) (a' := ?_) #[true, false, false, false, false, false, false, false, false, false, false, false, false, false, false, false] rfl rfl (any_of HT_.out (by kernel_rfl)) (fun _ _ _ h => h) (Or.inl ⟨by rfl, ?_⟩) ?_ ?_
               rotate_left
               ·intro w'
                go_simp
                with_reducible rfl
               rotate_left
               ·simp only [Act.put, List.setIfInBounds_toArray, List.set_cons_zero, List.set_cons_succ, i64_w, i32_w]
                rfl
               refine pure_ (i := 1) (N := some 99) (v := ?_) (a' := ?_) #[true, true, false, false, false, false, false, false, false, false, false, false, false, false, false, false] rfl rfl (any_of HT_.out (by kernel_rfl)) (fun _ _ _ h => h) (Or.inl ⟨by rfl, ?_⟩) ?_ ?_
               rotate_left
               ·intro w'
                go_simp
                with_reducible rfl
               rotate_left
               ·simp only [Act.put, List.setIfInBounds_toArray, List.set_cons_zero, List.set_cons_succ, i64_w, i32_w]
                rfl
               refine pure_ (i := 2) (N := some 100) (v := ?_) (a' := ?_) #[true, true, true, false, false, false, false, false, false, false, false, false, false, false, false, false] rfl rfl (any_of HT_.out (by kernel_rfl)) (fun _ _ _ h => h) (Or.inl ⟨by rfl, ?_⟩) ?_ ?_
               rotate_left
               ·intro w'
                go_simp
                with_reducible rfl
               rotate_left
               ·simp only [Act.put, List.setIfInBounds_toArray, List.set_cons_zero, List.set_cons_succ, i64_w, i32_w]
                rfl
               refine pure_ (i := 3) (N := some 101) (v := ?_) (a' := ?_) #[true, true, true, true, false, false, false, false, false, false, false, false, false, false, false, false] rfl rfl (any_of HT_.out (by kernel_rfl)) (fun _ _ _ h => h) (Or.inl ⟨by rfl, ?_⟩) ?_ ?_
               rotate_left
               ·intro w'
                go_simp
                with_reducible rfl
               rotate_left
               ·simp only [Act.put, List.setIfInBounds_toArray, List.set_cons_zero, List.set_cons_succ, i64_w, i32_w]
                rfl
               refine pure_ (i := 4) (N := some 102) (v := ?_) (a' := ?_) #[true, true, true, true, true, false, false, false, false, false, false, false, false, false, false, false] rfl rfl (any_of HT_.out (by kernel_rfl)) (fun _ _ _ h => h) (Or.inl ⟨by rfl, ?_⟩) ?_ ?_
               rotate_left
               ·intro w'
                go_simp
                with_reducible rfl
               rotate_left
               ·simp only [Act.put, List.setIfInBounds_toArray, List.set_cons_zero, List.set_cons_succ, i64_w, i32_w]
                rfl
               refine pure_ (i := 5) (N := some 103) (v := ?_) (a' := ?_) #[true, true, true, true, true, true, false, false, false, false, false, false, false, false, false, false] rfl rfl (any_of HT_.out (by kernel_rfl)) (fun _ _ _ h => h) (Or.inl ⟨by rfl, ?_⟩) ?_ ?_
               rotate_left
               ·intro w'
                go_simp
                with_reducible rfl
               rotate_left
               ·simp only [Act.put, List.setIfInBounds_toArray, List.set_cons_zero, List.set_cons_succ, i64_w, i32_w]
                rfl
               refine pure_ (i := 6) (N := some 104) (v := ?_) (a' := ?_) #[true, true, true, true, true, true, true, false, false, false, false, false, false, false, false, false] rfl rfl (any_of HT_.out (by kernel_rfl)) (fun _ _ _ h => h) (Or.inl ⟨by rfl, ?_⟩) ?_ ?_
               rotate_left
               ·intro w'
                go_simp
                with_reducible rfl
               rotate_left
               ·simp only [Act.put, List.setIfInBounds_toArray, List.set_cons_zero, List.set_cons_succ, i64_w, i32_w]
                rfl
               refine pure_ (i := 7) (N := some 105) (v := ?_) (a' := ?_) #[true, true, true, true, true, true, true, true, false, false, false, false, false, false, false, false] rfl rfl (any_of HT_.out (by kernel_rfl)) (fun _ _ _ h => h) (Or.inl ⟨by rfl, ?_⟩) ?_ ?_
               rotate_left
               ·intro w'
                go_simp
                with_reducible rfl
               rotate_left
               ·simp only [Act.put, List.setIfInBounds_toArray, List.set_cons_zero, List.set_cons_succ, i64_w, i32_w]
                rfl
               refine pure_ (i := 9) (N := some 107) (v := ?_) (a' := ?_) #[true, true, true, true, true, true, true, true, false, true, false, false, false, false, false, false] rfl rfl (any_of HT_.out (by kernel_rfl)) (fun _ _ _ h => h) (Or.inl ⟨by rfl, ?_⟩) ?_ ?_
               rotate_left
               ·intro w'
                go_simp
                with_reducible rfl
               rotate_left
               ·simp only [Act.put, List.setIfInBounds_toArray, List.set_cons_zero, List.set_cons_succ, i64_w, i32_w]
                rfl
               refine pure_ (i := 10) (N := some 108) (v := ?_) (a' := ?_) #[true, true, true, true, true, true, true, true, false, true, true, false, false, false, false, false] rfl rfl (any_of HT_.out (by kernel_rfl)) (fun _ _ _ h => h) (Or.inl ⟨by rfl, ?_⟩) ?_ ?_
               rotate_left
               ·intro w'
                go_simp
                with_reducible rfl
               rotate_left
               ·simp only [Act.put, List.setIfInBounds_toArray, List.set_cons_zero, List.set_cons_succ, i64_w, i32_w]
                rfl
               refine pure_ (i := 11) (N := some 109) (v := ?_) (a' := ?_) #[true, true, true, true, true, true, true, true, false, true, true, true, false, false, false, false] rfl rfl (any_of HT_.out (by kernel_rfl)) (fun _ _ _ h => h) (Or.inl ⟨by rfl, ?_⟩) ?_ ?_
               rotate_left
               ·intro w'
                go_simp
                with_reducible rfl
               rotate_left
               ·simp only [Act.put, List.setIfInBounds_toArray, List.set_cons_zero, List.set_cons_succ, i64_w, i32_w]
                rfl
               refine take_ (i := 8) (N := some 106) (v := ?_) (a' := ?_) #[true, true, true, true, true, true, true, true, true, true, true, true, false, false, false, false] rfl rfl (take_ofW HT_.out HW_.out (by kernel_rfl)) (fun _ _ _ h => h) (Or.inl ⟨by rfl, ?_⟩) hHeld ?_ ?_
               rotate_left
               ·rintro w' ⟨s0, s1, s2, s3, s4, s5, s6, s7, s8, s9, s10, s11, s12, s13⟩
                go_simp
                with_reducible rfl
               rotate_left
               ·simp only [Act.put, List.setIfInBounds_toArray, List.set_cons_zero, List.set_cons_succ, i64_w, i32_w]
                rfl
               refine take_ (i := 12) (N := some 110) (v := ?_) (a' := ?_) #[true, true, true, true, true, true, true, true, true, true, true, true, true, false, false, false] rfl rfl (take_ofW HT_.out HW_.out (by kernel_rfl)) (fun _ _ _ h => h) (Or.inl ⟨by rfl, ?_⟩) hHeld ?_ ?_
               rotate_left
               ·rintro w' ⟨s0, s1, s2, s3, s4, s5, s6, s7, s8, s9, s10, s11, s12, s13⟩
                go_simp
                with_reducible rfl
               rotate_left
               ·simp only [Act.put, List.setIfInBounds_toArray, List.set_cons_zero, List.set_cons_succ, i64_w, i32_w]
                rfl
               refine one_ (i := 13) (N := some 111) #[true, true, true, true, true, true, true, true, true, true, true, true, true, true, false, false] rfl rfl (one_of HT_.out (by kernel_rfl)) (by decide) (fun K hK => ?_)
               refine goes_ Tryd.func12 (by kernel_rfl) rfl #[.agg #[.int .i64 ((rd_T34 t222 x16_2).f0), .string ((rd_T34 t222 x16_2).f1), .int .i64 ((rd_T34 t222 x16_2).f2.f0), .slice A227_3 ((rd_T34 t222 x16_2).f2.f1).length c227_3, .int .i64 ((rd_T34 t222 x16_2).f3), .int .i64 ((rd_T34 t222 x16_2).f4), .int .i64 ((rd_T34 t222 x16_2).f5)], .agg #[.int .i64 ((rd_T34 t212 x16_2).f0), .string ((rd_T34 t212 x16_2).f1), .int .i64 ((rd_T34 t212 x16_2).f2.f0), .slice A228_3 ((rd_T34 t212 x16_2).f2.f1).length c228_3, .int .i64 ((rd_T34 t212 x16_2).f3), .int .i64 ((rd_T34 t212 x16_2).f4), .int .i64 ((rd_T34 t212 x16_2).f5)]] (by rfl) rfl rfl (by (try simp only [List.map_toArray, List.map_cons, List.map_nil]); first | done | rfl | (simp only [List.length_drop, List.length_take]; rfl)) ?_
               with_reducible refine (carcanetref25_Same.calls k2 ((rd_T34 t222 x16_2).f0) ((rd_T34 t222 x16_2).f1) ((rd_T34 t222 x16_2).f2.f0) _ _ ((rd_T34 t222 x16_2).f2.f1) ((rd_T34 t222 x16_2).f3) ((rd_T34 t222 x16_2).f4) ((rd_T34 t222 x16_2).f5) ((rd_T34 t212 x16_2).f0) ((rd_T34 t212 x16_2).f1) ((rd_T34 t212 x16_2).f2.f0) _ _ ((rd_T34 t212 x16_2).f2.f1) ((rd_T34 t212 x16_2).f3) ((rd_T34 t212 x16_2).f4) ((rd_T34 t212 x16_2).f5) t229 _ ?side1 ?side2 ?side3 ?side4 A68.out).mono ?_
               (case side1 => repeat (first | exact (by repeat (first | (with_reducible exact HR227_3.out) | (with_reducible refine Kd.C_alloc ?_ _) | (with_reducible refine Kd.C_drewN ?_ _) | (with_reducible refine Kd.C_drew ?_) | exact HR227_3.out)) | (with_reducible refine Kd.C_alloc ?_ _) | (with_reducible refine Kd.C_drewN ?_ _) | (with_reducible refine Kd.C_drew ?_)))
               (case side2 => exact HC227_3.out)
               (case side3 => repeat (first | exact (by repeat (first | (with_reducible exact HR228_3.out) | (with_reducible refine Kd.C_alloc ?_ _) | (with_reducible refine Kd.C_drewN ?_ _) | (with_reducible refine Kd.C_drew ?_) | exact HR228_3.out)) | (with_reducible refine Kd.C_alloc ?_ _) | (with_reducible refine Kd.C_drewN ?_ _) | (with_reducible refine Kd.C_drew ?_)))
               (case side4 => exact HC228_3.out)
               rintro e w71 ⟨rfl, hb⟩
               have HS0_ := (hb.cell (World.block_lt_of_cell? _ _ (hHeld.1))).trans (hHeld.1)
               have HS1_ := (hb.cell (World.block_lt_of_cell? _ _ (hHeld.2.1))).trans (hHeld.2.1)
               have HS2_ := (hb.cell (World.block_lt_of_cell? _ _ (hHeld.2.2.1))).trans (hHeld.2.2.1)
               have HS3_ := (hb.cell (World.block_lt_of_cell? _ _ (hHeld.2.2.2.1))).trans (hHeld.2.2.2.1)
               have HS4_ := (hb.cell (World.block_lt_of_cell? _ _ (hHeld.2.2.2.2.1))).trans (hHeld.2.2.2.2.1)
               have HS5_ := (hb.cell (World.block_lt_of_cell? _ _ (hHeld.2.2.2.2.2.1))).trans (hHeld.2.2.2.2.2.1)
               have HS6_ := (hb.cell (World.block_lt_of_cell? _ _ (hHeld.2.2.2.2.2.2.1))).trans (hHeld.2.2.2.2.2.2.1)
               have HS7_ := (hb.cell (World.block_lt_of_cell? _ _ (hHeld.2.2.2.2.2.2.2.1))).trans (hHeld.2.2.2.2.2.2.2.1)
               have HS8_ := (hb.cell (World.block_lt_of_cell? _ _ (hHeld.2.2.2.2.2.2.2.2.1))).trans (hHeld.2.2.2.2.2.2.2.2.1)
               have HS9_ := (hb.cell (World.block_lt_of_cell? _ _ (hHeld.2.2.2.2.2.2.2.2.2.1))).trans (hHeld.2.2.2.2.2.2.2.2.2.1)
               have HS10_ := (hb.cell (World.block_lt_of_cell? _ _ (hHeld.2.2.2.2.2.2.2.2.2.2.1))).trans (hHeld.2.2.2.2.2.2.2.2.2.2.1)
               have HS11_ := (hb.cell (World.block_lt_of_cell? _ _ (hHeld.2.2.2.2.2.2.2.2.2.2.2.1))).trans (hHeld.2.2.2.2.2.2.2.2.2.2.2.1)
               have HS12_ := (hb.cell (World.block_lt_of_cell? _ _ (hHeld.2.2.2.2.2.2.2.2.2.2.2.2.1))).trans (hHeld.2.2.2.2.2.2.2.2.2.2.2.2.1)
               have HS13_ := (hb.cell (World.block_lt_of_cell? _ _ (hHeld.2.2.2.2.2.2.2.2.2.2.2.2.2))).trans (hHeld.2.2.2.2.2.2.2.2.2.2.2.2.2)
               refine ⟨_, rfl, ?_⟩
               have n0_ := Aside0.mk (Kd.S_below (by (with_reducible repeat (first | apply Kd.S_alloc | apply Kd.S_drewN | apply Kd.S_drew)); exact HO_6.out) hb)
               have n1_ := Aside0.mk (Kd.S_below (by (with_reducible repeat (first | apply Kd.S_alloc | apply Kd.S_drewN | apply Kd.S_drew)); exact HO_9.out) hb)
               have n2_ := Aside0.mk (Kd.S_below (by (with_reducible repeat (first | apply Kd.S_alloc | apply Kd.S_drewN | apply Kd.S_drew)); exact HO_12.out) hb)
               have n3_ := Aside0.mk (Kd.R_below (by (with_reducible repeat (first | apply Kd.R_alloc | apply Kd.R_drewN | apply Kd.R_drew)); exact HL227_3.out) hb)
               have n4_ := Aside0.mk (Kd.R_below (by (with_reducible repeat (first | apply Kd.R_alloc | apply Kd.R_drewN | apply Kd.R_drew)); exact HL228_3.out) hb)
               have n5_ := Aside0.mk (Kd.C_below (by repeat (first | (with_reducible exact HR227_3.out) | (with_reducible refine Kd.C_alloc ?_ _) | (with_reducible refine Kd.C_drewN ?_ _) | (with_reducible refine Kd.C_drew ?_) | exact HR227_3.out)) hb)
               have n6_ := Aside0.mk (Kd.C_below (by repeat (first | (with_reducible exact HR228_3.out) | (with_reducible refine Kd.C_alloc ?_ _) | (with_reducible refine Kd.C_drewN ?_ _) | (with_reducible refine Kd.C_drew ?_) | exact HR228_3.out)) hb)
               have n7_ := Aside0.mk (below_step (by repeat (first | (with_reducible first | exact HB.out | apply below_alloc | apply pw_below_drewN | apply below_drew1) | exact HB.out)) hb)
               clear HO_6
               clear HO_9
               clear HO_12
               clear HL227_3
               clear HL228_3
               clear HR227_3
               clear HR228_3
               clear HB
               have HO_6 := n0_
               have HO_9 := n1_
               have HO_12 := n2_
               have HL227_3 := n3_
               have HL228_3 := n4_
               have HR227_3 := n5_
               have HR228_3 := n6_
               have HB := n7_
               clear n0_ n1_ n2_ n3_ n4_ n5_ n6_ n7_
               (try clear hb)
               (try clear hb2)
               (try clear hk)
               (try clear hi)
               refine hK.out _ _ ⟨HS0_, HS1_, HS2_, HS3_, HS4_, HS5_, HS6_, HS7_, HS8_, HS9_, HS10_, HS11_, HS12_, HS13_⟩ (fun hHeld => ?_)
               clear hK K
               refine norm_ (a' := ?_) ?_ ?_
               rotate_left
               ·show Act.put _ (some 111) _ = _
                simp only [Act.put, List.setIfInBounds_toArray, List.set_cons_zero, List.set_cons_succ, i64_w, i32_w]
                rfl
               refine pure_ (i := 14) (N := some 112) (v := ?_) (a' := ?_) #[true, true, true, true, true, true, true, true, true, true, true, true, true, true, true, false] rfl rfl (any_of HT_.out (by kernel_rfl)) (fun _ _ _ h => h) (Or.inl ⟨by rfl, ?_⟩) ?_ ?_
               rotate_left
               ·intro w'
                go_simp
                with_reducible rfl
               rotate_left
               ·simp only [Act.put, List.setIfInBounds_toArray, List.set_cons_zero, List.set_cons_succ, i64_w, i32_w]
                rfl
               refine pure_ (i := 15) (N := some 113) (v := ?_) (a' := ?_) #[true, true, true, true, true, true, true, true, true, true, true, true, true, true, true, true] rfl rfl (any_of HT_.out (by kernel_rfl)) (fun _ _ _ h => h) (Or.inl ⟨by rfl, ?_⟩) ?_ ?_
               rotate_left
               ·intro w'
                go_simp
                with_reducible rfl
               rotate_left
               ·simp only [Act.put, List.setIfInBounds_toArray, List.set_cons_zero, List.set_cons_succ, i64_w, i32_w]
                rfl
               refine done_ (done_of HT_.out (by kernel_rfl)) ?_
               try go_wp2
               go_meet
               case rel => exact ⟨_, (!t229), (by first | rfl | (simp; done) | (simp [*]; done)), H', ⟨by have := HJ14.out; have := HK2.out; first | omega | exact Nat.le_refl _⟩, ⟨by (with_reducible repeat (first | apply Kd.S_alloc | apply Kd.S_drewN | apply Kd.S_drew)); exact HO_6.out⟩, ⟨by (with_reducible repeat (first | apply Kd.S_alloc | apply Kd.S_drewN | apply Kd.S_drew)); exact HO_9.out⟩, ⟨by (with_reducible repeat (first | apply Kd.S_alloc | apply Kd.S_drewN | apply Kd.S_drew)); exact HO_12.out⟩, ⟨by repeat (first | (with_reducible first | exact HB.out | apply below_alloc | apply pw_below_drewN | apply below_drew1) | exact HB.out)⟩⟩
              ·rw [if_neg c67] at H
               exact absurd H (by simp)
             ·rw [if_neg c66] at H
              have c66b0 : decide (x16_2 < (t212.length : Int)) = false := decide_eq_false c66
              clear c66
              (first | rw [c66b0] | (simp only [i64_w, i32_w]; rw [c66b0]) | skip)
              have H' := Aside0.mk H
              clear H
              try go_wp2
              have n0_ := Aside0.mk (Kd.S_drew HO_6.out)
              have n1_ := Aside0.mk (Kd.S_drew HO_9.out)
              have n2_ := Aside0.mk (Kd.S_drew HO_12.out)
              have n3_ := Aside0.mk (below_drew1 HB.out)
              clear HO_6
              clear HO_9
              clear HO_12
              clear HB
              have HO_6 := n0_
              have HO_9 := n1_
              have HO_12 := n2_
              have HB := n3_
              clear n0_ n1_ n2_ n3_
              obtain ⟨Ao73, co73, eo73⟩ := Kd.S_slice HO_6.out
              (first | subst eo73 | (injection eo73 with f1_ f2_ f3_; have f4_ := f1_.symm; have f5_ := f3_.symm; clear f1_ f2_ f3_; subst f4_; subst f5_))
              refine start_ (n := 16) (S := fun w' => True) (ds := []) #[false, false, false, false, false, false, false, false, false, false, false, false, false, false, false, false] (by kernel_rfl) rfl rfl trivial (fun hHeld => ?_); refine with_tabW carcanetlaw25_ScriptLines.tab18 carcanetlaw25_ScriptLines.bits18 (fun HT_ HW_ => ?_)
              generalize wr.drew = w72 at HO_6 HO_9 HO_12 HB hHeld ⊢
              refine pure_ (i := 0) (N := some 98) (v := ?_) (a' := ?_) #[true, false, false, false, false, false, false, false, false, false, false, false, false, false, false, false] rfl rfl (any_of HT_.out (by kernel_rfl)) (fun _ _ _ h => h) (Or.inl ⟨by rfl, ?_⟩) ?_ ?_
              rotate_left
              ·intro w'
               go_simp
               with_reducible rfl
              rotate_left
              ·simp only [Act.put, List.setIfInBounds_toArray, List.set_cons_zero, List.set_cons_succ, i64_w, i32_w]
               rfl
              refine pure_ (i := 1) (N := some 99) (v := ?_) (a' := ?_) #[true, true, false, false, false, false, false, false, false, false, false, false, false, false, false, false] rfl rfl (any_of HT_.out (by kernel_rfl)) (fun _ _ _ h => h) (Or.inl ⟨by rfl, ?_⟩) ?_ ?_
              rotate_left
              ·intro w'
               go_simp
               with_reducible rfl
              rotate_left
              ·simp only [Act.put, List.setIfInBounds_toArray, List.set_cons_zero, List.set_cons_succ, i64_w, i32_w]
               rfl
              refine pure_ (i := 2) (N := some 100) (v := ?_) (a' := ?_) #[true, true, true, false, false, false, false, false, false, false, false, false, false, false, false, false] rfl rfl (any_of HT_.out (by kernel_rfl)) (fun _ _ _ h => h) (Or.inl ⟨by rfl, ?_⟩) ?_ ?_
              rotate_left
              ·intro w'
               go_simp
               with_reducible rfl
              rotate_left
              ·simp only [Act.put, List.setIfInBounds_toArray, List.set_cons_zero, List.set_cons_succ, i64_w, i32_w]
               rfl
              refine pure_ (i := 3) (N := some 101) (v := ?_) (a' := ?_) #[true, true, true, true, false, false, false, false, false, false, false, false, false, false, false, false] rfl rfl (any_of HT_.out (by kernel_rfl)) (fun _ _ _ h => h) (Or.inl ⟨by rfl, ?_⟩) ?_ ?_
              rotate_left
              ·intro w'
               go_simp
               with_reducible rfl
              rotate_left
              ·simp only [Act.put, List.setIfInBounds_toArray, List.set_cons_zero, List.set_cons_succ, i64_w, i32_w]
               rfl
              refine pure_ (i := 4) (N := some 102) (v := ?_) (a' := ?_) #[true, true, true, true, true, false, false, false, false, false, false, false, false, false, false, false] rfl rfl (any_of HT_.out (by kernel_rfl)) (fun _ _ _ h => h) (Or.inl ⟨by rfl, ?_⟩) ?_ ?_
              rotate_left
              ·intro w'
               go_simp
               with_reducible rfl
              rotate_left
              ·simp only [Act.put, List.setIfInBounds_toArray, List.set_cons_zero, List.set_cons_succ, i64_w, i32_w]
               rfl
              refine pure_ (i := 5) (N := some 103) (v := undef) (a' := ?_) #[true, true, true, true, true, true, false, false, false, false, false, false, false, false, false, false] rfl rfl (any_of HT_.out (by kernel_rfl)) (fun _ _ _ h => h) (Or.inr ⟨by rfl, rfl⟩) ?_ ?_
              rotate_left
              ·simp only [Act.put, List.setIfInBounds_toArray, List.set_cons_zero, List.set_cons_succ, i64_w, i32_w]
               rfl
              refine pure_ (i := 6) (N := some 104) (v := undef) (a' := ?_) #[true, true, true, true, true, true, true, false, false, false, false, false, false, false, false, false] rfl rfl (any_of HT_.out (by kernel_rfl)) (fun _ _ _ h => h) (Or.inr ⟨by rfl, rfl⟩) ?_ ?_
              rotate_left
              ·simp only [Act.put, List.setIfInBounds_toArray, List.set_cons_zero, List.set_cons_succ, i64_w, i32_w]
               rfl
              refine pure_ (i := 7) (N := some 105) (v := undef) (a' := ?_) #[true, true, true, true, true, true, true, true, false, false, false, false, false, false, false, false] rfl rfl (any_of HT_.out (by kernel_rfl)) (fun _ _ _ h => h) (Or.inr ⟨by rfl, rfl⟩) ?_ ?_
              rotate_left
              ·simp only [Act.put, List.setIfInBounds_toArray, List.set_cons_zero, List.set_cons_succ, i64_w, i32_w]
               rfl
              refine pure_ (i := 8) (N := some 106) (v := undef) (a' := ?_) #[true, true, true, true, true, true, true, true, true, false, false, false, false, false, false, false] rfl rfl (any_of HT_.out (by kernel_rfl)) (fun _ _ _ h => h) (Or.inr ⟨by rfl, rfl⟩) ?_ ?_
              rotate_left
              ·simp only [Act.put, List.setIfInBounds_toArray, List.set_cons_zero, List.set_cons_succ, i64_w, i32_w]
               rfl
              refine pure_ (i := 9) (N := some 107) (v := undef) (a' := ?_) #[true, true, true, true, true, true, true, true, true, true, false, false, false, false, false, false] rfl rfl (any_of HT_.out (by kernel_rfl)) (fun _ _ _ h => h) (Or.inr ⟨by rfl, rfl⟩) ?_ ?_
              rotate_left
              ·simp only [Act.put, List.setIfInBounds_toArray, List.set_cons_zero, List.set_cons_succ, i64_w, i32_w]
               rfl
              refine pure_ (i := 10) (N := some 108) (v := undef) (a' := ?_) #[true, true, true, true, true, true, true, true, true, true, true, false, false, false, false, false] rfl rfl (any_of HT_.out (by kernel_rfl)) (fun _ _ _ h => h) (Or.inr ⟨by rfl, rfl⟩) ?_ ?_
              rotate_left
              ·simp only [Act.put, List.setIfInBounds_toArray, List.set_cons_zero, List.set_cons_succ, i64_w, i32_w]
               rfl
              refine pure_ (i := 11) (N := some 109) (v := undef) (a' := ?_) #[true, true, true, true, true, true, true, true, true, true, true, true, false, false, false, false] rfl rfl (any_of HT_.out (by kernel_rfl)) (fun _ _ _ h => h) (Or.inr ⟨by rfl, rfl⟩) ?_ ?_
              rotate_left
              ·simp only [Act.put, List.setIfInBounds_toArray, List.set_cons_zero, List.set_cons_succ, i64_w, i32_w]
               rfl
              refine pure_ (i := 12) (N := some 110) (v := undef) (a' := ?_) #[true, true, true, true, true, true, true, true, true, true, true, true, true, false, false, false] rfl rfl (any_of HT_.out (by kernel_rfl)) (fun _ _ _ h => h) (Or.inr ⟨by rfl, rfl⟩) ?_ ?_
              rotate_left
              ·simp only [Act.put, List.setIfInBounds_toArray, List.set_cons_zero, List.set_cons_succ, i64_w, i32_w]
               rfl
              refine pure_ (i := 13) (N := some 111) (v := undef) (a' := ?_) #[true, true, true, true, true, true, true, true, true, true, true, true, true, true, false, false] rfl rfl (any_of HT_.out (by kernel_rfl)) (fun _ _ _ h => h) (Or.inr ⟨by rfl, rfl⟩) ?_ ?_
              rotate_left
              ·simp only [Act.put, List.setIfInBounds_toArray, List.set_cons_zero, List.set_cons_succ, i64_w, i32_w]
               rfl
              refine pure_ (i := 14) (N := some 112) (v := undef) (a' := ?_) #[true, true, true, true, true, true, true, true, true, true, true, true, true, true, true, false] rfl rfl (any_of HT_.out (by kernel_rfl)) (fun _ _ _ h => h) (Or.inr ⟨by rfl, rfl⟩) ?_ ?_
              rotate_left
              ·simp only [Act.put, List.setIfInBounds_toArray, List.set_cons_zero, List.set_cons_succ, i64_w, i32_w]
               rfl
              refine pure_ (i := 15) (N := some 113) (v := ?_) (a' := ?_) #[true, true, true, true, true, true, true, true, true, true, true, true, true, true, true, true] rfl rfl (any_of HT_.out (by kernel_rfl)) (fun _ _ _ h => h) (Or.inl ⟨by rfl, ?_⟩) ?_ ?_
              rotate_left
              ·intro w'
               go_simp
               with_reducible rfl
              rotate_left
              ·simp only [Act.put, List.setIfInBounds_toArray, List.set_cons_zero, List.set_cons_succ, i64_w, i32_w]
               rfl
              refine done_ (done_of HT_.out (by kernel_rfl)) ?_
              try go_wp2
              go_meet
              case rel => exact ⟨_, (false), (by first | rfl | (simp; done) | (simp [*]; done)), H', ⟨by have := HJ14.out; have := HK2.out; first | omega | exact Nat.le_refl _⟩, ⟨by (with_reducible repeat (first | apply Kd.S_alloc | apply Kd.S_drewN | apply Kd.S_drew)); exact HO_6.out⟩, ⟨by (with_reducible repeat (first | apply Kd.S_alloc | apply Kd.S_drewN | apply Kd.S_drew)); exact HO_9.out⟩, ⟨by (with_reducible repeat (first | apply Kd.S_alloc | apply Kd.S_drewN | apply Kd.S_drew)); exact HO_12.out⟩, ⟨by repeat (first | (with_reducible first | exact HB.out | apply below_alloc | apply pw_below_drewN | apply below_drew1) | exact HB.out)⟩⟩
            case rest =>
             clear HC64
             try clear c1
             try clear c2
             try clear p2
             try clear q2
             try clear hx2
             try clear c3
             try clear c5
             try clear c5b0
             try clear c5b1
             try clear c6
             try clear c6b0
             try clear c6b1
             try clear p6
             try clear c8
             try clear c8b0
             try clear c8b1
             try clear c9
             try clear c9b0
             try clear c9b1
             try clear c12
             try clear c12b0
             try clear c12b1
             try clear c12b2
             try clear c13
             try clear c13b0
             try clear c13b1
             try clear c13b2
             try clear c20
             try clear c20b0
             try clear c20b1
             try clear c21
             try clear c21b0
             try clear c21b1
             try clear c22
             try clear c22b0
             try clear c22b1
             try clear p22
             try clear q22
             try clear hx22
             try clear c23
             try clear c23b0
             try clear c23b1
             try clear c24
             try clear c24b0
             try clear c24b1
             try clear c37
             try clear c37b0
             try clear c37b1
             try clear c38
             try clear c38b0
             try clear c38b1
             try clear c39
             try clear c39b0
             try clear c39b1
             try clear c52
             try clear c52b0
             try clear c52b1
             try clear c52b2
             try clear c53
             try clear c53b0
             try clear c53b1
             try clear c54
             try clear c54b0
             try clear c54b1
             try clear c63
             try clear c63b0
             try clear c66
             try clear c66b0
             try clear c67
             try clear c67b0
             try clear hx227_0
             try clear hx227_1
             try clear hx227_2
             try clear hx227_3
             try clear hx227_4
             try clear hx227_5
             try clear hx227_6
             try clear hx228_0
             try clear hx228_1
             try clear hx228_2
             try clear hx228_3
             try clear hx228_4
             try clear hx228_5
             try clear hx228_6
             try clear p2
             try clear p227
             try clear p228
             try clear p6
             try clear q227
             try clear q228
             obtain ⟨kq, x113_63, rfl, HA, HJ63, HO_6, HO_9, HO_12, HB⟩ := hcut
             cases kq with
             | zero => exact absurd HA.out (by simp [carcanetlaw25_ScriptLines.j2])
             | succ kj63 =>
              have H := HA.out
              clear HA
              simp only [carcanetlaw25_ScriptLines.j2] at H
              by_cases c74 : x113_63 = true
              ·subst c74
               have H1 : (some false) = some r := by rw [if_pos rfl] at H; exact H
               clear H
               have H := H1
               clear H1
               obtain rfl := Option.some.inj H
               go_wp2
               go_ret
               exact ⟨by first | rfl | (simp [errW_none, errW_some] <;> rfl) | (simp only [← hji4, ← hji7]; first | rfl | (simp [errW_none, errW_some] <;> rfl)) | (simp [*, errW_none, errW_some] <;> rfl), by repeat (first | (with_reducible first | exact HB.out | apply below_alloc | apply pw_below_drewN | apply below_drew1) | exact HB.out)⟩
              ·replace c74 := Bool.eq_false_iff.mpr c74
               subst c74
               have H1 : (if x16_2 ≥ (t212.length : Int) then (if 0 ≤ (wrap64 (x16_2 - (t212.length : Int))) then (if (wrap64 (x16_2 - (t212.length : Int))) < (t217.length : Int) then (if 0 ≤ x16_2 then (if x16_2 < (t222.length : Int) then ((carcanetref25_Same.f kj63 ((rd_T34 t222 x16_2).f0) ((rd_T34 t222 x16_2).f1) ((rd_T34 t222 x16_2).f2.f0) ((rd_T34 t222 x16_2).f2.f1) ((rd_T34 t222 x16_2).f3) ((rd_T34 t222 x16_2).f4) ((rd_T34 t222 x16_2).f5) ((rd_T34 t217 (wrap64 (x16_2 - (t212.length : Int)))).f0) ((rd_T34 t217 (wrap64 (x16_2 - (t212.length : Int)))).f1) ((rd_T34 t217 (wrap64 (x16_2 - (t212.length : Int)))).f2.f0) ((rd_T34 t217 (wrap64 (x16_2 - (t212.length : Int)))).f2.f1) ((rd_T34 t217 (wrap64 (x16_2 - (t212.length : Int)))).f3) (wrap64 ((wrap64 (((rd_T34 t217 (wrap64 (x16_2 - (t212.length : Int)))).f4) + (sx4.size : Int))) + 1)) (wrap64 ((wrap64 (((rd_T34 t217 (wrap64 (x16_2 - (t212.length : Int)))).f5) + (sx4.size : Int))) + 1))).bind fun t233 => (if t233 = true then (carcanetlaw25_ScriptLines.l0 kj63 sx4 t211 t212 t217 t222 (wrap64 (x16_2 + 1))) else (some false))) else (none)) else (none)) else (none)) else (none)) else (carcanetlaw25_ScriptLines.l0 kj63 sx4 t211 t212 t217 t222 (wrap64 (x16_2 + 1)))) = some r := by rw [if_neg (show ¬ (false = true) by decide)] at H; exact H
               clear H
               have H := H1
               clear H1
               by_cases c75 : x16_2 ≥ (t212.length : Int)
               ·rw [if_pos c75] at H
                have c75b0 : decide ((t212.length : Int) ≤ x16_2) = true := decide_eq_true c75
                clear c75
                obtain ⟨ji76, hji76⟩ : ∃ j_ : Int, (wrap64 (x16_2 - (t212.length : Int))) = j_ := ⟨_, rfl⟩
                replace H : (if 0 ≤ (ji76) then (if (ji76) < (t217.length : Int) then (if 0 ≤ x16_2 then (if x16_2 < (t222.length : Int) then ((carcanetref25_Same.f kj63 ((rd_T34 t222 x16_2).f0) ((rd_T34 t222 x16_2).f1) ((rd_T34 t222 x16_2).f2.f0) ((rd_T34 t222 x16_2).f2.f1) ((rd_T34 t222 x16_2).f3) ((rd_T34 t222 x16_2).f4) ((rd_T34 t222 x16_2).f5) ((rd_T34 t217 (ji76)).f0) ((rd_T34 t217 (ji76)).f1) ((rd_T34 t217 (ji76)).f2.f0) ((rd_T34 t217 (ji76)).f2.f1) ((rd_T34 t217 (ji76)).f3) (wrap64 ((wrap64 (((rd_T34 t217 (ji76)).f4) + (sx4.size : Int))) + 1)) (wrap64 ((wrap64 (((rd_T34 t217 (ji76)).f5) + (sx4.size : Int))) + 1))).bind fun t233 => (if t233 = true then (carcanetlaw25_ScriptLines.l0 kj63 sx4 t211 t212 t217 t222 (wrap64 (x16_2 + 1))) else (some false))) else (none)) else (none)) else (none)) else (none)) = some r := by first | (rw [hji76] at H; exact H) | (simp only [hji76] at H ⊢; exact H)
                have hji76w : (IntKind.i64.wrap (x16_2 - (t212.length : Int))) = ji76 := (i64_w _).trans hji76
                by_cases c77 : 0 ≤ (ji76)
                ·rw [if_pos c77] at H
                 have c77b0 : decide (0 ≤ (ji76)) = true := decide_eq_true c77
                 clear c77
                 by_cases c78 : (ji76) < (t217.length : Int)
                 ·rw [if_pos c78] at H
                  have c78b0 : decide ((ji76) < (t217.length : Int)) = true := decide_eq_true c78
                  clear c78
                  by_cases c79 : 0 ≤ x16_2
                  ·rw [if_pos c79] at H
                   have c79b0 : decide (0 ≤ x16_2) = true := decide_eq_true c79
                   clear c79
                   by_cases c80 : x16_2 < (t222.length : Int)
                   ·rw [if_pos c80] at H
                    have c80b0 : decide (x16_2 < (t222.length : Int)) = true := decide_eq_true c80
                    clear c80
                    replace H := Option.bind_eq_some_iff.mp H
                    obtain ⟨t233, A810, H⟩ := H
                    replace H : (if t233 = true then (carcanetlaw25_ScriptLines.l0 kj63 sx4 t211 t212 t217 t222 (wrap64 (x16_2 + 1))) else (some false)) = some r := H
                    have A81 := Aside0.mk A810
                    clear A810
                    by_cases c82 : t233 = true
                    ·subst c82
                     have H1 : (carcanetlaw25_ScriptLines.l0 kj63 sx4 t211 t212 t217 t222 (wrap64 (x16_2 + 1))) = some r := by rw [if_pos rfl] at H; exact H
                     clear H
                     have H := H1
                     clear H1
                     have H' := Aside0.mk H
                     clear H
                     obtain ⟨Ao83, co83, eo83⟩ := Kd.S_slice HO_6.out
                     subst eo83
                     obtain ⟨Ao84, co84, eo84⟩ := Kd.S_slice HO_9.out
                     subst eo84
                     have p230 : 0 ≤ ((ji76) : Int) := of_decide_eq_true (by first | (with_reducible assumption) | assumption)
                     have q230 : (ji76) < (t217.length : Int) := of_decide_eq_true (by first | (with_reducible assumption) | assumption)
                     obtain ⟨ad230, A230_3, c230_3, e230, hx230_0, hx230_1, hx230_2, hx230_3, hx230_4, hx230_5, hx230_6, hl230_3, hi230_3⟩ := at_T34 (Kd.S_reads' HO_9.out).2.2 (ji76) p230 q230
                     cases e230
                     obtain ⟨ce230, hce230, hMe230, hcc230⟩ := Kd.S_get HO_9.out z34 (ji76) p230 (by first | exact q230 | exact of_decide_eq_true (by first | (with_reducible assumption) | assumption) | (have e_ := (Kd.S_reads' HO_9.out).1; omega))
                     obtain ⟨ve230_3, rfl, ge230_3⟩ := k34_openM hMe230
                     have hv230_3 := hcc230 3 _ rfl
                     rw [add_field _ _ 3 (by omega)] at hv230_3
                     replace hv230_3 := Option.some.inj (hv230_3.symm.trans hx230_3)
                     rw [hv230_3] at ge230_3
                     have HL230_3 := Aside0.mk (show Kd.R k39 39 _ _ _ _ ((rd_T34 t217 (ji76)).f2.f1) from ge230_3)
                     clear hv230_3 ge230_3
                     clear hcc230 hce230
                     have HR230_3 := Aside0.mk hi230_3
                     have HC230_3 := Aside0.mk hl230_3
                     clear hi230_3 hl230_3
                     replace p230 := eq_true p230
                     replace q230 := eq_true q230
                     try go_wp2_with (first | ((with_reducible refine gate_dst (N := 17) rfl ?_); refine box_event ?hg (N := 17) ?hd (cs := #[.int .i64 0, .string (⟨#[]⟩ : ByteArray), .int .i64 0, .slice none 0 0, .int .i64 0, .int .i64 0, .int .i64 0]) (t := 33) ?hr ?_; (case hd => rfl); (case hg => rfl); (case hr => first | (go_simp; done) | (go_simp; rfl)); intro gb231 hg w85 hbox hb; have n0_ := Aside0.mk (Kd.S_below (by (with_reducible repeat (first | apply Kd.S_alloc | apply Kd.S_drewN | apply Kd.S_drew)); exact HO_6.out) hb); have n1_ := Aside0.mk (Kd.S_below (by (with_reducible repeat (first | apply Kd.S_alloc | apply Kd.S_drewN | apply Kd.S_drew)); exact HO_9.out) hb); have n2_ := Aside0.mk (Kd.S_below (by (with_reducible repeat (first | apply Kd.S_alloc | apply Kd.S_drewN | apply Kd.S_drew)); exact HO_12.out) hb); have n3_ := Aside0.mk (Kd.R_below (by (with_reducible repeat (first | apply Kd.R_alloc | apply Kd.R_drewN | apply Kd.R_drew)); exact HL230_3.out) hb); have n4_ := Aside0.mk (Kd.C_below (by repeat (first | (with_reducible exact HR230_3.out) | (with_reducible refine Kd.C_alloc ?_ _) | (with_reducible refine Kd.C_drewN ?_ _) | (with_reducible refine Kd.C_drew ?_) | exact HR230_3.out)) hb); have n5_ := Aside0.mk (below_step (by repeat (first | (with_reducible first | exact HB.out | apply below_alloc | apply pw_below_drewN | apply below_drew1) | exact HB.out)) hb); have n6_ := Aside0.mk (hbox); have n7_ := Aside0.mk ((by rw [hg]; exact (below_size (by repeat (first | (with_reducible first | exact HB.out | apply below_alloc | apply pw_below_drewN | apply below_drew1) | exact HB.out))) : w.heap.size ≤ gb231)); have n8_ := Aside0.mk ((by rw [hg]; exact (below_size (by repeat (first | (with_reducible first | exact HB.out | apply below_alloc | apply pw_below_drewN | apply below_drew1) | exact HB.out))) : w.heap.size ≤ gb231)); clear HO_6; clear HO_9; clear HO_12; clear HL230_3; clear HR230_3; clear HB; have HO_6 := n0_; have HO_9 := n1_; have HO_12 := n2_; have HL230_3 := n3_; have HR230_3 := n4_; have HB := n5_; have BK231 := n6_; have GW231 := n7_; have GE231 := n8_; clear n0_ n1_ n2_ n3_ n4_ n5_ n6_ n7_ n8_; clear hb hbox hg; have hcz86_0 : w85.cell? ⟨gb231, 0, none⟩ = some (.int .i64 0) := (blk_cell BK231.out 0).trans rfl; have hcz86_1 : w85.cell? ⟨gb231, 1, none⟩ = some (.string (⟨#[]⟩ : ByteArray)) := (blk_cell BK231.out 1).trans rfl; have hcz86_2 : w85.cell? ⟨gb231, 2, none⟩ = some (.int .i64 0) := (blk_cell BK231.out 2).trans rfl; have hcz86_3 : w85.cell? ⟨gb231, 3, none⟩ = some (.slice none 0 0) := (blk_cell BK231.out 3).trans rfl; have hcz86_4 : w85.cell? ⟨gb231, 4, none⟩ = some (.int .i64 0) := (blk_cell BK231.out 4).trans rfl; have hcz86_5 : w85.cell? ⟨gb231, 5, none⟩ = some (.int .i64 0) := (blk_cell BK231.out 5).trans rfl; have hcz86_6 : w85.cell? ⟨gb231, 6, none⟩ = some (.int .i64 0) := (blk_cell BK231.out 6).trans rfl; have hfz86_0 := blk_frozen BK231.out 0; have hfz86_1 := blk_frozen BK231.out 1; have hfz86_2 := blk_frozen BK231.out 2; have hfz86_3 := blk_frozen BK231.out 3; have hfz86_4 := blk_frozen BK231.out 4; have hfz86_5 := blk_frozen BK231.out 5; have hfz86_6 := blk_frozen BK231.out 6))
                     have n0_ : Aside0 (Kd.S k34 34 (((((((((w85.setCell ⟨gb231, 0, none⟩ (.int .i64 ((rd_T34 t217 (ji76)).f0))).setCell ⟨gb231, 1, none⟩ (.string ((rd_T34 t217 (ji76)).f1))).setCell ⟨gb231, 2, none⟩ (.int .i64 ((rd_T34 t217 (ji76)).f2.f0))).setCell ⟨gb231, 3, none⟩ (.slice A230_3 ((rd_T34 t217 (ji76)).f2.f1).length c230_3)).setCell ⟨gb231, 4, none⟩ (.int .i64 ((rd_T34 t217 (ji76)).f3))).setCell ⟨gb231, 5, none⟩ (.int .i64 ((rd_T34 t217 (ji76)).f4))).setCell ⟨gb231, 6, none⟩ (.int .i64 ((rd_T34 t217 (ji76)).f5))).setCell ⟨gb231, 5, none⟩ (.int .i64 (wrap64 ((wrap64 (((rd_T34 t217 (ji76)).f4) + (sx4.size : Int))) + 1)))).setCell ⟨gb231, 6, none⟩ (.int .i64 (wrap64 ((wrap64 (((rd_T34 t217 (ji76)).f5) + (sx4.size : Int))) + 1)))) w.heap.size (fun k_ => some k_ ≠ (.slice (some ad230) t217.length co84 : Value).ownBlock ∧ some k_ ≠ (.slice Ao65 t222.length co65 : Value).ownBlock) (.slice Ao83 t212.length co83) t212) := ⟨by (with_reducible repeat (first | apply Kd.S_alloc | apply Kd.S_drewN | apply Kd.S_drew)); exact Kd.S_mono (Kd.S_far (p := ⟨gb231, 6, none⟩) (Kd.S_far (p := ⟨gb231, 5, none⟩) (Kd.S_far (p := ⟨gb231, 6, none⟩) (Kd.S_far (p := ⟨gb231, 5, none⟩) (Kd.S_far (p := ⟨gb231, 4, none⟩) (Kd.S_far (p := ⟨gb231, 3, none⟩) (Kd.S_far (p := ⟨gb231, 2, none⟩) (Kd.S_far (p := ⟨gb231, 1, none⟩) (Kd.S_far (p := ⟨gb231, 0, none⟩) (Kd.S_types HO_6.out BK231.out (by decide)) (fun _ hk => hk.2) (.int .i64 ((rd_T34 t217 (ji76)).f0))) (fun _ hk => hk.2) (.string ((rd_T34 t217 (ji76)).f1))) (fun _ hk => hk.2) (.int .i64 ((rd_T34 t217 (ji76)).f2.f0))) (fun _ hk => hk.2) (.slice A230_3 ((rd_T34 t217 (ji76)).f2.f1).length c230_3)) (fun _ hk => hk.2) (.int .i64 ((rd_T34 t217 (ji76)).f3))) (fun _ hk => hk.2) (.int .i64 ((rd_T34 t217 (ji76)).f4))) (fun _ hk => hk.2) (.int .i64 ((rd_T34 t217 (ji76)).f5))) (fun _ hk => hk.2) (.int .i64 (wrap64 ((wrap64 (((rd_T34 t217 (ji76)).f4) + (sx4.size : Int))) + 1)))) (fun _ hk => hk.2) (.int .i64 (wrap64 ((wrap64 (((rd_T34 t217 (ji76)).f5) + (sx4.size : Int))) + 1)))) (fun _ hk => ⟨hk.1.1, hk.1.2⟩)⟩
                     have n1_ : Aside0 (Kd.S k34 34 (((((((((w85.setCell ⟨gb231, 0, none⟩ (.int .i64 ((rd_T34 t217 (ji76)).f0))).setCell ⟨gb231, 1, none⟩ (.string ((rd_T34 t217 (ji76)).f1))).setCell ⟨gb231, 2, none⟩ (.int .i64 ((rd_T34 t217 (ji76)).f2.f0))).setCell ⟨gb231, 3, none⟩ (.slice A230_3 ((rd_T34 t217 (ji76)).f2.f1).length c230_3)).setCell ⟨gb231, 4, none⟩ (.int .i64 ((rd_T34 t217 (ji76)).f3))).setCell ⟨gb231, 5, none⟩ (.int .i64 ((rd_T34 t217 (ji76)).f4))).setCell ⟨gb231, 6, none⟩ (.int .i64 ((rd_T34 t217 (ji76)).f5))).setCell ⟨gb231, 5, none⟩ (.int .i64 (wrap64 ((wrap64 (((rd_T34 t217 (ji76)).f4) + (sx4.size : Int))) + 1)))).setCell ⟨gb231, 6, none⟩ (.int .i64 (wrap64 ((wrap64 (((rd_T34 t217 (ji76)).f5) + (sx4.size : Int))) + 1)))) w.heap.size (fun k_ => some k_ ≠ (.slice Ao83 t212.length co83 : Value).ownBlock ∧ some k_ ≠ (.slice Ao65 t222.length co65 : Value).ownBlock) (.slice (some ad230) t217.length co84) t217) := ⟨by (with_reducible repeat (first | apply Kd.S_alloc | apply Kd.S_drewN | apply Kd.S_drew)); exact Kd.S_mono (Kd.S_far (p := ⟨gb231, 6, none⟩) (Kd.S_far (p := ⟨gb231, 5, none⟩) (Kd.S_far (p := ⟨gb231, 6, none⟩) (Kd.S_far (p := ⟨gb231, 5, none⟩) (Kd.S_far (p := ⟨gb231, 4, none⟩) (Kd.S_far (p := ⟨gb231, 3, none⟩) (Kd.S_far (p := ⟨gb231, 2, none⟩) (Kd.S_far (p := ⟨gb231, 1, none⟩) (Kd.S_far (p := ⟨gb231, 0, none⟩) (Kd.S_types HO_9.out BK231.out (by decide)) (fun _ hk => hk.2) (.int .i64 ((rd_T34 t217 (ji76)).f0))) (fun _ hk => hk.2) (.string ((rd_T34 t217 (ji76)).f1))) (fun _ hk => hk.2) (.int .i64 ((rd_T34 t217 (ji76)).f2.f0))) (fun _ hk => hk.2) (.slice A230_3 ((rd_T34 t217 (ji76)).f2.f1).length c230_3)) (fun _ hk => hk.2) (.int .i64 ((rd_T34 t217 (ji76)).f3))) (fun _ hk => hk.2) (.int .i64 ((rd_T34 t217 (ji76)).f4))) (fun _ hk => hk.2) (.int .i64 ((rd_T34 t217 (ji76)).f5))) (fun _ hk => hk.2) (.int .i64 (wrap64 ((wrap64 (((rd_T34 t217 (ji76)).f4) + (sx4.size : Int))) + 1)))) (fun _ hk => hk.2) (.int .i64 (wrap64 ((wrap64 (((rd_T34 t217 (ji76)).f5) + (sx4.size : Int))) + 1)))) (fun _ hk => ⟨hk.1.1, hk.1.2⟩)⟩
                     have n2_ : Aside0 (Kd.S k34 34 (((((((((w85.setCell ⟨gb231, 0, none⟩ (.int .i64 ((rd_T34 t217 (ji76)).f0))).setCell ⟨gb231, 1, none⟩ (.string ((rd_T34 t217 (ji76)).f1))).setCell ⟨gb231, 2, none⟩ (.int .i64 ((rd_T34 t217 (ji76)).f2.f0))).setCell ⟨gb231, 3, none⟩ (.slice A230_3 ((rd_T34 t217 (ji76)).f2.f1).length c230_3)).setCell ⟨gb231, 4, none⟩ (.int .i64 ((rd_T34 t217 (ji76)).f3))).setCell ⟨gb231, 5, none⟩ (.int .i64 ((rd_T34 t217 (ji76)).f4))).setCell ⟨gb231, 6, none⟩ (.int .i64 ((rd_T34 t217 (ji76)).f5))).setCell ⟨gb231, 5, none⟩ (.int .i64 (wrap64 ((wrap64 (((rd_T34 t217 (ji76)).f4) + (sx4.size : Int))) + 1)))).setCell ⟨gb231, 6, none⟩ (.int .i64 (wrap64 ((wrap64 (((rd_T34 t217 (ji76)).f5) + (sx4.size : Int))) + 1)))) w.heap.size (fun k_ => some k_ ≠ (.slice Ao83 t212.length co83 : Value).ownBlock ∧ some k_ ≠ (.slice (some ad230) t217.length co84 : Value).ownBlock) (.slice Ao65 t222.length co65) t222) := ⟨by (with_reducible repeat (first | apply Kd.S_alloc | apply Kd.S_drewN | apply Kd.S_drew)); exact Kd.S_mono (Kd.S_far (p := ⟨gb231, 6, none⟩) (Kd.S_far (p := ⟨gb231, 5, none⟩) (Kd.S_far (p := ⟨gb231, 6, none⟩) (Kd.S_far (p := ⟨gb231, 5, none⟩) (Kd.S_far (p := ⟨gb231, 4, none⟩) (Kd.S_far (p := ⟨gb231, 3, none⟩) (Kd.S_far (p := ⟨gb231, 2, none⟩) (Kd.S_far (p := ⟨gb231, 1, none⟩) (Kd.S_far (p := ⟨gb231, 0, none⟩) (Kd.S_types HO_12.out BK231.out (by decide)) (fun _ hk => hk.2) (.int .i64 ((rd_T34 t217 (ji76)).f0))) (fun _ hk => hk.2) (.string ((rd_T34 t217 (ji76)).f1))) (fun _ hk => hk.2) (.int .i64 ((rd_T34 t217 (ji76)).f2.f0))) (fun _ hk => hk.2) (.slice A230_3 ((rd_T34 t217 (ji76)).f2.f1).length c230_3)) (fun _ hk => hk.2) (.int .i64 ((rd_T34 t217 (ji76)).f3))) (fun _ hk => hk.2) (.int .i64 ((rd_T34 t217 (ji76)).f4))) (fun _ hk => hk.2) (.int .i64 ((rd_T34 t217 (ji76)).f5))) (fun _ hk => hk.2) (.int .i64 (wrap64 ((wrap64 (((rd_T34 t217 (ji76)).f4) + (sx4.size : Int))) + 1)))) (fun _ hk => hk.2) (.int .i64 (wrap64 ((wrap64 (((rd_T34 t217 (ji76)).f5) + (sx4.size : Int))) + 1)))) (fun _ hk => ⟨hk.1.1, hk.1.2⟩)⟩
                     have n3_ : Aside0 (Kd.R k39 39 (((((((((w85.setCell ⟨gb231, 0, none⟩ (.int .i64 ((rd_T34 t217 (ji76)).f0))).setCell ⟨gb231, 1, none⟩ (.string ((rd_T34 t217 (ji76)).f1))).setCell ⟨gb231, 2, none⟩ (.int .i64 ((rd_T34 t217 (ji76)).f2.f0))).setCell ⟨gb231, 3, none⟩ (.slice A230_3 ((rd_T34 t217 (ji76)).f2.f1).length c230_3)).setCell ⟨gb231, 4, none⟩ (.int .i64 ((rd_T34 t217 (ji76)).f3))).setCell ⟨gb231, 5, none⟩ (.int .i64 ((rd_T34 t217 (ji76)).f4))).setCell ⟨gb231, 6, none⟩ (.int .i64 ((rd_T34 t217 (ji76)).f5))).setCell ⟨gb231, 5, none⟩ (.int .i64 (wrap64 ((wrap64 (((rd_T34 t217 (ji76)).f4) + (sx4.size : Int))) + 1)))).setCell ⟨gb231, 6, none⟩ (.int .i64 (wrap64 ((wrap64 (((rd_T34 t217 (ji76)).f5) + (sx4.size : Int))) + 1)))) w.heap.size (fun k_ => some k_ ≠ (.slice Ao83 t212.length co83 : Value).ownBlock ∧ some k_ ≠ (.slice (some ad230) t217.length co84 : Value).ownBlock ∧ some k_ ≠ (.slice Ao65 t222.length co65 : Value).ownBlock) (.slice A230_3 ((rd_T34 t217 (ji76)).f2.f1).length c230_3) ((rd_T34 t217 (ji76)).f2.f1)) := ⟨by (with_reducible repeat (first | apply Kd.R_alloc | apply Kd.R_drewN | apply Kd.R_drew)); exact Kd.R_mono (Kd.R_far (p := ⟨gb231, 6, none⟩) (Kd.R_far (p := ⟨gb231, 5, none⟩) (Kd.R_far (p := ⟨gb231, 6, none⟩) (Kd.R_far (p := ⟨gb231, 5, none⟩) (Kd.R_far (p := ⟨gb231, 4, none⟩) (Kd.R_far (p := ⟨gb231, 3, none⟩) (Kd.R_far (p := ⟨gb231, 2, none⟩) (Kd.R_far (p := ⟨gb231, 1, none⟩) (Kd.R_far (p := ⟨gb231, 0, none⟩) (Kd.R_types HL230_3.out BK231.out (by decide)) (fun _ hk => hk.2) (.int .i64 ((rd_T34 t217 (ji76)).f0))) (fun _ hk => hk.2) (.string ((rd_T34 t217 (ji76)).f1))) (fun _ hk => hk.2) (.int .i64 ((rd_T34 t217 (ji76)).f2.f0))) (fun _ hk => hk.2) (.slice A230_3 ((rd_T34 t217 (ji76)).f2.f1).length c230_3)) (fun _ hk => hk.2) (.int .i64 ((rd_T34 t217 (ji76)).f3))) (fun _ hk => hk.2) (.int .i64 ((rd_T34 t217 (ji76)).f4))) (fun _ hk => hk.2) (.int .i64 ((rd_T34 t217 (ji76)).f5))) (fun _ hk => hk.2) (.int .i64 (wrap64 ((wrap64 (((rd_T34 t217 (ji76)).f4) + (sx4.size : Int))) + 1)))) (fun _ hk => hk.2) (.int .i64 (wrap64 ((wrap64 (((rd_T34 t217 (ji76)).f5) + (sx4.size : Int))) + 1)))) (fun _ hk => ⟨hk.1.1.1, ⟨hk.1.2, hk.1.1.2⟩⟩)⟩
                     have n4_ : Aside0 ((((((((((w85.setCell ⟨gb231, 0, none⟩ (.int .i64 ((rd_T34 t217 (ji76)).f0))).setCell ⟨gb231, 1, none⟩ (.string ((rd_T34 t217 (ji76)).f1))).setCell ⟨gb231, 2, none⟩ (.int .i64 ((rd_T34 t217 (ji76)).f2.f0))).setCell ⟨gb231, 3, none⟩ (.slice A230_3 ((rd_T34 t217 (ji76)).f2.f1).length c230_3)).setCell ⟨gb231, 4, none⟩ (.int .i64 ((rd_T34 t217 (ji76)).f3))).setCell ⟨gb231, 5, none⟩ (.int .i64 ((rd_T34 t217 (ji76)).f4))).setCell ⟨gb231, 6, none⟩ (.int .i64 ((rd_T34 t217 (ji76)).f5))).setCell ⟨gb231, 5, none⟩ (.int .i64 (wrap64 ((wrap64 (((rd_T34 t217 (ji76)).f4) + (sx4.size : Int))) + 1)))).setCell ⟨gb231, 6, none⟩ (.int .i64 (wrap64 ((wrap64 (((rd_T34 t217 (ji76)).f5) + (sx4.size : Int))) + 1)))).heap[gb231]? = some (.cells #[.int .i64 ((rd_T34 t217 (ji76)).f0), .string ((rd_T34 t217 (ji76)).f1), .int .i64 ((rd_T34 t217 (ji76)).f2.f0), .slice A230_3 ((rd_T34 t217 (ji76)).f2.f1).length c230_3, .int .i64 ((rd_T34 t217 (ji76)).f3), .int .i64 (wrap64 ((wrap64 (((rd_T34 t217 (ji76)).f4) + (sx4.size : Int))) + 1)), .int .i64 (wrap64 ((wrap64 (((rd_T34 t217 (ji76)).f5) + (sx4.size : Int))) + 1))] 33 (0, 0))) := ⟨by (with_reducible repeat (first | refine blk_drewN ?_ _ | refine blk_drew ?_ | refine blk_alloc ?_ _)); refine blk_put (cs := #[.int .i64 ((rd_T34 t217 (ji76)).f0), .string ((rd_T34 t217 (ji76)).f1), .int .i64 ((rd_T34 t217 (ji76)).f2.f0), .slice A230_3 ((rd_T34 t217 (ji76)).f2.f1).length c230_3, .int .i64 ((rd_T34 t217 (ji76)).f3), .int .i64 (wrap64 ((wrap64 (((rd_T34 t217 (ji76)).f4) + (sx4.size : Int))) + 1)), .int .i64 ((rd_T34 t217 (ji76)).f5)]) ?_ 6 _ rfl; (with_reducible repeat (first | refine blk_drewN ?_ _ | refine blk_drew ?_ | refine blk_alloc ?_ _)); refine blk_put (cs := #[.int .i64 ((rd_T34 t217 (ji76)).f0), .string ((rd_T34 t217 (ji76)).f1), .int .i64 ((rd_T34 t217 (ji76)).f2.f0), .slice A230_3 ((rd_T34 t217 (ji76)).f2.f1).length c230_3, .int .i64 ((rd_T34 t217 (ji76)).f3), .int .i64 ((rd_T34 t217 (ji76)).f4), .int .i64 ((rd_T34 t217 (ji76)).f5)]) ?_ 5 _ rfl; (with_reducible repeat (first | refine blk_drewN ?_ _ | refine blk_drew ?_ | refine blk_alloc ?_ _)); refine blk_put (cs := #[.int .i64 ((rd_T34 t217 (ji76)).f0), .string ((rd_T34 t217 (ji76)).f1), .int .i64 ((rd_T34 t217 (ji76)).f2.f0), .slice A230_3 ((rd_T34 t217 (ji76)).f2.f1).length c230_3, .int .i64 ((rd_T34 t217 (ji76)).f3), .int .i64 ((rd_T34 t217 (ji76)).f4), .int .i64 0]) ?_ 6 _ rfl; (with_reducible repeat (first | refine blk_drewN ?_ _ | refine blk_drew ?_ | refine blk_alloc ?_ _)); refine blk_put (cs := #[.int .i64 ((rd_T34 t217 (ji76)).f0), .string ((rd_T34 t217 (ji76)).f1), .int .i64 ((rd_T34 t217 (ji76)).f2.f0), .slice A230_3 ((rd_T34 t217 (ji76)).f2.f1).length c230_3, .int .i64 ((rd_T34 t217 (ji76)).f3), .int .i64 0, .int .i64 0]) ?_ 5 _ rfl; (with_reducible repeat (first | refine blk_drewN ?_ _ | refine blk_drew ?_ | refine blk_alloc ?_ _)); refine blk_put (cs := #[.int .i64 ((rd_T34 t217 (ji76)).f0), .string ((rd_T34 t217 (ji76)).f1), .int .i64 ((rd_T34 t217 (ji76)).f2.f0), .slice A230_3 ((rd_T34 t217 (ji76)).f2.f1).length c230_3, .int .i64 0, .int .i64 0, .int .i64 0]) ?_ 4 _ rfl; (with_reducible repeat (first | refine blk_drewN ?_ _ | refine blk_drew ?_ | refine blk_alloc ?_ _)); refine blk_put (cs := #[.int .i64 ((rd_T34 t217 (ji76)).f0), .string ((rd_T34 t217 (ji76)).f1), .int .i64 ((rd_T34 t217 (ji76)).f2.f0), .slice none 0 0, .int .i64 0, .int .i64 0, .int .i64 0]) ?_ 3 _ rfl; (with_reducible repeat (first | refine blk_drewN ?_ _ | refine blk_drew ?_ | refine blk_alloc ?_ _)); refine blk_put (cs := #[.int .i64 ((rd_T34 t217 (ji76)).f0), .string ((rd_T34 t217 (ji76)).f1), .int .i64 0, .slice none 0 0, .int .i64 0, .int .i64 0, .int .i64 0]) ?_ 2 _ rfl; (with_reducible repeat (first | refine blk_drewN ?_ _ | refine blk_drew ?_ | refine blk_alloc ?_ _)); refine blk_put (cs := #[.int .i64 ((rd_T34 t217 (ji76)).f0), .string (⟨#[]⟩ : ByteArray), .int .i64 0, .slice none 0 0, .int .i64 0, .int .i64 0, .int .i64 0]) ?_ 1 _ rfl; (with_reducible repeat (first | refine blk_drewN ?_ _ | refine blk_drew ?_ | refine blk_alloc ?_ _)); refine blk_put (cs := #[.int .i64 0, .string (⟨#[]⟩ : ByteArray), .int .i64 0, .slice none 0 0, .int .i64 0, .int .i64 0, .int .i64 0]) ?_ 0 _ rfl; (with_reducible repeat (first | refine blk_drewN ?_ _ | refine blk_drew ?_ | refine blk_alloc ?_ _)); exact BK231.out⟩
                     have n5_ : Aside0 (Below w.heap.size w (((((((((w85.setCell ⟨gb231, 0, none⟩ (.int .i64 ((rd_T34 t217 (ji76)).f0))).setCell ⟨gb231, 1, none⟩ (.string ((rd_T34 t217 (ji76)).f1))).setCell ⟨gb231, 2, none⟩ (.int .i64 ((rd_T34 t217 (ji76)).f2.f0))).setCell ⟨gb231, 3, none⟩ (.slice A230_3 ((rd_T34 t217 (ji76)).f2.f1).length c230_3)).setCell ⟨gb231, 4, none⟩ (.int .i64 ((rd_T34 t217 (ji76)).f3))).setCell ⟨gb231, 5, none⟩ (.int .i64 ((rd_T34 t217 (ji76)).f4))).setCell ⟨gb231, 6, none⟩ (.int .i64 ((rd_T34 t217 (ji76)).f5))).setCell ⟨gb231, 5, none⟩ (.int .i64 (wrap64 ((wrap64 (((rd_T34 t217 (ji76)).f4) + (sx4.size : Int))) + 1)))).setCell ⟨gb231, 6, none⟩ (.int .i64 (wrap64 ((wrap64 (((rd_T34 t217 (ji76)).f5) + (sx4.size : Int))) + 1))))) := ⟨by repeat (first | (with_reducible first | exact HB.out | apply below_alloc | apply pw_below_drewN | apply below_drew1 | refine below_set ?_ GE231.out) | exact HB.out)⟩
                     (try clear HO_6)
                     (try clear HO_9)
                     (try clear HO_12)
                     (try clear HL230_3)
                     (try clear BK231)
                     (try clear HB)
                     generalize (((((((((w85.setCell ⟨gb231, 0, none⟩ (.int .i64 ((rd_T34 t217 (ji76)).f0))).setCell ⟨gb231, 1, none⟩ (.string ((rd_T34 t217 (ji76)).f1))).setCell ⟨gb231, 2, none⟩ (.int .i64 ((rd_T34 t217 (ji76)).f2.f0))).setCell ⟨gb231, 3, none⟩ (.slice A230_3 ((rd_T34 t217 (ji76)).f2.f1).length c230_3)).setCell ⟨gb231, 4, none⟩ (.int .i64 ((rd_T34 t217 (ji76)).f3))).setCell ⟨gb231, 5, none⟩ (.int .i64 ((rd_T34 t217 (ji76)).f4))).setCell ⟨gb231, 6, none⟩ (.int .i64 ((rd_T34 t217 (ji76)).f5))).setCell ⟨gb231, 5, none⟩ (.int .i64 (wrap64 ((wrap64 (((rd_T34 t217 (ji76)).f4) + (sx4.size : Int))) + 1)))).setCell ⟨gb231, 6, none⟩ (.int .i64 (wrap64 ((wrap64 (((rd_T34 t217 (ji76)).f5) + (sx4.size : Int))) + 1)))) = w87 at n0_ n1_ n2_ n3_ n4_ n5_ ⊢
                     have HO_6 := n0_
                     have HO_9 := n1_
                     have HO_12 := n2_
                     have HL230_3 := n3_
                     have BK231 := n4_
                     have HB := n5_
                     clear n0_ n1_ n2_ n3_ n4_ n5_
                     have n0_ := Aside0.mk (Kd.S_drew HO_6.out)
                     have n1_ := Aside0.mk (Kd.S_drew HO_9.out)
                     have n2_ := Aside0.mk (Kd.S_drew HO_12.out)
                     have n3_ := Aside0.mk (Kd.R_drew HL230_3.out)
                     have n4_ := Aside0.mk (blk_drew BK231.out)
                     have n5_ := Aside0.mk (below_drew1 HB.out)
                     clear HO_6
                     clear HO_9
                     clear HO_12
                     clear HL230_3
                     clear BK231
                     clear HB
                     have HO_6 := n0_
                     have HO_9 := n1_
                     have HO_12 := n2_
                     have HL230_3 := n3_
                     have BK231 := n4_
                     have HB := n5_
                     clear n0_ n1_ n2_ n3_ n4_ n5_
                     have p232 : 0 ≤ (x16_2 : Int) := of_decide_eq_true (by first | (with_reducible assumption) | assumption)
                     have q232 : x16_2 < (t222.length : Int) := of_decide_eq_true (by first | (with_reducible assumption) | assumption)
                     obtain ⟨ad232, A232_3, c232_3, e232, hx232_0, hx232_1, hx232_2, hx232_3, hx232_4, hx232_5, hx232_6, hl232_3, hi232_3⟩ := at_T34 (Kd.S_reads' HO_12.out).2.2 x16_2 p232 q232
                     cases e232
                     obtain ⟨ce232, hce232, hMe232, hcc232⟩ := Kd.S_get HO_12.out z34 x16_2 p232 (by first | exact q232 | exact of_decide_eq_true (by first | (with_reducible assumption) | assumption) | (have e_ := (Kd.S_reads' HO_12.out).1; omega))
                     obtain ⟨ve232_3, rfl, ge232_3⟩ := k34_openM hMe232
                     have hv232_3 := hcc232 3 _ rfl
                     rw [add_field _ _ 3 (by omega)] at hv232_3
                     replace hv232_3 := Option.some.inj (hv232_3.symm.trans hx232_3)
                     rw [hv232_3] at ge232_3
                     have HL232_3 := Aside0.mk (show Kd.R k39 39 _ _ _ _ ((rd_T34 t222 x16_2).f2.f1) from ge232_3)
                     clear hv232_3 ge232_3
                     clear hcc232 hce232
                     have HR232_3 := Aside0.mk hi232_3
                     have HC232_3 := Aside0.mk hl232_3
                     clear hi232_3 hl232_3
                     replace p232 := eq_true p232
                     replace q232 := eq_true q232
                     refine start_ (n := 7) (S := fun w' => w'.cell? ⟨gb231, 0, none⟩ = some (.int .i64 ((rd_T34 t217 (ji76)).f0)) ∧ w'.cell? ⟨gb231, 1, none⟩ = some (.string ((rd_T34 t217 (ji76)).f1)) ∧ w'.cell? ⟨gb231, 2, none⟩ = some (.int .i64 ((rd_T34 t217 (ji76)).f2.f0)) ∧ w'.cell? ⟨gb231, 3, none⟩ = some (.slice A230_3 ((rd_T34 t217 (ji76)).f2.f1).length c230_3) ∧ w'.cell? ⟨gb231, 4, none⟩ = some (.int .i64 ((rd_T34 t217 (ji76)).f3)) ∧ w'.cell? ⟨gb231, 5, none⟩ = some (.int .i64 (wrap64 ((wrap64 (((rd_T34 t217 (ji76)).f4) + (sx4.size : Int))) + 1))) ∧ w'.cell? ⟨gb231, 6, none⟩ = some (.int .i64 (wrap64 ((wrap64 (((rd_T34 t217 (ji76)).f5) + (sx4.size : Int))) + 1))) ∧ w'.cell? (ad232.add ((x16_2).toNat * 7)) = some (.int .i64 ((rd_T34 t222 x16_2).f0)) ∧ w'.cell? ⟨(ad232.add ((x16_2).toNat * 7)).block, (ad232.add ((x16_2).toNat * 7)).off + 1, none⟩ = some (.string ((rd_T34 t222 x16_2).f1)) ∧ w'.cell? ⟨(ad232.add ((x16_2).toNat * 7)).block, (ad232.add ((x16_2).toNat * 7)).off + 2, none⟩ = some (.int .i64 ((rd_T34 t222 x16_2).f2.f0)) ∧ w'.cell? ⟨(ad232.add ((x16_2).toNat * 7)).block, (ad232.add ((x16_2).toNat * 7)).off + 3, none⟩ = some (.slice A232_3 ((rd_T34 t222 x16_2).f2.f1).length c232_3) ∧ w'.cell? ⟨(ad232.add ((x16_2).toNat * 7)).block, (ad232.add ((x16_2).toNat * 7)).off + 4, none⟩ = some (.int .i64 ((rd_T34 t222 x16_2).f3)) ∧ w'.cell? ⟨(ad232.add ((x16_2).toNat * 7)).block, (ad232.add ((x16_2).toNat * 7)).off + 5, none⟩ = some (.int .i64 ((rd_T34 t222 x16_2).f4)) ∧ w'.cell? ⟨(ad232.add ((x16_2).toNat * 7)).block, (ad232.add ((x16_2).toNat * 7)).off + 6, none⟩ = some (.int .i64 ((rd_T34 t222 x16_2).f5))) (ds := []) #[false, false, false, false, false, false, false] (by kernel_rfl) rfl rfl ⟨(blk_cell BK231.out 0).trans rfl, (blk_cell BK231.out 1).trans rfl, (blk_cell BK231.out 2).trans rfl, (blk_cell BK231.out 3).trans rfl, (blk_cell BK231.out 4).trans rfl, (blk_cell BK231.out 5).trans rfl, (blk_cell BK231.out 6).trans rfl, hx232_0, hx232_1, hx232_2, hx232_3, hx232_4, hx232_5, hx232_6⟩ (fun hHeld => ?_)
                     generalize w87.drew = w88 at HO_6 HO_9 HO_12 HL230_3 BK231 HB HL232_3 HR232_3 hx232_0 hx232_1 hx232_2 hx232_3 hx232_4 hx232_5 hx232_6 hHeld ⊢
                     refine pure_ (i := 0) (N := some 139) (v := ?_) (a' := ?_) #[true, false, false, false, false, false, false] rfl rfl (by kernel_rfl) (fun _ _ _ h => h) (Or.inl ⟨by rfl, ?_⟩) ?_ ?_
                     rotate_left
                     ·intro w'
                      go_simp
                      with_reducible rfl
                     rotate_left
                     ·simp only [Act.put, List.setIfInBounds_toArray, List.set_cons_zero, List.set_cons_succ, i64_w, i32_w]
                      rfl
                     refine pure_ (i := 1) (N := some 140) (v := ?_) (a' := ?_) #[true, true, false, false, false, false, false] rfl rfl (by kernel_rfl) (fun _ _ _ h => h) (Or.inl ⟨by rfl, ?_⟩) ?_ ?_
                     rotate_left
                     ·intro w'
                      go_simp
                      with_reducible rfl
                     rotate_left
                     ·simp only [Act.put, List.setIfInBounds_toArray, List.set_cons_zero, List.set_cons_succ, i64_w, i32_w]
                      rfl
                     refine pure_ (i := 2) (N := some 141) (v := ?_) (a' := ?_) #[true, true, true, false, false, false, false] rfl rfl (by kernel_rfl) (fun _ _ _ h => h) (Or.inl ⟨by rfl, ?_⟩) ?_ ?_
                     rotate_left
                     ·intro w'
                      go_simp
                      with_reducible rfl
                     rotate_left
                     ·simp only [Act.put, List.setIfInBounds_toArray, List.set_cons_zero, List.set_cons_succ, i64_w, i32_w]
                      rfl
                     refine take_ (i := 3) (N := some 142) (v := ?_) (a' := ?_) #[true, true, true, true, false, false, false] rfl rfl (by kernel_rfl) (fun _ _ _ h => h) (Or.inl ⟨by rfl, ?_⟩) hHeld ?_ ?_
                     rotate_left
                     ·rintro w' ⟨s0, s1, s2, s3, s4, s5, s6, s7, s8, s9, s10, s11, s12, s13⟩
                      go_simp
                      with_reducible rfl
                     rotate_left
                     ·simp only [Act.put, List.setIfInBounds_toArray, List.set_cons_zero, List.set_cons_succ, i64_w, i32_w]
                      rfl
                     refine take_ (i := 4) (N := some 143) (v := ?_) (a' := ?_) #[true, true, true, true, true, false, false] rfl rfl (by kernel_rfl) (fun _ _ _ h => h) (Or.inl ⟨by rfl, ?_⟩) hHeld ?_ ?_
                     rotate_left
                     ·rintro w' ⟨s0, s1, s2, s3, s4, s5, s6, s7, s8, s9, s10, s11, s12, s13⟩
                      go_simp
                      with_reducible rfl
                     rotate_left
                     ·simp only [Act.put, List.setIfInBounds_toArray, List.set_cons_zero, List.set_cons_succ, i64_w, i32_w]
                      rfl
                     refine one_ (i := 5) (N := some 144) #[true, true, true, true, true, true, false] rfl rfl (by kernel_rfl) (by decide) (fun K hK => ?_)
                     refine goes_ Tryd.func12 (by kernel_rfl) rfl #[.agg #[.int .i64 ((rd_T34 t222 x16_2).f0), .string ((rd_T34 t222 x16_2).f1), .int .i64 ((rd_T34 t222 x16_2).f2.f0), .slice A232_3 ((rd_T34 t222 x16_2).f2.f1).length c232_3, .int .i64 ((rd_T34 t222 x16_2).f3), .int .i64 ((rd_T34 t222 x16_2).f4), .int .i64 ((rd_T34 t222 x16_2).f5)], .agg #[.int .i64 ((rd_T34 t217 (ji76)).f0), .string ((rd_T34 t217 (ji76)).f1), .int .i64 ((rd_T34 t217 (ji76)).f2.f0), .slice A230_3 ((rd_T34 t217 (ji76)).f2.f1).length c230_3, .int .i64 ((rd_T34 t217 (ji76)).f3), .int .i64 (wrap64 ((wrap64 (((rd_T34 t217 (ji76)).f4) + (sx4.size : Int))) + 1)), .int .i64 (wrap64 ((wrap64 (((rd_T34 t217 (ji76)).f5) + (sx4.size : Int))) + 1))]] (by rfl) rfl rfl (by (try simp only [List.map_toArray, List.map_cons, List.map_nil]); first | done | (simp only [hji4, hji76]; rfl) | rfl | (simp only [List.length_drop, List.length_take]; rfl)) ?_
                     with_reducible refine (carcanetref25_Same.calls kj63 ((rd_T34 t222 x16_2).f0) ((rd_T34 t222 x16_2).f1) ((rd_T34 t222 x16_2).f2.f0) _ _ ((rd_T34 t222 x16_2).f2.f1) ((rd_T34 t222 x16_2).f3) ((rd_T34 t222 x16_2).f4) ((rd_T34 t222 x16_2).f5) ((rd_T34 t217 (ji76)).f0) ((rd_T34 t217 (ji76)).f1) ((rd_T34 t217 (ji76)).f2.f0) _ _ ((rd_T34 t217 (ji76)).f2.f1) ((rd_T34 t217 (ji76)).f3) (wrap64 ((wrap64 (((rd_T34 t217 (ji76)).f4) + (sx4.size : Int))) + 1)) (wrap64 ((wrap64 (((rd_T34 t217 (ji76)).f5) + (sx4.size : Int))) + 1)) true _ ?side1 ?side2 ?side3 ?side4 A81.out).mono ?_
                     (case side1 => repeat (first | exact (by repeat (first | (with_reducible exact HR232_3.out) | (with_reducible refine Kd.C_alloc ?_ _) | (with_reducible refine Kd.C_drewN ?_ _) | (with_reducible refine Kd.C_drew ?_) | exact HR232_3.out)) | (with_reducible refine Kd.C_alloc ?_ _) | (with_reducible refine Kd.C_drewN ?_ _) | (with_reducible refine Kd.C_drew ?_)))
                     (case side2 => exact HC232_3.out)
                     (case side3 => repeat (first | exact ((Kd.R_reads' (by (with_reducible repeat (first | apply Kd.R_alloc | apply Kd.R_drewN | apply Kd.R_drew)); exact HL230_3.out)).2.2) | (with_reducible refine Kd.C_alloc ?_ _) | (with_reducible refine Kd.C_drewN ?_ _) | (with_reducible refine Kd.C_drew ?_)))
                     (case side4 => exact HC230_3.out)
                     rintro e w89 ⟨rfl, hb⟩
                     have HS7_ := (hb.cell (World.block_lt_of_cell? _ _ (hHeld.2.2.2.2.2.2.2.1))).trans (hHeld.2.2.2.2.2.2.2.1)
                     have HS8_ := (hb.cell (World.block_lt_of_cell? _ _ (hHeld.2.2.2.2.2.2.2.2.1))).trans (hHeld.2.2.2.2.2.2.2.2.1)
                     have HS9_ := (hb.cell (World.block_lt_of_cell? _ _ (hHeld.2.2.2.2.2.2.2.2.2.1))).trans (hHeld.2.2.2.2.2.2.2.2.2.1)
                     have HS10_ := (hb.cell (World.block_lt_of_cell? _ _ (hHeld.2.2.2.2.2.2.2.2.2.2.1))).trans (hHeld.2.2.2.2.2.2.2.2.2.2.1)
                     have HS11_ := (hb.cell (World.block_lt_of_cell? _ _ (hHeld.2.2.2.2.2.2.2.2.2.2.2.1))).trans (hHeld.2.2.2.2.2.2.2.2.2.2.2.1)
                     have HS12_ := (hb.cell (World.block_lt_of_cell? _ _ (hHeld.2.2.2.2.2.2.2.2.2.2.2.2.1))).trans (hHeld.2.2.2.2.2.2.2.2.2.2.2.2.1)
                     have HS13_ := (hb.cell (World.block_lt_of_cell? _ _ (hHeld.2.2.2.2.2.2.2.2.2.2.2.2.2))).trans (hHeld.2.2.2.2.2.2.2.2.2.2.2.2.2)
                     refine ⟨_, rfl, ?_⟩
                     have n0_ := Aside0.mk (Kd.S_below (by (with_reducible repeat (first | apply Kd.S_alloc | apply Kd.S_drewN | apply Kd.S_drew)); exact HO_6.out) hb)
                     have n1_ := Aside0.mk (Kd.S_below (by (with_reducible repeat (first | apply Kd.S_alloc | apply Kd.S_drewN | apply Kd.S_drew)); exact HO_9.out) hb)
                     have n2_ := Aside0.mk (Kd.S_below (by (with_reducible repeat (first | apply Kd.S_alloc | apply Kd.S_drewN | apply Kd.S_drew)); exact HO_12.out) hb)
                     have n3_ := Aside0.mk (Kd.R_below (by (with_reducible repeat (first | apply Kd.R_alloc | apply Kd.R_drewN | apply Kd.R_drew)); exact HL230_3.out) hb)
                     have n4_ := Aside0.mk (Kd.R_below (by (with_reducible repeat (first | apply Kd.R_alloc | apply Kd.R_drewN | apply Kd.R_drew)); exact HL232_3.out) hb)
                     have n5_ := Aside0.mk (blk_below (g := gb231) (o := .cells #[.int .i64 ((rd_T34 t217 (ji76)).f0), .string ((rd_T34 t217 (ji76)).f1), .int .i64 ((rd_T34 t217 (ji76)).f2.f0), .slice A230_3 ((rd_T34 t217 (ji76)).f2.f1).length c230_3, .int .i64 ((rd_T34 t217 (ji76)).f3), .int .i64 (wrap64 ((wrap64 (((rd_T34 t217 (ji76)).f4) + (sx4.size : Int))) + 1)), .int .i64 (wrap64 ((wrap64 (((rd_T34 t217 (ji76)).f5) + (sx4.size : Int))) + 1))] 33 (0, 0)) (by (with_reducible repeat (first | refine blk_drewN ?_ _ | refine blk_drew ?_ | refine blk_alloc ?_ _)); exact BK231.out) hb)
                     have n6_ := Aside0.mk (Kd.C_below (by repeat (first | (with_reducible exact HR232_3.out) | (with_reducible refine Kd.C_alloc ?_ _) | (with_reducible refine Kd.C_drewN ?_ _) | (with_reducible refine Kd.C_drew ?_) | exact HR232_3.out)) hb)
                     have n7_ := Aside0.mk (below_step (by repeat (first | (with_reducible first | exact HB.out | apply below_alloc | apply pw_below_drewN | apply below_drew1 | refine below_set ?_ GE231.out) | exact HB.out)) hb)
                     clear HO_6
                     clear HO_9
                     clear HO_12
                     clear HL230_3
                     clear HL232_3
                     clear BK231
                     clear HR232_3
                     clear HB
                     have HO_6 := n0_
                     have HO_9 := n1_
                     have HO_12 := n2_
                     have HL230_3 := n3_
                     have HL232_3 := n4_
                     have BK231 := n5_
                     have HR232_3 := n6_
                     have HB := n7_
                     clear n0_ n1_ n2_ n3_ n4_ n5_ n6_ n7_
                     (try clear hb)
                     (try clear hb2)
                     (try clear hk)
                     (try clear hi)
                     refine hK.out _ _ ⟨(blk_cell BK231.out 0).trans rfl, (blk_cell BK231.out 1).trans rfl, (blk_cell BK231.out 2).trans rfl, (blk_cell BK231.out 3).trans rfl, (blk_cell BK231.out 4).trans rfl, (blk_cell BK231.out 5).trans rfl, (blk_cell BK231.out 6).trans rfl, HS7_, HS8_, HS9_, HS10_, HS11_, HS12_, HS13_⟩ (fun hHeld => ?_)
                     clear hK K
                     refine norm_ (a' := ?_) ?_ ?_
                     rotate_left
                     ·show Act.put _ (some 144) _ = _
                      simp only [Act.put, List.setIfInBounds_toArray, List.set_cons_zero, List.set_cons_succ, i64_w, i32_w]
                      rfl
                     refine pure_ (i := 6) (N := some 145) (v := ?_) (a' := ?_) #[true, true, true, true, true, true, true] rfl rfl (by kernel_rfl) (fun _ _ _ h => h) (Or.inl ⟨by rfl, ?_⟩) ?_ ?_
                     rotate_left
                     ·intro w'
                      go_simp
                      with_reducible rfl
                     rotate_left
                     ·simp only [Act.put, List.setIfInBounds_toArray, List.set_cons_zero, List.set_cons_succ, i64_w, i32_w]
                      rfl
                     refine done_ (by kernel_rfl) ?_
                     try go_wp2
                     go_roundg kj63
                     case measure => have := HJ14.out; have := HK2.out; have := HJ63.out; omega
                     case rel => exact ⟨(wrap64 (x16_2 + 1)), (by first | rfl | (simp; done) | (simp [*]; done)), H', ⟨by have := HJ14.out; have := HK2.out; have := HJ63.out; omega⟩, ⟨by (with_reducible repeat (first | apply Kd.S_alloc | apply Kd.S_drewN | apply Kd.S_drew)); exact HO_6.out⟩, ⟨by (with_reducible repeat (first | apply Kd.S_alloc | apply Kd.S_drewN | apply Kd.S_drew)); exact HO_9.out⟩, ⟨by (with_reducible repeat (first | apply Kd.S_alloc | apply Kd.S_drewN | apply Kd.S_drew)); exact HO_12.out⟩, ⟨by repeat (first | (with_reducible first | exact HB.out | apply below_alloc | apply pw_below_drewN | apply below_drew1 | refine below_set ?_ GE231.out) | exact HB.out)⟩⟩
                    ·replace c82 := Bool.eq_false_iff.mpr c82
                     subst c82
                     have H1 : (some false) = some r := by rw [if_neg (show ¬ (false = true) by decide)] at H; exact H
                     clear H
                     have H := H1
                     clear H1
                     obtain rfl := Option.some.inj H
                     obtain ⟨Ao90, co90, eo90⟩ := Kd.S_slice HO_6.out
                     subst eo90
                     obtain ⟨Ao91, co91, eo91⟩ := Kd.S_slice HO_9.out
                     subst eo91
                     have p230 : 0 ≤ ((ji76) : Int) := of_decide_eq_true (by first | (with_reducible assumption) | assumption)
                     have q230 : (ji76) < (t217.length : Int) := of_decide_eq_true (by first | (with_reducible assumption) | assumption)
                     obtain ⟨ad230, A230_3, c230_3, e230, hx230_0, hx230_1, hx230_2, hx230_3, hx230_4, hx230_5, hx230_6, hl230_3, hi230_3⟩ := at_T34 (Kd.S_reads' HO_9.out).2.2 (ji76) p230 q230
                     cases e230
                     obtain ⟨ce230, hce230, hMe230, hcc230⟩ := Kd.S_get HO_9.out z34 (ji76) p230 (by first | exact q230 | exact of_decide_eq_true (by first | (with_reducible assumption) | assumption) | (have e_ := (Kd.S_reads' HO_9.out).1; omega))
                     obtain ⟨ve230_3, rfl, ge230_3⟩ := k34_openM hMe230
                     have hv230_3 := hcc230 3 _ rfl
                     rw [add_field _ _ 3 (by omega)] at hv230_3
                     replace hv230_3 := Option.some.inj (hv230_3.symm.trans hx230_3)
                     rw [hv230_3] at ge230_3
                     have HL230_3 := Aside0.mk (show Kd.R k39 39 _ _ _ _ ((rd_T34 t217 (ji76)).f2.f1) from ge230_3)
                     clear hv230_3 ge230_3
                     clear hcc230 hce230
                     have HR230_3 := Aside0.mk hi230_3
                     have HC230_3 := Aside0.mk hl230_3
                     clear hi230_3 hl230_3
                     replace p230 := eq_true p230
                     replace q230 := eq_true q230
                     try go_wp2_with (first | ((with_reducible refine gate_dst (N := 17) rfl ?_); refine box_event ?hg (N := 17) ?hd (cs := #[.int .i64 0, .string (⟨#[]⟩ : ByteArray), .int .i64 0, .slice none 0 0, .int .i64 0, .int .i64 0, .int .i64 0]) (t := 33) ?hr ?_; (case hd => rfl); (case hg => rfl); (case hr => first | (go_simp; done) | (go_simp; rfl)); intro gb231 hg w92 hbox hb; have n0_ := Aside0.mk (Kd.S_below (by (with_reducible repeat (first | apply Kd.S_alloc | apply Kd.S_drewN | apply Kd.S_drew)); exact HO_6.out) hb); have n1_ := Aside0.mk (Kd.S_below (by (with_reducible repeat (first | apply Kd.S_alloc | apply Kd.S_drewN | apply Kd.S_drew)); exact HO_9.out) hb); have n2_ := Aside0.mk (Kd.S_below (by (with_reducible repeat (first | apply Kd.S_alloc | apply Kd.S_drewN | apply Kd.S_drew)); exact HO_12.out) hb); have n3_ := Aside0.mk (Kd.R_below (by (with_reducible repeat (first | apply Kd.R_alloc | apply Kd.R_drewN | apply Kd.R_drew)); exact HL230_3.out) hb); have n4_ := Aside0.mk (Kd.C_below (by repeat (first | (with_reducible exact HR230_3.out) | (with_reducible refine Kd.C_alloc ?_ _) | (with_reducible refine Kd.C_drewN ?_ _) | (with_reducible refine Kd.C_drew ?_) | exact HR230_3.out)) hb); have n5_ := Aside0.mk (below_step (by repeat (first | (with_reducible first | exact HB.out | apply below_alloc | apply pw_below_drewN | apply below_drew1) | exact HB.out)) hb); have n6_ := Aside0.mk (hbox); have n7_ := Aside0.mk ((by rw [hg]; exact (below_size (by repeat (first | (with_reducible first | exact HB.out | apply below_alloc | apply pw_below_drewN | apply below_drew1) | exact HB.out))) : w.heap.size ≤ gb231)); have n8_ := Aside0.mk ((by rw [hg]; exact (below_size (by repeat (first | (with_reducible first | exact HB.out | apply below_alloc | apply pw_below_drewN | apply below_drew1) | exact HB.out))) : w.heap.size ≤ gb231)); clear HO_6; clear HO_9; clear HO_12; clear HL230_3; clear HR230_3; clear HB; have HO_6 := n0_; have HO_9 := n1_; have HO_12 := n2_; have HL230_3 := n3_; have HR230_3 := n4_; have HB := n5_; have BK231 := n6_; have GW231 := n7_; have GE231 := n8_; clear n0_ n1_ n2_ n3_ n4_ n5_ n6_ n7_ n8_; clear hb hbox hg; have hcz93_0 : w92.cell? ⟨gb231, 0, none⟩ = some (.int .i64 0) := (blk_cell BK231.out 0).trans rfl; have hcz93_1 : w92.cell? ⟨gb231, 1, none⟩ = some (.string (⟨#[]⟩ : ByteArray)) := (blk_cell BK231.out 1).trans rfl; have hcz93_2 : w92.cell? ⟨gb231, 2, none⟩ = some (.int .i64 0) := (blk_cell BK231.out 2).trans rfl; have hcz93_3 : w92.cell? ⟨gb231, 3, none⟩ = some (.slice none 0 0) := (blk_cell BK231.out 3).trans rfl; have hcz93_4 : w92.cell? ⟨gb231, 4, none⟩ = some (.int .i64 0) := (blk_cell BK231.out 4).trans rfl; have hcz93_5 : w92.cell? ⟨gb231, 5, none⟩ = some (.int .i64 0) := (blk_cell BK231.out 5).trans rfl; have hcz93_6 : w92.cell? ⟨gb231, 6, none⟩ = some (.int .i64 0) := (blk_cell BK231.out 6).trans rfl; have hfz93_0 := blk_frozen BK231.out 0; have hfz93_1 := blk_frozen BK231.out 1; have hfz93_2 := blk_frozen BK231.out 2; have hfz93_3 := blk_frozen BK231.out 3; have hfz93_4 := blk_frozen BK231.out 4; have hfz93_5 := blk_frozen BK231.out 5; have hfz93_6 := blk_frozen BK231.out 6))
                     have n0_ : Aside0 (Kd.S k34 34 (((((((((w92.setCell ⟨gb231, 0, none⟩ (.int .i64 ((rd_T34 t217 (ji76)).f0))).setCell ⟨gb231, 1, none⟩ (.string ((rd_T34 t217 (ji76)).f1))).setCell ⟨gb231, 2, none⟩ (.int .i64 ((rd_T34 t217 (ji76)).f2.f0))).setCell ⟨gb231, 3, none⟩ (.slice A230_3 ((rd_T34 t217 (ji76)).f2.f1).length c230_3)).setCell ⟨gb231, 4, none⟩ (.int .i64 ((rd_T34 t217 (ji76)).f3))).setCell ⟨gb231, 5, none⟩ (.int .i64 ((rd_T34 t217 (ji76)).f4))).setCell ⟨gb231, 6, none⟩ (.int .i64 ((rd_T34 t217 (ji76)).f5))).setCell ⟨gb231, 5, none⟩ (.int .i64 (wrap64 ((wrap64 (((rd_T34 t217 (ji76)).f4) + (sx4.size : Int))) + 1)))).setCell ⟨gb231, 6, none⟩ (.int .i64 (wrap64 ((wrap64 (((rd_T34 t217 (ji76)).f5) + (sx4.size : Int))) + 1)))) w.heap.size (fun k_ => some k_ ≠ (.slice (some ad230) t217.length co91 : Value).ownBlock ∧ some k_ ≠ (.slice Ao65 t222.length co65 : Value).ownBlock) (.slice Ao90 t212.length co90) t212) := ⟨by (with_reducible repeat (first | apply Kd.S_alloc | apply Kd.S_drewN | apply Kd.S_drew)); exact Kd.S_mono (Kd.S_far (p := ⟨gb231, 6, none⟩) (Kd.S_far (p := ⟨gb231, 5, none⟩) (Kd.S_far (p := ⟨gb231, 6, none⟩) (Kd.S_far (p := ⟨gb231, 5, none⟩) (Kd.S_far (p := ⟨gb231, 4, none⟩) (Kd.S_far (p := ⟨gb231, 3, none⟩) (Kd.S_far (p := ⟨gb231, 2, none⟩) (Kd.S_far (p := ⟨gb231, 1, none⟩) (Kd.S_far (p := ⟨gb231, 0, none⟩) (Kd.S_types HO_6.out BK231.out (by decide)) (fun _ hk => hk.2) (.int .i64 ((rd_T34 t217 (ji76)).f0))) (fun _ hk => hk.2) (.string ((rd_T34 t217 (ji76)).f1))) (fun _ hk => hk.2) (.int .i64 ((rd_T34 t217 (ji76)).f2.f0))) (fun _ hk => hk.2) (.slice A230_3 ((rd_T34 t217 (ji76)).f2.f1).length c230_3)) (fun _ hk => hk.2) (.int .i64 ((rd_T34 t217 (ji76)).f3))) (fun _ hk => hk.2) (.int .i64 ((rd_T34 t217 (ji76)).f4))) (fun _ hk => hk.2) (.int .i64 ((rd_T34 t217 (ji76)).f5))) (fun _ hk => hk.2) (.int .i64 (wrap64 ((wrap64 (((rd_T34 t217 (ji76)).f4) + (sx4.size : Int))) + 1)))) (fun _ hk => hk.2) (.int .i64 (wrap64 ((wrap64 (((rd_T34 t217 (ji76)).f5) + (sx4.size : Int))) + 1)))) (fun _ hk => ⟨hk.1.1, hk.1.2⟩)⟩
                     have n1_ : Aside0 (Kd.S k34 34 (((((((((w92.setCell ⟨gb231, 0, none⟩ (.int .i64 ((rd_T34 t217 (ji76)).f0))).setCell ⟨gb231, 1, none⟩ (.string ((rd_T34 t217 (ji76)).f1))).setCell ⟨gb231, 2, none⟩ (.int .i64 ((rd_T34 t217 (ji76)).f2.f0))).setCell ⟨gb231, 3, none⟩ (.slice A230_3 ((rd_T34 t217 (ji76)).f2.f1).length c230_3)).setCell ⟨gb231, 4, none⟩ (.int .i64 ((rd_T34 t217 (ji76)).f3))).setCell ⟨gb231, 5, none⟩ (.int .i64 ((rd_T34 t217 (ji76)).f4))).setCell ⟨gb231, 6, none⟩ (.int .i64 ((rd_T34 t217 (ji76)).f5))).setCell ⟨gb231, 5, none⟩ (.int .i64 (wrap64 ((wrap64 (((rd_T34 t217 (ji76)).f4) + (sx4.size : Int))) + 1)))).setCell ⟨gb231, 6, none⟩ (.int .i64 (wrap64 ((wrap64 (((rd_T34 t217 (ji76)).f5) + (sx4.size : Int))) + 1)))) w.heap.size (fun k_ => some k_ ≠ (.slice Ao90 t212.length co90 : Value).ownBlock ∧ some k_ ≠ (.slice Ao65 t222.length co65 : Value).ownBlock) (.slice (some ad230) t217.length co91) t217) := ⟨by (with_reducible repeat (first | apply Kd.S_alloc | apply Kd.S_drewN | apply Kd.S_drew)); exact Kd.S_mono (Kd.S_far (p := ⟨gb231, 6, none⟩) (Kd.S_far (p := ⟨gb231, 5, none⟩) (Kd.S_far (p := ⟨gb231, 6, none⟩) (Kd.S_far (p := ⟨gb231, 5, none⟩) (Kd.S_far (p := ⟨gb231, 4, none⟩) (Kd.S_far (p := ⟨gb231, 3, none⟩) (Kd.S_far (p := ⟨gb231, 2, none⟩) (Kd.S_far (p := ⟨gb231, 1, none⟩) (Kd.S_far (p := ⟨gb231, 0, none⟩) (Kd.S_types HO_9.out BK231.out (by decide)) (fun _ hk => hk.2) (.int .i64 ((rd_T34 t217 (ji76)).f0))) (fun _ hk => hk.2) (.string ((rd_T34 t217 (ji76)).f1))) (fun _ hk => hk.2) (.int .i64 ((rd_T34 t217 (ji76)).f2.f0))) (fun _ hk => hk.2) (.slice A230_3 ((rd_T34 t217 (ji76)).f2.f1).length c230_3)) (fun _ hk => hk.2) (.int .i64 ((rd_T34 t217 (ji76)).f3))) (fun _ hk => hk.2) (.int .i64 ((rd_T34 t217 (ji76)).f4))) (fun _ hk => hk.2) (.int .i64 ((rd_T34 t217 (ji76)).f5))) (fun _ hk => hk.2) (.int .i64 (wrap64 ((wrap64 (((rd_T34 t217 (ji76)).f4) + (sx4.size : Int))) + 1)))) (fun _ hk => hk.2) (.int .i64 (wrap64 ((wrap64 (((rd_T34 t217 (ji76)).f5) + (sx4.size : Int))) + 1)))) (fun _ hk => ⟨hk.1.1, hk.1.2⟩)⟩
                     have n2_ : Aside0 (Kd.S k34 34 (((((((((w92.setCell ⟨gb231, 0, none⟩ (.int .i64 ((rd_T34 t217 (ji76)).f0))).setCell ⟨gb231, 1, none⟩ (.string ((rd_T34 t217 (ji76)).f1))).setCell ⟨gb231, 2, none⟩ (.int .i64 ((rd_T34 t217 (ji76)).f2.f0))).setCell ⟨gb231, 3, none⟩ (.slice A230_3 ((rd_T34 t217 (ji76)).f2.f1).length c230_3)).setCell ⟨gb231, 4, none⟩ (.int .i64 ((rd_T34 t217 (ji76)).f3))).setCell ⟨gb231, 5, none⟩ (.int .i64 ((rd_T34 t217 (ji76)).f4))).setCell ⟨gb231, 6, none⟩ (.int .i64 ((rd_T34 t217 (ji76)).f5))).setCell ⟨gb231, 5, none⟩ (.int .i64 (wrap64 ((wrap64 (((rd_T34 t217 (ji76)).f4) + (sx4.size : Int))) + 1)))).setCell ⟨gb231, 6, none⟩ (.int .i64 (wrap64 ((wrap64 (((rd_T34 t217 (ji76)).f5) + (sx4.size : Int))) + 1)))) w.heap.size (fun k_ => some k_ ≠ (.slice Ao90 t212.length co90 : Value).ownBlock ∧ some k_ ≠ (.slice (some ad230) t217.length co91 : Value).ownBlock) (.slice Ao65 t222.length co65) t222) := ⟨by (with_reducible repeat (first | apply Kd.S_alloc | apply Kd.S_drewN | apply Kd.S_drew)); exact Kd.S_mono (Kd.S_far (p := ⟨gb231, 6, none⟩) (Kd.S_far (p := ⟨gb231, 5, none⟩) (Kd.S_far (p := ⟨gb231, 6, none⟩) (Kd.S_far (p := ⟨gb231, 5, none⟩) (Kd.S_far (p := ⟨gb231, 4, none⟩) (Kd.S_far (p := ⟨gb231, 3, none⟩) (Kd.S_far (p := ⟨gb231, 2, none⟩) (Kd.S_far (p := ⟨gb231, 1, none⟩) (Kd.S_far (p := ⟨gb231, 0, none⟩) (Kd.S_types HO_12.out BK231.out (by decide)) (fun _ hk => hk.2) (.int .i64 ((rd_T34 t217 (ji76)).f0))) (fun _ hk => hk.2) (.string ((rd_T34 t217 (ji76)).f1))) (fun _ hk => hk.2) (.int .i64 ((rd_T34 t217 (ji76)).f2.f0))) (fun _ hk => hk.2) (.slice A230_3 ((rd_T34 t217 (ji76)).f2.f1).length c230_3)) (fun _ hk => hk.2) (.int .i64 ((rd_T34 t217 (ji76)).f3))) (fun _ hk => hk.2) (.int .i64 ((rd_T34 t217 (ji76)).f4))) (fun _ hk => hk.2) (.int .i64 ((rd_T34 t217 (ji76)).f5))) (fun _ hk => hk.2) (.int .i64 (wrap64 ((wrap64 (((rd_T34 t217 (ji76)).f4) + (sx4.size : Int))) + 1)))) (fun _ hk => hk.2) (.int .i64 (wrap64 ((wrap64 (((rd_T34 t217 (ji76)).f5) + (sx4.size : Int))) + 1)))) (fun _ hk => ⟨hk.1.1, hk.1.2⟩)⟩
                     have n3_ : Aside0 (Kd.R k39 39 (((((((((w92.setCell ⟨gb231, 0, none⟩ (.int .i64 ((rd_T34 t217 (ji76)).f0))).setCell ⟨gb231, 1, none⟩ (.string ((rd_T34 t217 (ji76)).f1))).setCell ⟨gb231, 2, none⟩ (.int .i64 ((rd_T34 t217 (ji76)).f2.f0))).setCell ⟨gb231, 3, none⟩ (.slice A230_3 ((rd_T34 t217 (ji76)).f2.f1).length c230_3)).setCell ⟨gb231, 4, none⟩ (.int .i64 ((rd_T34 t217 (ji76)).f3))).setCell ⟨gb231, 5, none⟩ (.int .i64 ((rd_T34 t217 (ji76)).f4))).setCell ⟨gb231, 6, none⟩ (.int .i64 ((rd_T34 t217 (ji76)).f5))).setCell ⟨gb231, 5, none⟩ (.int .i64 (wrap64 ((wrap64 (((rd_T34 t217 (ji76)).f4) + (sx4.size : Int))) + 1)))).setCell ⟨gb231, 6, none⟩ (.int .i64 (wrap64 ((wrap64 (((rd_T34 t217 (ji76)).f5) + (sx4.size : Int))) + 1)))) w.heap.size (fun k_ => some k_ ≠ (.slice Ao90 t212.length co90 : Value).ownBlock ∧ some k_ ≠ (.slice (some ad230) t217.length co91 : Value).ownBlock ∧ some k_ ≠ (.slice Ao65 t222.length co65 : Value).ownBlock) (.slice A230_3 ((rd_T34 t217 (ji76)).f2.f1).length c230_3) ((rd_T34 t217 (ji76)).f2.f1)) := ⟨by (with_reducible repeat (first | apply Kd.R_alloc | apply Kd.R_drewN | apply Kd.R_drew)); exact Kd.R_mono (Kd.R_far (p := ⟨gb231, 6, none⟩) (Kd.R_far (p := ⟨gb231, 5, none⟩) (Kd.R_far (p := ⟨gb231, 6, none⟩) (Kd.R_far (p := ⟨gb231, 5, none⟩) (Kd.R_far (p := ⟨gb231, 4, none⟩) (Kd.R_far (p := ⟨gb231, 3, none⟩) (Kd.R_far (p := ⟨gb231, 2, none⟩) (Kd.R_far (p := ⟨gb231, 1, none⟩) (Kd.R_far (p := ⟨gb231, 0, none⟩) (Kd.R_types HL230_3.out BK231.out (by decide)) (fun _ hk => hk.2) (.int .i64 ((rd_T34 t217 (ji76)).f0))) (fun _ hk => hk.2) (.string ((rd_T34 t217 (ji76)).f1))) (fun _ hk => hk.2) (.int .i64 ((rd_T34 t217 (ji76)).f2.f0))) (fun _ hk => hk.2) (.slice A230_3 ((rd_T34 t217 (ji76)).f2.f1).length c230_3)) (fun _ hk => hk.2) (.int .i64 ((rd_T34 t217 (ji76)).f3))) (fun _ hk => hk.2) (.int .i64 ((rd_T34 t217 (ji76)).f4))) (fun _ hk => hk.2) (.int .i64 ((rd_T34 t217 (ji76)).f5))) (fun _ hk => hk.2) (.int .i64 (wrap64 ((wrap64 (((rd_T34 t217 (ji76)).f4) + (sx4.size : Int))) + 1)))) (fun _ hk => hk.2) (.int .i64 (wrap64 ((wrap64 (((rd_T34 t217 (ji76)).f5) + (sx4.size : Int))) + 1)))) (fun _ hk => ⟨hk.1.1.1, ⟨hk.1.2, hk.1.1.2⟩⟩)⟩
                     have n4_ : Aside0 ((((((((((w92.setCell ⟨gb231, 0, none⟩ (.int .i64 ((rd_T34 t217 (ji76)).f0))).setCell ⟨gb231, 1, none⟩ (.string ((rd_T34 t217 (ji76)).f1))).setCell ⟨gb231, 2, none⟩ (.int .i64 ((rd_T34 t217 (ji76)).f2.f0))).setCell ⟨gb231, 3, none⟩ (.slice A230_3 ((rd_T34 t217 (ji76)).f2.f1).length c230_3)).setCell ⟨gb231, 4, none⟩ (.int .i64 ((rd_T34 t217 (ji76)).f3))).setCell ⟨gb231, 5, none⟩ (.int .i64 ((rd_T34 t217 (ji76)).f4))).setCell ⟨gb231, 6, none⟩ (.int .i64 ((rd_T34 t217 (ji76)).f5))).setCell ⟨gb231, 5, none⟩ (.int .i64 (wrap64 ((wrap64 (((rd_T34 t217 (ji76)).f4) + (sx4.size : Int))) + 1)))).setCell ⟨gb231, 6, none⟩ (.int .i64 (wrap64 ((wrap64 (((rd_T34 t217 (ji76)).f5) + (sx4.size : Int))) + 1)))).heap[gb231]? = some (.cells #[.int .i64 ((rd_T34 t217 (ji76)).f0), .string ((rd_T34 t217 (ji76)).f1), .int .i64 ((rd_T34 t217 (ji76)).f2.f0), .slice A230_3 ((rd_T34 t217 (ji76)).f2.f1).length c230_3, .int .i64 ((rd_T34 t217 (ji76)).f3), .int .i64 (wrap64 ((wrap64 (((rd_T34 t217 (ji76)).f4) + (sx4.size : Int))) + 1)), .int .i64 (wrap64 ((wrap64 (((rd_T34 t217 (ji76)).f5) + (sx4.size : Int))) + 1))] 33 (0, 0))) := ⟨by (with_reducible repeat (first | refine blk_drewN ?_ _ | refine blk_drew ?_ | refine blk_alloc ?_ _)); refine blk_put (cs := #[.int .i64 ((rd_T34 t217 (ji76)).f0), .string ((rd_T34 t217 (ji76)).f1), .int .i64 ((rd_T34 t217 (ji76)).f2.f0), .slice A230_3 ((rd_T34 t217 (ji76)).f2.f1).length c230_3, .int .i64 ((rd_T34 t217 (ji76)).f3), .int .i64 (wrap64 ((wrap64 (((rd_T34 t217 (ji76)).f4) + (sx4.size : Int))) + 1)), .int .i64 ((rd_T34 t217 (ji76)).f5)]) ?_ 6 _ rfl; (with_reducible repeat (first | refine blk_drewN ?_ _ | refine blk_drew ?_ | refine blk_alloc ?_ _)); refine blk_put (cs := #[.int .i64 ((rd_T34 t217 (ji76)).f0), .string ((rd_T34 t217 (ji76)).f1), .int .i64 ((rd_T34 t217 (ji76)).f2.f0), .slice A230_3 ((rd_T34 t217 (ji76)).f2.f1).length c230_3, .int .i64 ((rd_T34 t217 (ji76)).f3), .int .i64 ((rd_T34 t217 (ji76)).f4), .int .i64 ((rd_T34 t217 (ji76)).f5)]) ?_ 5 _ rfl; (with_reducible repeat (first | refine blk_drewN ?_ _ | refine blk_drew ?_ | refine blk_alloc ?_ _)); refine blk_put (cs := #[.int .i64 ((rd_T34 t217 (ji76)).f0), .string ((rd_T34 t217 (ji76)).f1), .int .i64 ((rd_T34 t217 (ji76)).f2.f0), .slice A230_3 ((rd_T34 t217 (ji76)).f2.f1).length c230_3, .int .i64 ((rd_T34 t217 (ji76)).f3), .int .i64 ((rd_T34 t217 (ji76)).f4), .int .i64 0]) ?_ 6 _ rfl; (with_reducible repeat (first | refine blk_drewN ?_ _ | refine blk_drew ?_ | refine blk_alloc ?_ _)); refine blk_put (cs := #[.int .i64 ((rd_T34 t217 (ji76)).f0), .string ((rd_T34 t217 (ji76)).f1), .int .i64 ((rd_T34 t217 (ji76)).f2.f0), .slice A230_3 ((rd_T34 t217 (ji76)).f2.f1).length c230_3, .int .i64 ((rd_T34 t217 (ji76)).f3), .int .i64 0, .int .i64 0]) ?_ 5 _ rfl; (with_reducible repeat (first | refine blk_drewN ?_ _ | refine blk_drew ?_ | refine blk_alloc ?_ _)); refine blk_put (cs := #[.int .i64 ((rd_T34 t217 (ji76)).f0), .string ((rd_T34 t217 (ji76)).f1), .int .i64 ((rd_T34 t217 (ji76)).f2.f0), .slice A230_3 ((rd_T34 t217 (ji76)).f2.f1).length c230_3, .int .i64 0, .int .i64 0, .int .i64 0]) ?_ 4 _ rfl; (with_reducible repeat (first | refine blk_drewN ?_ _ | refine blk_drew ?_ | refine blk_alloc ?_ _)); refine blk_put (cs := #[.int .i64 ((rd_T34 t217 (ji76)).f0), .string ((rd_T34 t217 (ji76)).f1), .int .i64 ((rd_T34 t217 (ji76)).f2.f0), .slice none 0 0, .int .i64 0, .int .i64 0, .int .i64 0]) ?_ 3 _ rfl; (with_reducible repeat (first | refine blk_drewN ?_ _ | refine blk_drew ?_ | refine blk_alloc ?_ _)); refine blk_put (cs := #[.int .i64 ((rd_T34 t217 (ji76)).f0), .string ((rd_T34 t217 (ji76)).f1), .int .i64 0, .slice none 0 0, .int .i64 0, .int .i64 0, .int .i64 0]) ?_ 2 _ rfl; (with_reducible repeat (first | refine blk_drewN ?_ _ | refine blk_drew ?_ | refine blk_alloc ?_ _)); refine blk_put (cs := #[.int .i64 ((rd_T34 t217 (ji76)).f0), .string (⟨#[]⟩ : ByteArray), .int .i64 0, .slice none 0 0, .int .i64 0, .int .i64 0, .int .i64 0]) ?_ 1 _ rfl; (with_reducible repeat (first | refine blk_drewN ?_ _ | refine blk_drew ?_ | refine blk_alloc ?_ _)); refine blk_put (cs := #[.int .i64 0, .string (⟨#[]⟩ : ByteArray), .int .i64 0, .slice none 0 0, .int .i64 0, .int .i64 0, .int .i64 0]) ?_ 0 _ rfl; (with_reducible repeat (first | refine blk_drewN ?_ _ | refine blk_drew ?_ | refine blk_alloc ?_ _)); exact BK231.out⟩
                     have n5_ : Aside0 (Below w.heap.size w (((((((((w92.setCell ⟨gb231, 0, none⟩ (.int .i64 ((rd_T34 t217 (ji76)).f0))).setCell ⟨gb231, 1, none⟩ (.string ((rd_T34 t217 (ji76)).f1))).setCell ⟨gb231, 2, none⟩ (.int .i64 ((rd_T34 t217 (ji76)).f2.f0))).setCell ⟨gb231, 3, none⟩ (.slice A230_3 ((rd_T34 t217 (ji76)).f2.f1).length c230_3)).setCell ⟨gb231, 4, none⟩ (.int .i64 ((rd_T34 t217 (ji76)).f3))).setCell ⟨gb231, 5, none⟩ (.int .i64 ((rd_T34 t217 (ji76)).f4))).setCell ⟨gb231, 6, none⟩ (.int .i64 ((rd_T34 t217 (ji76)).f5))).setCell ⟨gb231, 5, none⟩ (.int .i64 (wrap64 ((wrap64 (((rd_T34 t217 (ji76)).f4) + (sx4.size : Int))) + 1)))).setCell ⟨gb231, 6, none⟩ (.int .i64 (wrap64 ((wrap64 (((rd_T34 t217 (ji76)).f5) + (sx4.size : Int))) + 1))))) := ⟨by repeat (first | (with_reducible first | exact HB.out | apply below_alloc | apply pw_below_drewN | apply below_drew1 | refine below_set ?_ GE231.out) | exact HB.out)⟩
                     (try clear HO_6)
                     (try clear HO_9)
                     (try clear HO_12)
                     (try clear HL230_3)
                     (try clear BK231)
                     (try clear HB)
                     generalize (((((((((w92.setCell ⟨gb231, 0, none⟩ (.int .i64 ((rd_T34 t217 (ji76)).f0))).setCell ⟨gb231, 1, none⟩ (.string ((rd_T34 t217 (ji76)).f1))).setCell ⟨gb231, 2, none⟩ (.int .i64 ((rd_T34 t217 (ji76)).f2.f0))).setCell ⟨gb231, 3, none⟩ (.slice A230_3 ((rd_T34 t217 (ji76)).f2.f1).length c230_3)).setCell ⟨gb231, 4, none⟩ (.int .i64 ((rd_T34 t217 (ji76)).f3))).setCell ⟨gb231, 5, none⟩ (.int .i64 ((rd_T34 t217 (ji76)).f4))).setCell ⟨gb231, 6, none⟩ (.int .i64 ((rd_T34 t217 (ji76)).f5))).setCell ⟨gb231, 5, none⟩ (.int .i64 (wrap64 ((wrap64 (((rd_T34 t217 (ji76)).f4) + (sx4.size : Int))) + 1)))).setCell ⟨gb231, 6, none⟩ (.int .i64 (wrap64 ((wrap64 (((rd_T34 t217 (ji76)).f5) + (sx4.size : Int))) + 1)))) = w94 at n0_ n1_ n2_ n3_ n4_ n5_ ⊢
                     have HO_6 := n0_
                     have HO_9 := n1_
                     have HO_12 := n2_
                     have HL230_3 := n3_
                     have BK231 := n4_
                     have HB := n5_
                     clear n0_ n1_ n2_ n3_ n4_ n5_
                     have n0_ := Aside0.mk (Kd.S_drew HO_6.out)
                     have n1_ := Aside0.mk (Kd.S_drew HO_9.out)
                     have n2_ := Aside0.mk (Kd.S_drew HO_12.out)
                     have n3_ := Aside0.mk (Kd.R_drew HL230_3.out)
                     have n4_ := Aside0.mk (blk_drew BK231.out)
                     have n5_ := Aside0.mk (below_drew1 HB.out)
                     clear HO_6
                     clear HO_9
                     clear HO_12
                     clear HL230_3
                     clear BK231
                     clear HB
                     have HO_6 := n0_
                     have HO_9 := n1_
                     have HO_12 := n2_
                     have HL230_3 := n3_
                     have BK231 := n4_
                     have HB := n5_
                     clear n0_ n1_ n2_ n3_ n4_ n5_
                     have p232 : 0 ≤ (x16_2 : Int) := of_decide_eq_true (by first | (with_reducible assumption) | assumption)
                     have q232 : x16_2 < (t222.length : Int) := of_decide_eq_true (by first | (with_reducible assumption) | assumption)
                     obtain ⟨ad232, A232_3, c232_3, e232, hx232_0, hx232_1, hx232_2, hx232_3, hx232_4, hx232_5, hx232_6, hl232_3, hi232_3⟩ := at_T34 (Kd.S_reads' HO_12.out).2.2 x16_2 p232 q232
                     cases e232
                     obtain ⟨ce232, hce232, hMe232, hcc232⟩ := Kd.S_get HO_12.out z34 x16_2 p232 (by first | exact q232 | exact of_decide_eq_true (by first | (with_reducible assumption) | assumption) | (have e_ := (Kd.S_reads' HO_12.out).1; omega))
                     obtain ⟨ve232_3, rfl, ge232_3⟩ := k34_openM hMe232
                     have hv232_3 := hcc232 3 _ rfl
                     rw [add_field _ _ 3 (by omega)] at hv232_3
                     replace hv232_3 := Option.some.inj (hv232_3.symm.trans hx232_3)
                     rw [hv232_3] at ge232_3
                     have HL232_3 := Aside0.mk (show Kd.R k39 39 _ _ _ _ ((rd_T34 t222 x16_2).f2.f1) from ge232_3)
                     clear hv232_3 ge232_3
                     clear hcc232 hce232
                     have HR232_3 := Aside0.mk hi232_3
                     have HC232_3 := Aside0.mk hl232_3
                     clear hi232_3 hl232_3
                     replace p232 := eq_true p232
                     replace q232 := eq_true q232
                     refine start_ (n := 7) (S := fun w' => w'.cell? ⟨gb231, 0, none⟩ = some (.int .i64 ((rd_T34 t217 (ji76)).f0)) ∧ w'.cell? ⟨gb231, 1, none⟩ = some (.string ((rd_T34 t217 (ji76)).f1)) ∧ w'.cell? ⟨gb231, 2, none⟩ = some (.int .i64 ((rd_T34 t217 (ji76)).f2.f0)) ∧ w'.cell? ⟨gb231, 3, none⟩ = some (.slice A230_3 ((rd_T34 t217 (ji76)).f2.f1).length c230_3) ∧ w'.cell? ⟨gb231, 4, none⟩ = some (.int .i64 ((rd_T34 t217 (ji76)).f3)) ∧ w'.cell? ⟨gb231, 5, none⟩ = some (.int .i64 (wrap64 ((wrap64 (((rd_T34 t217 (ji76)).f4) + (sx4.size : Int))) + 1))) ∧ w'.cell? ⟨gb231, 6, none⟩ = some (.int .i64 (wrap64 ((wrap64 (((rd_T34 t217 (ji76)).f5) + (sx4.size : Int))) + 1))) ∧ w'.cell? (ad232.add ((x16_2).toNat * 7)) = some (.int .i64 ((rd_T34 t222 x16_2).f0)) ∧ w'.cell? ⟨(ad232.add ((x16_2).toNat * 7)).block, (ad232.add ((x16_2).toNat * 7)).off + 1, none⟩ = some (.string ((rd_T34 t222 x16_2).f1)) ∧ w'.cell? ⟨(ad232.add ((x16_2).toNat * 7)).block, (ad232.add ((x16_2).toNat * 7)).off + 2, none⟩ = some (.int .i64 ((rd_T34 t222 x16_2).f2.f0)) ∧ w'.cell? ⟨(ad232.add ((x16_2).toNat * 7)).block, (ad232.add ((x16_2).toNat * 7)).off + 3, none⟩ = some (.slice A232_3 ((rd_T34 t222 x16_2).f2.f1).length c232_3) ∧ w'.cell? ⟨(ad232.add ((x16_2).toNat * 7)).block, (ad232.add ((x16_2).toNat * 7)).off + 4, none⟩ = some (.int .i64 ((rd_T34 t222 x16_2).f3)) ∧ w'.cell? ⟨(ad232.add ((x16_2).toNat * 7)).block, (ad232.add ((x16_2).toNat * 7)).off + 5, none⟩ = some (.int .i64 ((rd_T34 t222 x16_2).f4)) ∧ w'.cell? ⟨(ad232.add ((x16_2).toNat * 7)).block, (ad232.add ((x16_2).toNat * 7)).off + 6, none⟩ = some (.int .i64 ((rd_T34 t222 x16_2).f5))) (ds := []) #[false, false, false, false, false, false, false] (by kernel_rfl) rfl rfl ⟨(blk_cell BK231.out 0).trans rfl, (blk_cell BK231.out 1).trans rfl, (blk_cell BK231.out 2).trans rfl, (blk_cell BK231.out 3).trans rfl, (blk_cell BK231.out 4).trans rfl, (blk_cell BK231.out 5).trans rfl, (blk_cell BK231.out 6).trans rfl, hx232_0, hx232_1, hx232_2, hx232_3, hx232_4, hx232_5, hx232_6⟩ (fun hHeld => ?_)
                     generalize w94.drew = w95 at HO_6 HO_9 HO_12 HL230_3 BK231 HB HL232_3 HR232_3 hx232_0 hx232_1 hx232_2 hx232_3 hx232_4 hx232_5 hx232_6 hHeld ⊢
                     refine pure_ (i := 0) (N := some 139) (v := ?_) (a' := ?_) #[true, false, false, false, false, false, false] rfl rfl (by kernel_rfl) (fun _ _ _ h => h) (Or.inl ⟨by rfl, ?_⟩) ?_ ?_
                     rotate_left
                     ·intro w'
                      go_simp
                      with_reducible rfl
                     rotate_left
                     ·simp only [Act.put, List.setIfInBounds_toArray, List.set_cons_zero, List.set_cons_succ, i64_w, i32_w]
                      rfl
                     refine pure_ (i := 1) (N := some 140) (v := ?_) (a' := ?_) #[true, true, false, false, false, false, false] rfl rfl (by kernel_rfl) (fun _ _ _ h => h) (Or.inl ⟨by rfl, ?_⟩) ?_ ?_
                     rotate_left
                     ·intro w'
                      go_simp
                      with_reducible rfl
                     rotate_left
                     ·simp only [Act.put, List.setIfInBounds_toArray, List.set_cons_zero, List.set_cons_succ, i64_w, i32_w]
                      rfl
                     refine pure_ (i := 2) (N := some 141) (v := ?_) (a' := ?_) #[true, true, true, false, false, false, false] rfl rfl (by kernel_rfl) (fun _ _ _ h => h) (Or.inl ⟨by rfl, ?_⟩) ?_ ?_
                     rotate_left
                     ·intro w'
                      go_simp
                      with_reducible rfl
                     rotate_left
                     ·simp only [Act.put, List.setIfInBounds_toArray, List.set_cons_zero, List.set_cons_succ, i64_w, i32_w]
                      rfl
                     refine take_ (i := 3) (N := some 142) (v := ?_) (a' := ?_) #[true, true, true, true, false, false, false] rfl rfl (by kernel_rfl) (fun _ _ _ h => h) (Or.inl ⟨by rfl, ?_⟩) hHeld ?_ ?_
                     rotate_left
                     ·rintro w' ⟨s0, s1, s2, s3, s4, s5, s6, s7, s8, s9, s10, s11, s12, s13⟩
                      go_simp
                      with_reducible rfl
                     rotate_left
                     ·simp only [Act.put, List.setIfInBounds_toArray, List.set_cons_zero, List.set_cons_succ, i64_w, i32_w]
                      rfl
                     refine take_ (i := 4) (N := some 143) (v := ?_) (a' := ?_) #[true, true, true, true, true, false, false] rfl rfl (by kernel_rfl) (fun _ _ _ h => h) (Or.inl ⟨by rfl, ?_⟩) hHeld ?_ ?_
                     rotate_left
                     ·rintro w' ⟨s0, s1, s2, s3, s4, s5, s6, s7, s8, s9, s10, s11, s12, s13⟩
                      go_simp
                      with_reducible rfl
                     rotate_left
                     ·simp only [Act.put, List.setIfInBounds_toArray, List.set_cons_zero, List.set_cons_succ, i64_w, i32_w]
                      rfl
                     refine one_ (i := 5) (N := some 144) #[true, true, true, true, true, true, false] rfl rfl (by kernel_rfl) (by decide) (fun K hK => ?_)
                     refine goes_ Tryd.func12 (by kernel_rfl) rfl #[.agg #[.int .i64 ((rd_T34 t222 x16_2).f0), .string ((rd_T34 t222 x16_2).f1), .int .i64 ((rd_T34 t222 x16_2).f2.f0), .slice A232_3 ((rd_T34 t222 x16_2).f2.f1).length c232_3, .int .i64 ((rd_T34 t222 x16_2).f3), .int .i64 ((rd_T34 t222 x16_2).f4), .int .i64 ((rd_T34 t222 x16_2).f5)], .agg #[.int .i64 ((rd_T34 t217 (ji76)).f0), .string ((rd_T34 t217 (ji76)).f1), .int .i64 ((rd_T34 t217 (ji76)).f2.f0), .slice A230_3 ((rd_T34 t217 (ji76)).f2.f1).length c230_3, .int .i64 ((rd_T34 t217 (ji76)).f3), .int .i64 (wrap64 ((wrap64 (((rd_T34 t217 (ji76)).f4) + (sx4.size : Int))) + 1)), .int .i64 (wrap64 ((wrap64 (((rd_T34 t217 (ji76)).f5) + (sx4.size : Int))) + 1))]] (by rfl) rfl rfl (by (try simp only [List.map_toArray, List.map_cons, List.map_nil]); first | done | (simp only [hji4, hji76]; rfl) | rfl | (simp only [List.length_drop, List.length_take]; rfl)) ?_
                     with_reducible refine (carcanetref25_Same.calls kj63 ((rd_T34 t222 x16_2).f0) ((rd_T34 t222 x16_2).f1) ((rd_T34 t222 x16_2).f2.f0) _ _ ((rd_T34 t222 x16_2).f2.f1) ((rd_T34 t222 x16_2).f3) ((rd_T34 t222 x16_2).f4) ((rd_T34 t222 x16_2).f5) ((rd_T34 t217 (ji76)).f0) ((rd_T34 t217 (ji76)).f1) ((rd_T34 t217 (ji76)).f2.f0) _ _ ((rd_T34 t217 (ji76)).f2.f1) ((rd_T34 t217 (ji76)).f3) (wrap64 ((wrap64 (((rd_T34 t217 (ji76)).f4) + (sx4.size : Int))) + 1)) (wrap64 ((wrap64 (((rd_T34 t217 (ji76)).f5) + (sx4.size : Int))) + 1)) false _ ?side1 ?side2 ?side3 ?side4 A81.out).mono ?_
                     (case side1 => repeat (first | exact (by repeat (first | (with_reducible exact HR232_3.out) | (with_reducible refine Kd.C_alloc ?_ _) | (with_reducible refine Kd.C_drewN ?_ _) | (with_reducible refine Kd.C_drew ?_) | exact HR232_3.out)) | (with_reducible refine Kd.C_alloc ?_ _) | (with_reducible refine Kd.C_drewN ?_ _) | (with_reducible refine Kd.C_drew ?_)))
                     (case side2 => exact HC232_3.out)
                     (case side3 => repeat (first | exact ((Kd.R_reads' (by (with_reducible repeat (first | apply Kd.R_alloc | apply Kd.R_drewN | apply Kd.R_drew)); exact HL230_3.out)).2.2) | (with_reducible refine Kd.C_alloc ?_ _) | (with_reducible refine Kd.C_drewN ?_ _) | (with_reducible refine Kd.C_drew ?_)))
                     (case side4 => exact HC230_3.out)
                     rintro e w96 ⟨rfl, hb⟩
                     have HS7_ := (hb.cell (World.block_lt_of_cell? _ _ (hHeld.2.2.2.2.2.2.2.1))).trans (hHeld.2.2.2.2.2.2.2.1)
                     have HS8_ := (hb.cell (World.block_lt_of_cell? _ _ (hHeld.2.2.2.2.2.2.2.2.1))).trans (hHeld.2.2.2.2.2.2.2.2.1)
                     have HS9_ := (hb.cell (World.block_lt_of_cell? _ _ (hHeld.2.2.2.2.2.2.2.2.2.1))).trans (hHeld.2.2.2.2.2.2.2.2.2.1)
                     have HS10_ := (hb.cell (World.block_lt_of_cell? _ _ (hHeld.2.2.2.2.2.2.2.2.2.2.1))).trans (hHeld.2.2.2.2.2.2.2.2.2.2.1)
                     have HS11_ := (hb.cell (World.block_lt_of_cell? _ _ (hHeld.2.2.2.2.2.2.2.2.2.2.2.1))).trans (hHeld.2.2.2.2.2.2.2.2.2.2.2.1)
                     have HS12_ := (hb.cell (World.block_lt_of_cell? _ _ (hHeld.2.2.2.2.2.2.2.2.2.2.2.2.1))).trans (hHeld.2.2.2.2.2.2.2.2.2.2.2.2.1)
                     have HS13_ := (hb.cell (World.block_lt_of_cell? _ _ (hHeld.2.2.2.2.2.2.2.2.2.2.2.2.2))).trans (hHeld.2.2.2.2.2.2.2.2.2.2.2.2.2)
                     refine ⟨_, rfl, ?_⟩
                     have n0_ := Aside0.mk (Kd.S_below (by (with_reducible repeat (first | apply Kd.S_alloc | apply Kd.S_drewN | apply Kd.S_drew)); exact HO_6.out) hb)
                     have n1_ := Aside0.mk (Kd.S_below (by (with_reducible repeat (first | apply Kd.S_alloc | apply Kd.S_drewN | apply Kd.S_drew)); exact HO_9.out) hb)
                     have n2_ := Aside0.mk (Kd.S_below (by (with_reducible repeat (first | apply Kd.S_alloc | apply Kd.S_drewN | apply Kd.S_drew)); exact HO_12.out) hb)
                     have n3_ := Aside0.mk (Kd.R_below (by (with_reducible repeat (first | apply Kd.R_alloc | apply Kd.R_drewN | apply Kd.R_drew)); exact HL230_3.out) hb)
                     have n4_ := Aside0.mk (Kd.R_below (by (with_reducible repeat (first | apply Kd.R_alloc | apply Kd.R_drewN | apply Kd.R_drew)); exact HL232_3.out) hb)
                     have n5_ := Aside0.mk (blk_below (g := gb231) (o := .cells #[.int .i64 ((rd_T34 t217 (ji76)).f0), .string ((rd_T34 t217 (ji76)).f1), .int .i64 ((rd_T34 t217 (ji76)).f2.f0), .slice A230_3 ((rd_T34 t217 (ji76)).f2.f1).length c230_3, .int .i64 ((rd_T34 t217 (ji76)).f3), .int .i64 (wrap64 ((wrap64 (((rd_T34 t217 (ji76)).f4) + (sx4.size : Int))) + 1)), .int .i64 (wrap64 ((wrap64 (((rd_T34 t217 (ji76)).f5) + (sx4.size : Int))) + 1))] 33 (0, 0)) (by (with_reducible repeat (first | refine blk_drewN ?_ _ | refine blk_drew ?_ | refine blk_alloc ?_ _)); exact BK231.out) hb)
                     have n6_ := Aside0.mk (Kd.C_below (by repeat (first | (with_reducible exact HR232_3.out) | (with_reducible refine Kd.C_alloc ?_ _) | (with_reducible refine Kd.C_drewN ?_ _) | (with_reducible refine Kd.C_drew ?_) | exact HR232_3.out)) hb)
                     have n7_ := Aside0.mk (below_step (by repeat (first | (with_reducible first | exact HB.out | apply below_alloc | apply pw_below_drewN | apply below_drew1 | refine below_set ?_ GE231.out) | exact HB.out)) hb)
                     clear HO_6
                     clear HO_9
                     clear HO_12
                     clear HL230_3
                     clear HL232_3
                     clear BK231
                     clear HR232_3
                     clear HB
                     have HO_6 := n0_
                     have HO_9 := n1_
                     have HO_12 := n2_
                     have HL230_3 := n3_
                     have HL232_3 := n4_
                     have BK231 := n5_
                     have HR232_3 := n6_
                     have HB := n7_
                     clear n0_ n1_ n2_ n3_ n4_ n5_ n6_ n7_
                     (try clear hb)
                     (try clear hb2)
                     (try clear hk)
                     (try clear hi)
                     refine hK.out _ _ ⟨(blk_cell BK231.out 0).trans rfl, (blk_cell BK231.out 1).trans rfl, (blk_cell BK231.out 2).trans rfl, (blk_cell BK231.out 3).trans rfl, (blk_cell BK231.out 4).trans rfl, (blk_cell BK231.out 5).trans rfl, (blk_cell BK231.out 6).trans rfl, HS7_, HS8_, HS9_, HS10_, HS11_, HS12_, HS13_⟩ (fun hHeld => ?_)
                     clear hK K
                     refine norm_ (a' := ?_) ?_ ?_
                     rotate_left
                     ·show Act.put _ (some 144) _ = _
                      simp only [Act.put, List.setIfInBounds_toArray, List.set_cons_zero, List.set_cons_succ, i64_w, i32_w]
                      rfl
                     refine pure_ (i := 6) (N := some 145) (v := ?_) (a' := ?_) #[true, true, true, true, true, true, true] rfl rfl (by kernel_rfl) (fun _ _ _ h => h) (Or.inl ⟨by rfl, ?_⟩) ?_ ?_
                     rotate_left
                     ·intro w'
                      go_simp
                      with_reducible rfl
                     rotate_left
                     ·simp only [Act.put, List.setIfInBounds_toArray, List.set_cons_zero, List.set_cons_succ, i64_w, i32_w]
                      rfl
                     refine done_ (by kernel_rfl) ?_
                     try go_wp2
                     go_ret
                     exact ⟨by first | rfl | (simp [errW_none, errW_some] <;> rfl) | (simp only [← hji4, ← hji7, ← hji76]; first | rfl | (simp [errW_none, errW_some] <;> rfl)) | (simp [*, errW_none, errW_some] <;> rfl), by repeat (first | (with_reducible first | exact HB.out | apply below_alloc | apply pw_below_drewN | apply below_drew1 | refine below_set ?_ GE231.out) | exact HB.out)⟩
                   ·rw [if_neg c80] at H
                    exact absurd H (by simp)
                  ·rw [if_neg c79] at H
                   exact absurd H (by simp)
                 ·rw [if_neg c78] at H
                  exact absurd H (by simp)
                ·rw [if_neg c77] at H
                 exact absurd H (by simp)
               ·rw [if_neg c75] at H
                have c75b0 : decide ((t212.length : Int) ≤ x16_2) = false := decide_eq_false c75
                clear c75
                have H' := Aside0.mk H
                clear H
                obtain ⟨Ao97, co97, eo97⟩ := Kd.S_slice HO_6.out
                subst eo97
                go_wp2
                go_roundg kj63
                case measure => have := HJ14.out; have := HK2.out; have := HJ63.out; omega
                case rel => exact ⟨(wrap64 (x16_2 + 1)), (by first | rfl | (simp; done) | (simp [*]; done)), H', ⟨by have := HJ14.out; have := HK2.out; have := HJ63.out; omega⟩, ⟨by (with_reducible repeat (first | apply Kd.S_alloc | apply Kd.S_drewN | apply Kd.S_drew)); exact HO_6.out⟩, ⟨by (with_reducible repeat (first | apply Kd.S_alloc | apply Kd.S_drewN | apply Kd.S_drew)); exact HO_9.out⟩, ⟨by (with_reducible repeat (first | apply Kd.S_alloc | apply Kd.S_drewN | apply Kd.S_drew)); exact HO_12.out⟩, ⟨by repeat (first | (with_reducible first | exact HB.out | apply below_alloc | apply pw_below_drewN | apply below_drew1) | exact HB.out)⟩⟩
           ·rw [if_neg c63] at H
            have c63b0 : decide (x16_2 < (t222.length : Int)) = false := decide_eq_false c63
            clear c63
            obtain rfl := Option.some.inj H
            obtain ⟨Ao98, co98, eo98⟩ := Kd.S_slice HO_12.out
            subst eo98
            go_wp2
            go_ret
            exact ⟨by first | rfl | (simp [errW_none, errW_some] <;> rfl) | (simp only [← hji4, ← hji7]; first | rfl | (simp [errW_none, errW_some] <;> rfl)) | (simp [*, errW_none, errW_some] <;> rfl), by repeat (first | (with_reducible first | exact HB.out | apply below_alloc | apply pw_below_drewN | apply below_drew1) | exact HB.out)⟩
      ·rw [if_neg c13] at H
       exact absurd H (by simp)
     ·rw [if_neg c12] at H
      exact absurd H (by simp)
    ·rw [if_neg c9] at H
     exact absurd H (by simp)
   ·rw [if_neg c8] at H
    exact absurd H (by simp)
  ·rw [if_neg c6] at H
   exact absurd H (by simp)
 ·rw [if_neg c5] at H
  exact absurd H (by simp)

end Go.Proofs.YtmdmdbiinngneaaDoor.Q
