-- Laid by prx.py (ours), out of the translation's print. Not trusted: Lean checks it.
import Derived.Test.YtmdmdbiinngneaaGreatDoorQ0
import Derived.Test.YtmdmdbiinngneaaGreatDoorQ6
import Derived.Test.YtmdmdbiinngneaaGreatDoorQ10
import Derived.Test.YtmdmdbiinngneaaGreatDoorQ11
namespace Go.Proofs.YtmdmdbiinngneaaGreatDoor.Q
open Go.RowKit Go.Proofs.YtmdmdbiinngneaaGreatDoorW.PrintWords Go.Proofs.YtmdmdbiinngneaaGreatDoorW.PrintLast Go.Proofs.YtmdmdbiinngneaaGreatDoorW.PrintMore
attribute [local go_sem] max2_int min2_int max_two min_two max_three min_three max_four min_four   -- for this text's walks alone
set_option linter.unusedVariables false
set_option linter.unusedSimpArgs false

/-! ### HAND carcanetlaw25_shown: function 4 -/
def carcanetlaw25_shown.f : Option Bool := some true
abbrev shownText : ByteArray := ⟨#[108, 111, 97, 100, 32, 103, 32, 51, 32, 50, 45, 49, 32, 48, 45, 48, 32, 35, 32, 120, 10, 10, 97, 115, 107, 32, 103, 32, 104, 97, 108, 105, 110, 10]⟩
abbrev shownBad : ByteArray := ⟨#[115, 104, 111, 119, 32, 103, 10, 100, 114, 111, 112, 32, 55]⟩
def shownOps : List S36 := [⟨1, ⟨#[103]⟩, ⟨3, [⟨1, 2⟩]⟩, 0, 0, 5⟩, ⟨2, ⟨#[103]⟩, ⟨0, []⟩, 4, 22, 26⟩]
theorem shown_one : script_Parse.f 20 shownText = some (shownOps, 0, 0) := by kernel_rfl
theorem shown_two : script_Parse.f 20 shownBad = some ([⟨3, ⟨#[103]⟩, ⟨0, []⟩, 0, 0, 5⟩], 12, 3) := by kernel_rfl
theorem shown_text : script_Text.f shownOps = some (⟨#[108, 111, 97, 100, 32, 103, 32, 51, 32, 49, 45, 50, 10, 97, 115, 107, 32, 103, 32, 104, 97, 108, 105, 110, 10]⟩ : ByteArray) := by kernel_rfl
set_option maxHeartbeats 4000000 in
set_option maxRecDepth 100000 in
theorem carcanetlaw25_shown.calls (r : Bool) (w : World) (hGW : GW w) (h : carcanetlaw25_shown.f = some r) :
    Calls Tryz.prog 4 #[] w fun e w' => e = .returned (.bool r) ∧ Below w.heap.size w w' := by
  have hu34 := Tryz.underlying36
  have hu31 := Tryz.underlying34
  obtain rfl := Option.some.inj h
  clear h
  have HGW := Aside0.mk hGW
  clear hGW
  have P1 := Aside0.mk shown_one
  have P2 := Aside0.mk shown_two
  have P3 := Aside0.mk shown_text
  go_enter Tryz.func4, Tryz.ntmps4
  go_upto_region 2 with (first | (go_at_call 5; refine (script_Parse.calls 20 shownText _ _ _ _ HGW.out P1.out).mono ?_; rintro e w1 ⟨v1, rfl, hS, hb1⟩; obtain ⟨A1, c1, rfl⟩ := Kd.R_slice (Kd.S_R hS); have HC1 := Aside0.mk (Kd.R_reads' (Kd.S_R hS)).2; have HB1 := Aside0.mk hb1; clear hS hb1))
  have hGW1 := GW.of_below HGW.out HB1.out
  have HGW1 := Aside0.mk hGW1
  clear hGW1
  have hcap := HC1.out.1
  go_wp2_with (first | (go_at_call 5; refine (script_Parse.calls 20 shownBad _ _ _ _ HGW1.out P2.out).mono ?_; rintro e w2 ⟨v2, rfl, hS2, hb2⟩; have HC2 := Aside0.mk (Kd.C_below HC1.out.2 hb2); have HB2 := Aside0.mk hb2; clear hS2 hb2; obtain ⟨ad, B0, d0, hA, hx0, hx1, hx2, hx3, hx4, hx5, hx6, hd0, hC0⟩ := at_T36 HC2.out 0 (by decide) (by decide); obtain ⟨ad2, B1, d1, hA2, hy0, hy1, hy2, hy3, hy4, hy5, hy6, hd1, hC1⟩ := at_T36 HC2.out 1 (by decide) (by decide); subst hA; injection hA2 with hA2; subst hA2; have g0 : w2.cell? ad = some (.int .i64 1) := hx0; have g1 : w2.cell? ⟨ad.block, ad.off + 1, none⟩ = some (.string ⟨#[103]⟩) := hx1; have g2 : w2.cell? ⟨ad.block, ad.off + 2, none⟩ = some (.int .i64 3) := hx2; have g3 : w2.cell? ⟨ad.block, ad.off + 3, none⟩ = some (.slice B0 1 d0) := hx3; have g4 : w2.cell? ⟨ad.block, ad.off + 7 + 4, none⟩ = some (.int .i64 4) := hy4; have g5 : w2.cell? ⟨ad.block, ad.off + 7 + 5, none⟩ = some (.int .i64 22) := hy5; have g6 : w2.cell? ⟨ad.block, ad.off + 7 + 6, none⟩ = some (.int .i64 26) := hy6; have g4' : w2.cell? ⟨ad.block, ad.off + 11, none⟩ = some (.int .i64 4) := hy4; have g5' : w2.cell? ⟨ad.block, ad.off + 12, none⟩ = some (.int .i64 22) := hy5; have g6' : w2.cell? ⟨ad.block, ad.off + 13, none⟩ = some (.int .i64 26) := hy6; clear hC0 hC1 hx0 hx1 hx2 hx3 hx4 hx5 hx6 hy0 hy1 hy2 hy3 hy4 hy5 hy6) | (go_at_call 8; refine (script_Text.calls _ _ shownOps _ _ (GW.of_below HGW1.out HB2.out) HC2.out hcap P3.out).mono ?_; rintro e w3 ⟨rfl, hb3⟩))
  go_ret
  exact ⟨rfl, (HB1.out.trans (HB2.out.mono HB1.out.size)).trans (hb3.mono (Nat.le_trans HB1.out.size HB2.out.size))⟩

end Go.Proofs.YtmdmdbiinngneaaGreatDoor.Q
