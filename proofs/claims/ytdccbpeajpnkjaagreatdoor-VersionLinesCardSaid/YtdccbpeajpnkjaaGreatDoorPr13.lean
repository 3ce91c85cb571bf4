/- Printed by a program of this work's own (wip/myprint.py) for these statements: functions of the program as Lean functions, and proofs that a call of the Go function returns just what the Lean function tells; conditions: where the Lean function tells 'some'. -/
import Derived.Test.YtdccbpeajpnkjaaGreatDoorPr0
import Derived.Test.YtdccbpeajpnkjaaGreatDoorPr6
import Derived.Test.YtdccbpeajpnkjaaGreatDoorPr7
import Derived.Test.YtdccbpeajpnkjaaGreatDoorPr8
import Derived.Test.YtdccbpeajpnkjaaGreatDoorPr12
import Derived.Test.YtdccbpeajpnkjaaGreatDoorExtE
import Derived.Test.YtdccbpeajpnkjaaGreatDoorGlob
namespace Go.Proofs.YtdccbpeajpnkjaaGreatDoor.Pr
open Go.RowKit Go.Proofs.YtdccbpeajpnkjaaGreatDoorW.PrintWords Go.Proofs.YtdccbpeajpnkjaaGreatDoorW.PrintLast Go.Proofs.YtdccbpeajpnkjaaGreatDoorW.PrintMore
attribute [local go_sem] max2_int min2_int max_two min_two max_three min_three max_four min_four   -- for this text's walks alone
set_option linter.unusedVariables false
set_option linter.unusedSimpArgs false

/-! ### modcertref24_Path: function 19 -/
def modcertref24_Path.f (k : Nat) (a0 : ByteArray) (a1 : Int) : Option (ByteArray × Int) := (modcertref24_part.f a1).bind fun t255 => (if t255 = true then (if a0.size + 2 ≤ 9223372036854775807 then ((modcertref24_decimal.f k a1).bind fun t256 => (if (a0 ++ (⟨#[47, 118]⟩ : ByteArray)).size + t256.size ≤ 9223372036854775807 then ((modcertref03_IsPath.f k ((a0 ++ (⟨#[47, 118]⟩ : ByteArray)) ++ t256)).bind fun t257 => (if t257 = true then (some ((a0 ++ (⟨#[47, 118]⟩ : ByteArray)) ++ t256, 0)) else (some ((⟨#[]⟩ : ByteArray), 4)))) else (none))) else (none)) else (some ((⟨#[]⟩ : ByteArray), 2)))
theorem modcertref24_Path.mono : ∀ a0 a1 k, LeO (modcertref24_Path.f k a0 a1) (modcertref24_Path.f (k + 1) a0 a1) := by
  intro a0 a1 k
  unfold modcertref24_Path.f
  repeat' first
      | (with_reducible exact modcertref03_IsPath.mono _ _)
      | (with_reducible exact modcertref24_decimal.mono _ _)
      | (with_reducible exact LeO.refl _)
      | (with_reducible exact LeO.none _)
      | (with_reducible refine LeO.ite ?_ ?_)
      | (with_reducible refine LeO.bind ?_ (fun _ => ?_))
      | exact modcertref03_IsPath.mono _ _
      | exact modcertref24_decimal.mono _ _
      | exact LeO.none _
      | refine LeO.ite ?_ ?_
      | refine LeO.bind ?_ (fun _ => ?_)
set_option maxHeartbeats 8000000 in
set_option maxRecDepth 100000 in
theorem modcertref24_Path.calls (k : Nat) (a0 : ByteArray) (a1 : Int) (r1 : ByteArray) (r2 : Int) (w : World) (h : modcertref24_Path.f k a0 a1 = some (r1, r2)) :
    Calls Tryz.prog 19 #[.string a0, .int .i64 a1] w fun e w' => e = .returned (.tuple #[.string r1, .int .i64 r2]) ∧ Below w.heap.size w w' := by
  have HB := Aside0.mk (Below.refl w.heap.size w)
  have H : ((modcertref24_part.f a1).bind fun t255 => (if t255 = true then (if a0.size + 2 ≤ 9223372036854775807 then ((modcertref24_decimal.f k a1).bind fun t256 => (if (a0 ++ (⟨#[47, 118]⟩ : ByteArray)).size + t256.size ≤ 9223372036854775807 then ((modcertref03_IsPath.f k ((a0 ++ (⟨#[47, 118]⟩ : ByteArray)) ++ t256)).bind fun t257 => (if t257 = true then (some ((a0 ++ (⟨#[47, 118]⟩ : ByteArray)) ++ t256, 0)) else (some ((⟨#[]⟩ : ByteArray), 4)))) else (none))) else (none)) else (some ((⟨#[]⟩ : ByteArray), 2)))) = some (r1, r2) := h
  clear h
  replace H := Option.bind_eq_some_iff.mp H
  obtain ⟨t255, A30, H⟩ := H
  replace H : (if t255 = true then (if a0.size + 2 ≤ 9223372036854775807 then ((modcertref24_decimal.f k a1).bind fun t256 => (if (a0 ++ (⟨#[47, 118]⟩ : ByteArray)).size + t256.size ≤ 9223372036854775807 then ((modcertref03_IsPath.f k ((a0 ++ (⟨#[47, 118]⟩ : ByteArray)) ++ t256)).bind fun t257 => (if t257 = true then (some ((a0 ++ (⟨#[47, 118]⟩ : ByteArray)) ++ t256, 0)) else (some ((⟨#[]⟩ : ByteArray), 4)))) else (none))) else (none)) else (some ((⟨#[]⟩ : ByteArray), 2))) = some (r1, r2) := H
  have A3 := Aside0.mk A30
  clear A30
  by_cases c4 : t255 = true
  · subst c4
    have H1 : (if a0.size + 2 ≤ 9223372036854775807 then ((modcertref24_decimal.f k a1).bind fun t256 => (if (a0 ++ (⟨#[47, 118]⟩ : ByteArray)).size + t256.size ≤ 9223372036854775807 then ((modcertref03_IsPath.f k ((a0 ++ (⟨#[47, 118]⟩ : ByteArray)) ++ t256)).bind fun t257 => (if t257 = true then (some ((a0 ++ (⟨#[47, 118]⟩ : ByteArray)) ++ t256, 0)) else (some ((⟨#[]⟩ : ByteArray), 4)))) else (none))) else (none)) = some (r1, r2) := by rw [if_pos rfl] at H; exact H
    clear H
    have H := H1
    clear H1
    by_cases c5 : a0.size + 2 ≤ 9223372036854775807
    · rw [if_pos c5] at H
      have c5b0 := eq_true c5
      have c5b1 : decide (a0.size + 2 ≤ 9223372036854775807) = true := decide_eq_true c5
      try have c5b2 : (9223372036854775807 < a0.size + 2) = False := eq_false (Nat.not_lt.2 c5)
      replace H := Option.bind_eq_some_iff.mp H
      obtain ⟨t256, A60, H⟩ := H
      replace H : (if (a0 ++ (⟨#[47, 118]⟩ : ByteArray)).size + t256.size ≤ 9223372036854775807 then ((modcertref03_IsPath.f k ((a0 ++ (⟨#[47, 118]⟩ : ByteArray)) ++ t256)).bind fun t257 => (if t257 = true then (some ((a0 ++ (⟨#[47, 118]⟩ : ByteArray)) ++ t256, 0)) else (some ((⟨#[]⟩ : ByteArray), 4)))) else (none)) = some (r1, r2) := H
      have A6 := Aside0.mk A60
      clear A60
      by_cases c7 : (a0 ++ (⟨#[47, 118]⟩ : ByteArray)).size + t256.size ≤ 9223372036854775807
      · rw [if_pos c7] at H
        have c7b0 := eq_true c7
        have c7b1 : decide ((a0 ++ (⟨#[47, 118]⟩ : ByteArray)).size + t256.size ≤ 9223372036854775807) = true := decide_eq_true c7
        try have c7b2 : (9223372036854775807 < (a0 ++ (⟨#[47, 118]⟩ : ByteArray)).size + t256.size) = False := eq_false (Nat.not_lt.2 c7)
        try have c7b3 : (9223372036854775807 < a0.size + 2 + t256.size) = False := eq_false (Nat.not_lt.2 (by have h_ := c7; simp only [ByteArray.size_append] at h_; exact h_))
        replace H := Option.bind_eq_some_iff.mp H
        obtain ⟨t257, A80, H⟩ := H
        replace H : (if t257 = true then (some ((a0 ++ (⟨#[47, 118]⟩ : ByteArray)) ++ t256, 0)) else (some ((⟨#[]⟩ : ByteArray), 4))) = some (r1, r2) := H
        have A8 := Aside0.mk A80
        clear A80
        by_cases c9 : t257 = true
        · subst c9
          have H1 : (some ((a0 ++ (⟨#[47, 118]⟩ : ByteArray)) ++ t256, 0)) = some (r1, r2) := by rw [if_pos rfl] at H; exact H
          clear H
          have H := H1
          clear H1
          simp only [Option.some.injEq, Prod.mk.injEq] at H
          obtain ⟨rfl, rfl⟩ := H
          go_enter Tryz.func19, Tryz.ntmps19
          go_wp2_with (first | ((with_reducible refine gate_callee (f := 34) rfl ?_); refine goesL_ (some 8) rfl rfl Tryz.func34 (by kernel_rfl) rfl #[.int .i64 a1] rfl (by (try simp only [List.map_toArray, List.map_cons, List.map_nil]); first | done | rfl | (simp only [List.length_drop, List.length_take]; rfl)) ?_; (with_reducible refine (modcertref24_part.calls a1 true _ A3.out).mono ?_); rintro e w' ⟨rfl, ⟨nd, rfl⟩⟩; refine ⟨_, rfl, ?_⟩) | ((with_reducible refine gate_callee (f := 35) rfl ?_); refine goesL_ (some 13) rfl rfl Tryz.func35 (by kernel_rfl) rfl #[.int .i64 a1] rfl (by (try simp only [List.map_toArray, List.map_cons, List.map_nil]); first | done | rfl | (simp only [List.length_drop, List.length_take]; rfl)) ?_; (with_reducible refine (modcertref24_decimal.calls k a1 t256 _ A6.out).mono ?_); rintro e w10 ⟨rfl, hb⟩; refine ⟨_, rfl, ?_⟩; have n0_ := Aside0.mk (below_step (by repeat (first | (with_reducible first | exact HB.out | apply below_alloc | apply pw_below_drewN | apply below_drew1) | exact HB.out)) hb); clear HB; have HB := n0_; clear n0_; (try clear hb); (try clear hb2); (try clear hk); (try clear hi)) | ((with_reducible refine gate_callee (f := 31) rfl ?_); refine goesL_ (some 16) rfl rfl Tryz.func31 (by kernel_rfl) rfl #[.string ((a0 ++ (⟨#[47, 118]⟩ : ByteArray)) ++ t256)] rfl (by (try simp only [List.map_toArray, List.map_cons, List.map_nil]); first | done | rfl | (simp only [List.length_drop, List.length_take]; rfl)) ?_; (with_reducible refine (modcertref03_IsPath.calls k ((a0 ++ (⟨#[47, 118]⟩ : ByteArray)) ++ t256) true _ A8.out).mono ?_); rintro e w11 ⟨rfl, hb⟩; refine ⟨_, rfl, ?_⟩; have n0_ := Aside0.mk (below_step (by repeat (first | (with_reducible first | exact HB.out | apply below_alloc | apply pw_below_drewN | apply below_drew1) | exact HB.out)) hb); clear HB; have HB := n0_; clear n0_; (try clear hb); (try clear hb2); (try clear hk); (try clear hi)))
          go_ret2
          exact ⟨by first | rfl | (simp [errW_none, errW_some] <;> rfl) | (simp [*, errW_none, errW_some] <;> rfl), by repeat (first | (with_reducible first | exact HB.out | apply below_alloc | apply pw_below_drewN | apply below_drew1) | exact HB.out)⟩
        · replace c9 := Bool.eq_false_iff.mpr c9
          subst c9
          have H1 : (some ((⟨#[]⟩ : ByteArray), 4)) = some (r1, r2) := by rw [if_neg (show ¬ (false = true) by decide)] at H; exact H
          clear H
          have H := H1
          clear H1
          simp only [Option.some.injEq, Prod.mk.injEq] at H
          obtain ⟨rfl, rfl⟩ := H
          go_enter Tryz.func19, Tryz.ntmps19
          go_wp2_with (first | ((with_reducible refine gate_callee (f := 34) rfl ?_); refine goesL_ (some 8) rfl rfl Tryz.func34 (by kernel_rfl) rfl #[.int .i64 a1] rfl (by (try simp only [List.map_toArray, List.map_cons, List.map_nil]); first | done | rfl | (simp only [List.length_drop, List.length_take]; rfl)) ?_; (with_reducible refine (modcertref24_part.calls a1 true _ A3.out).mono ?_); rintro e w' ⟨rfl, ⟨nd, rfl⟩⟩; refine ⟨_, rfl, ?_⟩) | ((with_reducible refine gate_callee (f := 35) rfl ?_); refine goesL_ (some 13) rfl rfl Tryz.func35 (by kernel_rfl) rfl #[.int .i64 a1] rfl (by (try simp only [List.map_toArray, List.map_cons, List.map_nil]); first | done | rfl | (simp only [List.length_drop, List.length_take]; rfl)) ?_; (with_reducible refine (modcertref24_decimal.calls k a1 t256 _ A6.out).mono ?_); rintro e w12 ⟨rfl, hb⟩; refine ⟨_, rfl, ?_⟩; have n0_ := Aside0.mk (below_step (by repeat (first | (with_reducible first | exact HB.out | apply below_alloc | apply pw_below_drewN | apply below_drew1) | exact HB.out)) hb); clear HB; have HB := n0_; clear n0_; (try clear hb); (try clear hb2); (try clear hk); (try clear hi)) | ((with_reducible refine gate_callee (f := 31) rfl ?_); refine goesL_ (some 16) rfl rfl Tryz.func31 (by kernel_rfl) rfl #[.string ((a0 ++ (⟨#[47, 118]⟩ : ByteArray)) ++ t256)] rfl (by (try simp only [List.map_toArray, List.map_cons, List.map_nil]); first | done | rfl | (simp only [List.length_drop, List.length_take]; rfl)) ?_; (with_reducible refine (modcertref03_IsPath.calls k ((a0 ++ (⟨#[47, 118]⟩ : ByteArray)) ++ t256) false _ A8.out).mono ?_); rintro e w13 ⟨rfl, hb⟩; refine ⟨_, rfl, ?_⟩; have n0_ := Aside0.mk (below_step (by repeat (first | (with_reducible first | exact HB.out | apply below_alloc | apply pw_below_drewN | apply below_drew1) | exact HB.out)) hb); clear HB; have HB := n0_; clear n0_; (try clear hb); (try clear hb2); (try clear hk); (try clear hi)))
          go_ret2
          exact ⟨by first | rfl | (simp [errW_none, errW_some] <;> rfl) | (simp [*, errW_none, errW_some] <;> rfl), by repeat (first | (with_reducible first | exact HB.out | apply below_alloc | apply pw_below_drewN | apply below_drew1) | exact HB.out)⟩
      · rw [if_neg c7] at H
        exact absurd H (by simp)
    · rw [if_neg c5] at H
      exact absurd H (by simp)
  · replace c4 := Bool.eq_false_iff.mpr c4
    subst c4
    have H1 : (some ((⟨#[]⟩ : ByteArray), 2)) = some (r1, r2) := by rw [if_neg (show ¬ (false = true) by decide)] at H; exact H
    clear H
    have H := H1
    clear H1
    simp only [Option.some.injEq, Prod.mk.injEq] at H
    obtain ⟨rfl, rfl⟩ := H
    go_enter Tryz.func19, Tryz.ntmps19
    go_wp2_with (first | ((with_reducible refine gate_callee (f := 34) rfl ?_); refine goesL_ (some 8) rfl rfl Tryz.func34 (by kernel_rfl) rfl #[.int .i64 a1] rfl (by (try simp only [List.map_toArray, List.map_cons, List.map_nil]); first | done | rfl | (simp only [List.length_drop, List.length_take]; rfl)) ?_; (with_reducible refine (modcertref24_part.calls a1 false _ A3.out).mono ?_); rintro e w' ⟨rfl, ⟨nd, rfl⟩⟩; refine ⟨_, rfl, ?_⟩))
    go_ret2
    exact ⟨by first | rfl | (simp [errW_none, errW_some] <;> rfl) | (simp [*, errW_none, errW_some] <;> rfl), by repeat (first | (with_reducible first | exact HB.out | apply below_alloc | apply pw_below_drewN | apply below_drew1) | exact HB.out)⟩

/-! ### modcertlaw24_VersionLines: function 4 -/
def modcertlaw24_VersionLines.j0 : Nat → ByteArray → ByteArray → Int → Bool → Option (Bool)
  | 0, _, _, _, _ => none
  | k + 1, x0, x1, x2, x26 => if x26 = true then (some true) else ((version_Line.f k x0).bind fun bt259 => ((modcertref24_Line.f k x0).bind fun bt262 => ((version_Path.f k x1 x2).bind fun bt265 => ((modcertref24_Path.f k x1 x2).bind fun bt267 => (if bt259.1.toList = bt262.1.toList then (if bt259.2.1 = bt262.2.1 then (if bt259.2.2 = bt262.2.2 then (if bt265.1.toList = bt267.1.toList then (some (bt265.2 == bt267.2)) else (some false)) else (some false)) else (some false)) else (some false))))))
def modcertlaw24_VersionLines.f (k : Nat) (a0 : ByteArray) (a1 : ByteArray) (a2 : Int) : Option (Bool) := (modcertlaw24_awake.f).bind fun t258 => (if t258 = true then (if (a0.size : Int) > 300 then (modcertlaw24_VersionLines.j0 k a0 a1 a2 true) else (modcertlaw24_VersionLines.j0 k a0 a1 a2 (decide ((a1.size : Int) > 300)))) else (some false))
theorem modcertlaw24_VersionLines.mono_l : ∀ k, (∀ y0 y1 y2 y3, LeO (modcertlaw24_VersionLines.j0 k y0 y1 y2 y3) (modcertlaw24_VersionLines.j0 (k + 1) y0 y1 y2 y3))
  | 0 => fun _ _ _ _ r h => by simp [modcertlaw24_VersionLines.j0] at h
  | k + 1 => by
    have ih0 := modcertlaw24_VersionLines.mono_l k
    · intro y0 y1 y2 y3
      unfold modcertlaw24_VersionLines.j0
      repeat' first
      | (with_reducible exact ih0 _ _ _ _)
      | (with_reducible exact modcertref24_Line.mono _ _)
      | (with_reducible exact modcertref24_Path.mono _ _ _)
      | (with_reducible exact version_Line.mono _ _)
      | (with_reducible exact version_Path.mono _ _ _)
      | (with_reducible exact LeO.refl _)
      | (with_reducible exact LeO.none _)
      | (with_reducible refine LeO.ite ?_ ?_)
      | (with_reducible refine LeO.bind ?_ (fun _ => ?_))
      | exact ih0 _ _ _ _
      | exact modcertref24_Line.mono _ _
      | exact modcertref24_Path.mono _ _ _
      | exact version_Line.mono _ _
      | exact version_Path.mono _ _ _
      | exact LeO.none _
      | refine LeO.ite ?_ ?_
      | refine LeO.bind ?_ (fun _ => ?_)
theorem modcertlaw24_VersionLines.mono : ∀ a0 a1 a2 k, LeO (modcertlaw24_VersionLines.f k a0 a1 a2) (modcertlaw24_VersionLines.f (k + 1) a0 a1 a2) := by
  intro a0 a1 a2 k
  have ih0 := modcertlaw24_VersionLines.mono_l k
  unfold modcertlaw24_VersionLines.f
  repeat' first
      | (with_reducible exact ih0 _ _ _ _)
      | (with_reducible exact modcertref24_Line.mono _ _)
      | (with_reducible exact modcertref24_Path.mono _ _ _)
      | (with_reducible exact version_Line.mono _ _)
      | (with_reducible exact version_Path.mono _ _ _)
      | (with_reducible exact LeO.refl _)
      | (with_reducible exact LeO.none _)
      | (with_reducible refine LeO.ite ?_ ?_)
      | (with_reducible refine LeO.bind ?_ (fun _ => ?_))
      | exact ih0 _ _ _ _
      | exact modcertref24_Line.mono _ _
      | exact modcertref24_Path.mono _ _ _
      | exact version_Line.mono _ _
      | exact version_Path.mono _ _ _
      | exact LeO.none _
      | refine LeO.ite ?_ ?_
      | refine LeO.bind ?_ (fun _ => ?_)
set_option maxHeartbeats 8000000 in
set_option maxRecDepth 100000 in
theorem modcertlaw24_VersionLines.calls (k : Nat) (a0 : ByteArray) (a1 : ByteArray) (a2 : Int) (r : Bool) (w : World) (h : modcertlaw24_VersionLines.f k a0 a1 a2 = some r) (hG : Gd w)  :
    Calls Tryz.prog 4 #[.string a0, .string a1, .int .i64 a2] w fun e w' => e = .returned (.bool r) ∧ Below w.heap.size w w' := by
  have HG := Aside0.mk hG
  clear hG
  have HB := Aside0.mk (Below.refl w.heap.size w)
  have H : ((modcertlaw24_awake.f).bind fun t258 => (if t258 = true then (if (a0.size : Int) > 300 then (modcertlaw24_VersionLines.j0 k a0 a1 a2 true) else (modcertlaw24_VersionLines.j0 k a0 a1 a2 (decide ((a1.size : Int) > 300)))) else (some false))) = some r := h
  clear h
  replace H := Option.bind_eq_some_iff.mp H
  obtain ⟨t258, A40, H⟩ := H
  replace H : (if t258 = true then (if (a0.size : Int) > 300 then (modcertlaw24_VersionLines.j0 k a0 a1 a2 true) else (modcertlaw24_VersionLines.j0 k a0 a1 a2 (decide ((a1.size : Int) > 300)))) else (some false)) = some r := H
  have A4 := Aside0.mk A40
  clear A40
  by_cases c5 : t258 = true
  · subst c5
    have H1 : (if (a0.size : Int) > 300 then (modcertlaw24_VersionLines.j0 k a0 a1 a2 true) else (modcertlaw24_VersionLines.j0 k a0 a1 a2 (decide ((a1.size : Int) > 300)))) = some r := by rw [if_pos rfl] at H; exact H
    clear H
    have H := H1
    clear H1
    have HC6 := Aside0.mk H
    clear H
    go_enter Tryz.func4, Tryz.ntmps4
    go_upto_region 3 with (first | ((with_reducible refine gate_callee (f := 5) rfl ?_); refine goesL_ (some 17) rfl rfl Tryz.func5 (by kernel_rfl) rfl #[] rfl (by (try simp only [List.map_toArray, List.map_cons, List.map_nil]); first | done | rfl | (simp only [List.length_drop, List.length_take]; rfl)) ?_; (with_reducible refine (modcertlaw24_awake.calls  true _ A4.out ?gd_).mono ?_); (case gd_ => first | exact HG.out | exact Gd.below HG.out (by repeat (first | (with_reducible first | exact Below.refl _ _ | exact HB.out | apply below_alloc | apply pw_below_drewN | apply below_drew1) | exact HB.out)) | exact Gd.below HG.out (by first | exact HB | (refine Below.trans ?_ ?_ <;> first | exact HB.out))); rintro e w7 ⟨rfl, hb⟩; refine ⟨_, rfl, ?_⟩; have n0_ := Aside0.mk (below_step (by repeat (first | (with_reducible first | exact HB.out | apply below_alloc | apply pw_below_drewN | apply below_drew1) | exact HB.out)) hb); clear HB; have HB := n0_; clear n0_; (try clear hb); (try clear hb2); (try clear hk); (try clear hi)))
    (try simp only [Act.put, List.setIfInBounds_toArray, List.set_cons_zero, List.set_cons_succ])
    go_cut [26] (fun v26 wc => ∃ (kq : Nat) (x26_5 : Bool), v26 = .bool x26_5 ∧ Aside0 (modcertlaw24_VersionLines.j0 kq a0 a1 a2 x26_5 = some r) ∧ Aside0 (kq ≤ k) ∧ Aside0 (Below w.heap.size w wc))
    case first =>
      have H := HC6.out
      clear HC6
      by_cases c8 : (a0.size : Int) > 300
      · rw [if_pos c8] at H
        have c8b0 : decide (300 < (a0.size : Int)) = true := decide_eq_true c8
        have c8b1 : decide (300 < a0.size) = true := decide_eq_true (by omega)
        clear c8
        (first | rw [c8b0] | (simp only [i64_w, i32_w]; rw [c8b0]) | skip)
        have H' := Aside0.mk H
        clear H
        go_wp2
        go_meet
        case rel => exact ⟨_, (true), (by first | rfl | (simp; done) | (simp [*]; done)), H', ⟨by first | omega | exact Nat.le_refl _⟩, ⟨by repeat (first | (with_reducible first | exact HB.out | apply below_alloc | apply pw_below_drewN | apply below_drew1) | exact HB.out)⟩⟩
      · rw [if_neg c8] at H
        have c8b0 : decide (300 < (a0.size : Int)) = false := decide_eq_false c8
        have c8b1 : decide (300 < a0.size) = false := decide_eq_false (by omega)
        clear c8
        (first | rw [c8b0] | (simp only [i64_w, i32_w]; rw [c8b0]) | skip)
        have H' := Aside0.mk H
        clear H
        go_wp2
        go_meet
        case rel => exact ⟨_, (decide ((a1.size : Int) > 300)), (by first | rfl | (simp; done) | (simp [*]; done)), H', ⟨by first | omega | exact Nat.le_refl _⟩, ⟨by repeat (first | (with_reducible first | exact HB.out | apply below_alloc | apply pw_below_drewN | apply below_drew1) | exact HB.out)⟩⟩
    case rest =>
      clear HC6
      try clear p2
      try clear c4
      try clear c5
      try clear c8
      try clear c8b0
      try clear c8b1
      obtain ⟨kq, x26_5, rfl, HA, HJ5, HB⟩ := hcut
      cases kq with
      | zero => exact absurd HA.out (by simp [modcertlaw24_VersionLines.j0])
      | succ kj5 =>
        have H := HA.out
        clear HA
        simp only [modcertlaw24_VersionLines.j0] at H
        by_cases c9 : x26_5 = true
        · subst c9
          have H1 : (some true) = some r := by rw [if_pos rfl] at H; exact H
          clear H
          have H := H1
          clear H1
          obtain rfl := Option.some.inj H
          go_wp2
          go_ret
          exact ⟨by first | rfl | (simp [errW_none, errW_some] <;> rfl) | (simp [*, errW_none, errW_some] <;> rfl), by repeat (first | (with_reducible first | exact HB.out | apply below_alloc | apply pw_below_drewN | apply below_drew1) | exact HB.out)⟩
        · replace c9 := Bool.eq_false_iff.mpr c9
          subst c9
          have H1 : ((version_Line.f kj5 a0).bind fun bt259 => ((modcertref24_Line.f kj5 a0).bind fun bt262 => ((version_Path.f kj5 a1 a2).bind fun bt265 => ((modcertref24_Path.f kj5 a1 a2).bind fun bt267 => (if bt259.1.toList = bt262.1.toList then (if bt259.2.1 = bt262.2.1 then (if bt259.2.2 = bt262.2.2 then (if bt265.1.toList = bt267.1.toList then (some (bt265.2 == bt267.2)) else (some false)) else (some false)) else (some false)) else (some false)))))) = some r := by rw [if_neg (show ¬ (false = true) by decide)] at H; exact H
          clear H
          have H := H1
          clear H1
          replace H := Option.bind_eq_some_iff.mp H
          obtain ⟨⟨t259, t260, t261⟩, A100, H⟩ := H
          replace H : ((modcertref24_Line.f kj5 a0).bind fun bt262 => ((version_Path.f kj5 a1 a2).bind fun bt265 => ((modcertref24_Path.f kj5 a1 a2).bind fun bt267 => (if t259.toList = bt262.1.toList then (if t260 = bt262.2.1 then (if t261 = bt262.2.2 then (if bt265.1.toList = bt267.1.toList then (some (bt265.2 == bt267.2)) else (some false)) else (some false)) else (some false)) else (some false))))) = some r := H
          have A10 := Aside0.mk A100
          clear A100
          replace H := Option.bind_eq_some_iff.mp H
          obtain ⟨⟨t262, t263, t264⟩, A110, H⟩ := H
          replace H : ((version_Path.f kj5 a1 a2).bind fun bt265 => ((modcertref24_Path.f kj5 a1 a2).bind fun bt267 => (if t259.toList = t262.toList then (if t260 = t263 then (if t261 = t264 then (if bt265.1.toList = bt267.1.toList then (some (bt265.2 == bt267.2)) else (some false)) else (some false)) else (some false)) else (some false)))) = some r := H
          have A11 := Aside0.mk A110
          clear A110
          replace H := Option.bind_eq_some_iff.mp H
          obtain ⟨⟨t265, t266⟩, A120, H⟩ := H
          replace H : ((modcertref24_Path.f kj5 a1 a2).bind fun bt267 => (if t259.toList = t262.toList then (if t260 = t263 then (if t261 = t264 then (if t265.toList = bt267.1.toList then (some (t266 == bt267.2)) else (some false)) else (some false)) else (some false)) else (some false))) = some r := H
          have A12 := Aside0.mk A120
          clear A120
          replace H := Option.bind_eq_some_iff.mp H
          obtain ⟨⟨t267, t268⟩, A130, H⟩ := H
          replace H : (if t259.toList = t262.toList then (if t260 = t263 then (if t261 = t264 then (if t265.toList = t267.toList then (some (t266 == t268)) else (some false)) else (some false)) else (some false)) else (some false)) = some r := H
          have A13 := Aside0.mk A130
          clear A130
          by_cases c14 : t259.toList = t262.toList
          · rw [if_pos c14] at H
            have c14b0 : (t259.toList == t262.toList) = true := beq_iff_eq.mpr c14
            have c14b1 : (t259.toList != t262.toList) = false := bne_eq_false_iff_eq.mpr c14
            clear c14
            by_cases c15 : t260 = t263
            · rw [if_pos c15] at H
              have c15b0 : (t260 == t263) = true := beq_iff_eq.mpr c15
              have c15b1 : (t260 != t263) = false := bne_eq_false_iff_eq.mpr c15
              clear c15
              by_cases c16 : t261 = t264
              · rw [if_pos c16] at H
                have c16b0 : (t261 == t264) = true := beq_iff_eq.mpr c16
                have c16b1 : (t261 != t264) = false := bne_eq_false_iff_eq.mpr c16
                clear c16
                by_cases c17 : t265.toList = t267.toList
                · rw [if_pos c17] at H
                  have c17b0 : (t265.toList == t267.toList) = true := beq_iff_eq.mpr c17
                  have c17b1 : (t265.toList != t267.toList) = false := bne_eq_false_iff_eq.mpr c17
                  clear c17
                  obtain rfl := Option.some.inj H
                  go_wp2_with (first | ((with_reducible refine gate_callee (f := 16) rfl ?_); refine goesL_ (some 29) rfl rfl Tryz.func16 (by kernel_rfl) rfl #[.string a0] rfl (by (try simp only [List.map_toArray, List.map_cons, List.map_nil]); first | done | rfl | (simp only [List.length_drop, List.length_take]; rfl)) ?_; (with_reducible refine (version_Line.calls kj5 a0 t259 t260 t261 _ A10.out ?gd_).mono ?_); (case gd_ => first | exact HG.out | exact Gd.below HG.out (by repeat (first | (with_reducible first | exact Below.refl _ _ | exact HB.out | apply below_alloc | apply pw_below_drewN | apply below_drew1) | exact HB.out)) | exact Gd.below HG.out (by first | exact HB | (refine Below.trans ?_ ?_ <;> first | exact HB.out))); rintro e w18 ⟨rfl, hb⟩; refine ⟨_, rfl, ?_⟩; have n0_ := Aside0.mk (below_step (by repeat (first | (with_reducible first | exact HB.out | apply below_alloc | apply pw_below_drewN | apply below_drew1) | exact HB.out)) hb); clear HB; have HB := n0_; clear n0_; (try clear hb); (try clear hb2); (try clear hk); (try clear hi)) | ((with_reducible refine gate_callee (f := 17) rfl ?_); refine goesL_ (some 35) rfl rfl Tryz.func17 (by kernel_rfl) rfl #[.string a0] rfl (by (try simp only [List.map_toArray, List.map_cons, List.map_nil]); first | done | rfl | (simp only [List.length_drop, List.length_take]; rfl)) ?_; (with_reducible refine (modcertref24_Line.calls kj5 a0 t262 t263 t264 _ A11.out).mono ?_); rintro e w19 ⟨rfl, hb⟩; refine ⟨_, rfl, ?_⟩; have n0_ := Aside0.mk (below_step (by repeat (first | (with_reducible first | exact HB.out | apply below_alloc | apply pw_below_drewN | apply below_drew1) | exact HB.out)) hb); clear HB; have HB := n0_; clear n0_; (try clear hb); (try clear hb2); (try clear hk); (try clear hi)) | ((with_reducible refine gate_callee (f := 18) rfl ?_); refine goesL_ (some 42) rfl rfl Tryz.func18 (by kernel_rfl) rfl #[.string a1, .int .i64 a2] rfl (by (try simp only [List.map_toArray, List.map_cons, List.map_nil]); first | done | rfl | (simp only [List.length_drop, List.length_take]; rfl)) ?_; (with_reducible refine (version_Path.calls kj5 a1 a2 t265 t266 _ A12.out ?gd_).mono ?_); (case gd_ => first | exact HG.out | exact Gd.below HG.out (by repeat (first | (with_reducible first | exact Below.refl _ _ | exact HB.out | apply below_alloc | apply pw_below_drewN | apply below_drew1) | exact HB.out)) | exact Gd.below HG.out (by first | exact HB | (refine Below.trans ?_ ?_ <;> first | exact HB.out))); rintro e w20 ⟨rfl, hb⟩; refine ⟨_, rfl, ?_⟩; have n0_ := Aside0.mk (below_step (by repeat (first | (with_reducible first | exact HB.out | apply below_alloc | apply pw_below_drewN | apply below_drew1) | exact HB.out)) hb); clear HB; have HB := n0_; clear n0_; (try clear hb); (try clear hb2); (try clear hk); (try clear hi)) | ((with_reducible refine gate_callee (f := 19) rfl ?_); refine goesL_ (some 48) rfl rfl Tryz.func19 (by kernel_rfl) rfl #[.string a1, .int .i64 a2] rfl (by (try simp only [List.map_toArray, List.map_cons, List.map_nil]); first | done | rfl | (simp only [List.length_drop, List.length_take]; rfl)) ?_; (with_reducible refine (modcertref24_Path.calls kj5 a1 a2 t267 t268 _ A13.out).mono ?_); rintro e w21 ⟨rfl, hb⟩; refine ⟨_, rfl, ?_⟩; have n0_ := Aside0.mk (below_step (by repeat (first | (with_reducible first | exact HB.out | apply below_alloc | apply pw_below_drewN | apply below_drew1) | exact HB.out)) hb); clear HB; have HB := n0_; clear n0_; (try clear hb); (try clear hb2); (try clear hk); (try clear hi)))
                  go_ret
                  exact ⟨by first | rfl | (simp [errW_none, errW_some] <;> rfl) | (simp [*, errW_none, errW_some] <;> rfl), by repeat (first | (with_reducible first | exact HB.out | apply below_alloc | apply pw_below_drewN | apply below_drew1) | exact HB.out)⟩
                · rw [if_neg c17] at H
                  have c17b0 : (t265.toList == t267.toList) = false := beq_eq_false_iff_ne.mpr c17
                  have c17b1 : (t265.toList != t267.toList) = true := bne_iff_ne.mpr c17
                  obtain rfl := Option.some.inj H
                  go_wp2_with (first | ((with_reducible refine gate_callee (f := 16) rfl ?_); refine goesL_ (some 29) rfl rfl Tryz.func16 (by kernel_rfl) rfl #[.string a0] rfl (by (try simp only [List.map_toArray, List.map_cons, List.map_nil]); first | done | rfl | (simp only [List.length_drop, List.length_take]; rfl)) ?_; (with_reducible refine (version_Line.calls kj5 a0 t259 t260 t261 _ A10.out ?gd_).mono ?_); (case gd_ => first | exact HG.out | exact Gd.below HG.out (by repeat (first | (with_reducible first | exact Below.refl _ _ | exact HB.out | apply below_alloc | apply pw_below_drewN | apply below_drew1) | exact HB.out)) | exact Gd.below HG.out (by first | exact HB | (refine Below.trans ?_ ?_ <;> first | exact HB.out))); rintro e w22 ⟨rfl, hb⟩; refine ⟨_, rfl, ?_⟩; have n0_ := Aside0.mk (below_step (by repeat (first | (with_reducible first | exact HB.out | apply below_alloc | apply pw_below_drewN | apply below_drew1) | exact HB.out)) hb); clear HB; have HB := n0_; clear n0_; (try clear hb); (try clear hb2); (try clear hk); (try clear hi)) | ((with_reducible refine gate_callee (f := 17) rfl ?_); refine goesL_ (some 35) rfl rfl Tryz.func17 (by kernel_rfl) rfl #[.string a0] rfl (by (try simp only [List.map_toArray, List.map_cons, List.map_nil]); first | done | rfl | (simp only [List.length_drop, List.length_take]; rfl)) ?_; (with_reducible refine (modcertref24_Line.calls kj5 a0 t262 t263 t264 _ A11.out).mono ?_); rintro e w23 ⟨rfl, hb⟩; refine ⟨_, rfl, ?_⟩; have n0_ := Aside0.mk (below_step (by repeat (first | (with_reducible first | exact HB.out | apply below_alloc | apply pw_below_drewN | apply below_drew1) | exact HB.out)) hb); clear HB; have HB := n0_; clear n0_; (try clear hb); (try clear hb2); (try clear hk); (try clear hi)) | ((with_reducible refine gate_callee (f := 18) rfl ?_); refine goesL_ (some 42) rfl rfl Tryz.func18 (by kernel_rfl) rfl #[.string a1, .int .i64 a2] rfl (by (try simp only [List.map_toArray, List.map_cons, List.map_nil]); first | done | rfl | (simp only [List.length_drop, List.length_take]; rfl)) ?_; (with_reducible refine (version_Path.calls kj5 a1 a2 t265 t266 _ A12.out ?gd_).mono ?_); (case gd_ => first | exact HG.out | exact Gd.below HG.out (by repeat (first | (with_reducible first | exact Below.refl _ _ | exact HB.out | apply below_alloc | apply pw_below_drewN | apply below_drew1) | exact HB.out)) | exact Gd.below HG.out (by first | exact HB | (refine Below.trans ?_ ?_ <;> first | exact HB.out))); rintro e w24 ⟨rfl, hb⟩; refine ⟨_, rfl, ?_⟩; have n0_ := Aside0.mk (below_step (by repeat (first | (with_reducible first | exact HB.out | apply below_alloc | apply pw_below_drewN | apply below_drew1) | exact HB.out)) hb); clear HB; have HB := n0_; clear n0_; (try clear hb); (try clear hb2); (try clear hk); (try clear hi)) | ((with_reducible refine gate_callee (f := 19) rfl ?_); refine goesL_ (some 48) rfl rfl Tryz.func19 (by kernel_rfl) rfl #[.string a1, .int .i64 a2] rfl (by (try simp only [List.map_toArray, List.map_cons, List.map_nil]); first | done | rfl | (simp only [List.length_drop, List.length_take]; rfl)) ?_; (with_reducible refine (modcertref24_Path.calls kj5 a1 a2 t267 t268 _ A13.out).mono ?_); rintro e w25 ⟨rfl, hb⟩; refine ⟨_, rfl, ?_⟩; have n0_ := Aside0.mk (below_step (by repeat (first | (with_reducible first | exact HB.out | apply below_alloc | apply pw_below_drewN | apply below_drew1) | exact HB.out)) hb); clear HB; have HB := n0_; clear n0_; (try clear hb); (try clear hb2); (try clear hk); (try clear hi)))
                  go_ret
                  exact ⟨by first | rfl | (simp [errW_none, errW_some] <;> rfl) | (simp [*, errW_none, errW_some] <;> rfl), by repeat (first | (with_reducible first | exact HB.out | apply below_alloc | apply pw_below_drewN | apply below_drew1) | exact HB.out)⟩
              · rw [if_neg c16] at H
                have c16b0 : (t261 == t264) = false := beq_eq_false_iff_ne.mpr c16
                have c16b1 : (t261 != t264) = true := bne_iff_ne.mpr c16
                obtain rfl := Option.some.inj H
                go_wp2_with (first | ((with_reducible refine gate_callee (f := 16) rfl ?_); refine goesL_ (some 29) rfl rfl Tryz.func16 (by kernel_rfl) rfl #[.string a0] rfl (by (try simp only [List.map_toArray, List.map_cons, List.map_nil]); first | done | rfl | (simp only [List.length_drop, List.length_take]; rfl)) ?_; (with_reducible refine (version_Line.calls kj5 a0 t259 t260 t261 _ A10.out ?gd_).mono ?_); (case gd_ => first | exact HG.out | exact Gd.below HG.out (by repeat (first | (with_reducible first | exact Below.refl _ _ | exact HB.out | apply below_alloc | apply pw_below_drewN | apply below_drew1) | exact HB.out)) | exact Gd.below HG.out (by first | exact HB | (refine Below.trans ?_ ?_ <;> first | exact HB.out))); rintro e w26 ⟨rfl, hb⟩; refine ⟨_, rfl, ?_⟩; have n0_ := Aside0.mk (below_step (by repeat (first | (with_reducible first | exact HB.out | apply below_alloc | apply pw_below_drewN | apply below_drew1) | exact HB.out)) hb); clear HB; have HB := n0_; clear n0_; (try clear hb); (try clear hb2); (try clear hk); (try clear hi)) | ((with_reducible refine gate_callee (f := 17) rfl ?_); refine goesL_ (some 35) rfl rfl Tryz.func17 (by kernel_rfl) rfl #[.string a0] rfl (by (try simp only [List.map_toArray, List.map_cons, List.map_nil]); first | done | rfl | (simp only [List.length_drop, List.length_take]; rfl)) ?_; (with_reducible refine (modcertref24_Line.calls kj5 a0 t262 t263 t264 _ A11.out).mono ?_); rintro e w27 ⟨rfl, hb⟩; refine ⟨_, rfl, ?_⟩; have n0_ := Aside0.mk (below_step (by repeat (first | (with_reducible first | exact HB.out | apply below_alloc | apply pw_below_drewN | apply below_drew1) | exact HB.out)) hb); clear HB; have HB := n0_; clear n0_; (try clear hb); (try clear hb2); (try clear hk); (try clear hi)) | ((with_reducible refine gate_callee (f := 18) rfl ?_); refine goesL_ (some 42) rfl rfl Tryz.func18 (by kernel_rfl) rfl #[.string a1, .int .i64 a2] rfl (by (try simp only [List.map_toArray, List.map_cons, List.map_nil]); first | done | rfl | (simp only [List.length_drop, List.length_take]; rfl)) ?_; (with_reducible refine (version_Path.calls kj5 a1 a2 t265 t266 _ A12.out ?gd_).mono ?_); (case gd_ => first | exact HG.out | exact Gd.below HG.out (by repeat (first | (with_reducible first | exact Below.refl _ _ | exact HB.out | apply below_alloc | apply pw_below_drewN | apply below_drew1) | exact HB.out)) | exact Gd.below HG.out (by first | exact HB | (refine Below.trans ?_ ?_ <;> first | exact HB.out))); rintro e w28 ⟨rfl, hb⟩; refine ⟨_, rfl, ?_⟩; have n0_ := Aside0.mk (below_step (by repeat (first | (with_reducible first | exact HB.out | apply below_alloc | apply pw_below_drewN | apply below_drew1) | exact HB.out)) hb); clear HB; have HB := n0_; clear n0_; (try clear hb); (try clear hb2); (try clear hk); (try clear hi)) | ((with_reducible refine gate_callee (f := 19) rfl ?_); refine goesL_ (some 48) rfl rfl Tryz.func19 (by kernel_rfl) rfl #[.string a1, .int .i64 a2] rfl (by (try simp only [List.map_toArray, List.map_cons, List.map_nil]); first | done | rfl | (simp only [List.length_drop, List.length_take]; rfl)) ?_; (with_reducible refine (modcertref24_Path.calls kj5 a1 a2 t267 t268 _ A13.out).mono ?_); rintro e w29 ⟨rfl, hb⟩; refine ⟨_, rfl, ?_⟩; have n0_ := Aside0.mk (below_step (by repeat (first | (with_reducible first | exact HB.out | apply below_alloc | apply pw_below_drewN | apply below_drew1) | exact HB.out)) hb); clear HB; have HB := n0_; clear n0_; (try clear hb); (try clear hb2); (try clear hk); (try clear hi)))
                go_ret
                exact ⟨by first | rfl | (simp [errW_none, errW_some] <;> rfl) | (simp [*, errW_none, errW_some] <;> rfl), by repeat (first | (with_reducible first | exact HB.out | apply below_alloc | apply pw_below_drewN | apply below_drew1) | exact HB.out)⟩
            · rw [if_neg c15] at H
              have c15b0 : (t260 == t263) = false := beq_eq_false_iff_ne.mpr c15
              have c15b1 : (t260 != t263) = true := bne_iff_ne.mpr c15
              obtain rfl := Option.some.inj H
              go_wp2_with (first | ((with_reducible refine gate_callee (f := 16) rfl ?_); refine goesL_ (some 29) rfl rfl Tryz.func16 (by kernel_rfl) rfl #[.string a0] rfl (by (try simp only [List.map_toArray, List.map_cons, List.map_nil]); first | done | rfl | (simp only [List.length_drop, List.length_take]; rfl)) ?_; (with_reducible refine (version_Line.calls kj5 a0 t259 t260 t261 _ A10.out ?gd_).mono ?_); (case gd_ => first | exact HG.out | exact Gd.below HG.out (by repeat (first | (with_reducible first | exact Below.refl _ _ | exact HB.out | apply below_alloc | apply pw_below_drewN | apply below_drew1) | exact HB.out)) | exact Gd.below HG.out (by first | exact HB | (refine Below.trans ?_ ?_ <;> first | exact HB.out))); rintro e w30 ⟨rfl, hb⟩; refine ⟨_, rfl, ?_⟩; have n0_ := Aside0.mk (below_step (by repeat (first | (with_reducible first | exact HB.out | apply below_alloc | apply pw_below_drewN | apply below_drew1) | exact HB.out)) hb); clear HB; have HB := n0_; clear n0_; (try clear hb); (try clear hb2); (try clear hk); (try clear hi)) | ((with_reducible refine gate_callee (f := 17) rfl ?_); refine goesL_ (some 35) rfl rfl Tryz.func17 (by kernel_rfl) rfl #[.string a0] rfl (by (try simp only [List.map_toArray, List.map_cons, List.map_nil]); first | done | rfl | (simp only [List.length_drop, List.length_take]; rfl)) ?_; (with_reducible refine (modcertref24_Line.calls kj5 a0 t262 t263 t264 _ A11.out).mono ?_); rintro e w31 ⟨rfl, hb⟩; refine ⟨_, rfl, ?_⟩; have n0_ := Aside0.mk (below_step (by repeat (first | (with_reducible first | exact HB.out | apply below_alloc | apply pw_below_drewN | apply below_drew1) | exact HB.out)) hb); clear HB; have HB := n0_; clear n0_; (try clear hb); (try clear hb2); (try clear hk); (try clear hi)) | ((with_reducible refine gate_callee (f := 18) rfl ?_); refine goesL_ (some 42) rfl rfl Tryz.func18 (by kernel_rfl) rfl #[.string a1, .int .i64 a2] rfl (by (try simp only [List.map_toArray, List.map_cons, List.map_nil]); first | done | rfl | (simp only [List.length_drop, List.length_take]; rfl)) ?_; (with_reducible refine (version_Path.calls kj5 a1 a2 t265 t266 _ A12.out ?gd_).mono ?_); (case gd_ => first | exact HG.out | exact Gd.below HG.out (by repeat (first | (with_reducible first | exact Below.refl _ _ | exact HB.out | apply below_alloc | apply pw_below_drewN | apply below_drew1) | exact HB.out)) | exact Gd.below HG.out (by first | exact HB | (refine Below.trans ?_ ?_ <;> first | exact HB.out))); rintro e w32 ⟨rfl, hb⟩; refine ⟨_, rfl, ?_⟩; have n0_ := Aside0.mk (below_step (by repeat (first | (with_reducible first | exact HB.out | apply below_alloc | apply pw_below_drewN | apply below_drew1) | exact HB.out)) hb); clear HB; have HB := n0_; clear n0_; (try clear hb); (try clear hb2); (try clear hk); (try clear hi)) | ((with_reducible refine gate_callee (f := 19) rfl ?_); refine goesL_ (some 48) rfl rfl Tryz.func19 (by kernel_rfl) rfl #[.string a1, .int .i64 a2] rfl (by (try simp only [List.map_toArray, List.map_cons, List.map_nil]); first | done | rfl | (simp only [List.length_drop, List.length_take]; rfl)) ?_; (with_reducible refine (modcertref24_Path.calls kj5 a1 a2 t267 t268 _ A13.out).mono ?_); rintro e w33 ⟨rfl, hb⟩; refine ⟨_, rfl, ?_⟩; have n0_ := Aside0.mk (below_step (by repeat (first | (with_reducible first | exact HB.out | apply below_alloc | apply pw_below_drewN | apply below_drew1) | exact HB.out)) hb); clear HB; have HB := n0_; clear n0_; (try clear hb); (try clear hb2); (try clear hk); (try clear hi)))
              go_ret
              exact ⟨by first | rfl | (simp [errW_none, errW_some] <;> rfl) | (simp [*, errW_none, errW_some] <;> rfl), by repeat (first | (with_reducible first | exact HB.out | apply below_alloc | apply pw_below_drewN | apply below_drew1) | exact HB.out)⟩
          · rw [if_neg c14] at H
            have c14b0 : (t259.toList == t262.toList) = false := beq_eq_false_iff_ne.mpr c14
            have c14b1 : (t259.toList != t262.toList) = true := bne_iff_ne.mpr c14
            obtain rfl := Option.some.inj H
            go_wp2_with (first | ((with_reducible refine gate_callee (f := 16) rfl ?_); refine goesL_ (some 29) rfl rfl Tryz.func16 (by kernel_rfl) rfl #[.string a0] rfl (by (try simp only [List.map_toArray, List.map_cons, List.map_nil]); first | done | rfl | (simp only [List.length_drop, List.length_take]; rfl)) ?_; (with_reducible refine (version_Line.calls kj5 a0 t259 t260 t261 _ A10.out ?gd_).mono ?_); (case gd_ => first | exact HG.out | exact Gd.below HG.out (by repeat (first | (with_reducible first | exact Below.refl _ _ | exact HB.out | apply below_alloc | apply pw_below_drewN | apply below_drew1) | exact HB.out)) | exact Gd.below HG.out (by first | exact HB | (refine Below.trans ?_ ?_ <;> first | exact HB.out))); rintro e w34 ⟨rfl, hb⟩; refine ⟨_, rfl, ?_⟩; have n0_ := Aside0.mk (below_step (by repeat (first | (with_reducible first | exact HB.out | apply below_alloc | apply pw_below_drewN | apply below_drew1) | exact HB.out)) hb); clear HB; have HB := n0_; clear n0_; (try clear hb); (try clear hb2); (try clear hk); (try clear hi)) | ((with_reducible refine gate_callee (f := 17) rfl ?_); refine goesL_ (some 35) rfl rfl Tryz.func17 (by kernel_rfl) rfl #[.string a0] rfl (by (try simp only [List.map_toArray, List.map_cons, List.map_nil]); first | done | rfl | (simp only [List.length_drop, List.length_take]; rfl)) ?_; (with_reducible refine (modcertref24_Line.calls kj5 a0 t262 t263 t264 _ A11.out).mono ?_); rintro e w35 ⟨rfl, hb⟩; refine ⟨_, rfl, ?_⟩; have n0_ := Aside0.mk (below_step (by repeat (first | (with_reducible first | exact HB.out | apply below_alloc | apply pw_below_drewN | apply below_drew1) | exact HB.out)) hb); clear HB; have HB := n0_; clear n0_; (try clear hb); (try clear hb2); (try clear hk); (try clear hi)) | ((with_reducible refine gate_callee (f := 18) rfl ?_); refine goesL_ (some 42) rfl rfl Tryz.func18 (by kernel_rfl) rfl #[.string a1, .int .i64 a2] rfl (by (try simp only [List.map_toArray, List.map_cons, List.map_nil]); first | done | rfl | (simp only [List.length_drop, List.length_take]; rfl)) ?_; (with_reducible refine (version_Path.calls kj5 a1 a2 t265 t266 _ A12.out ?gd_).mono ?_); (case gd_ => first | exact HG.out | exact Gd.below HG.out (by repeat (first | (with_reducible first | exact Below.refl _ _ | exact HB.out | apply below_alloc | apply pw_below_drewN | apply below_drew1) | exact HB.out)) | exact Gd.below HG.out (by first | exact HB | (refine Below.trans ?_ ?_ <;> first | exact HB.out))); rintro e w36 ⟨rfl, hb⟩; refine ⟨_, rfl, ?_⟩; have n0_ := Aside0.mk (below_step (by repeat (first | (with_reducible first | exact HB.out | apply below_alloc | apply pw_below_drewN | apply below_drew1) | exact HB.out)) hb); clear HB; have HB := n0_; clear n0_; (try clear hb); (try clear hb2); (try clear hk); (try clear hi)) | ((with_reducible refine gate_callee (f := 19) rfl ?_); refine goesL_ (some 48) rfl rfl Tryz.func19 (by kernel_rfl) rfl #[.string a1, .int .i64 a2] rfl (by (try simp only [List.map_toArray, List.map_cons, List.map_nil]); first | done | rfl | (simp only [List.length_drop, List.length_take]; rfl)) ?_; (with_reducible refine (modcertref24_Path.calls kj5 a1 a2 t267 t268 _ A13.out).mono ?_); rintro e w37 ⟨rfl, hb⟩; refine ⟨_, rfl, ?_⟩; have n0_ := Aside0.mk (below_step (by repeat (first | (with_reducible first | exact HB.out | apply below_alloc | apply pw_below_drewN | apply below_drew1) | exact HB.out)) hb); clear HB; have HB := n0_; clear n0_; (try clear hb); (try clear hb2); (try clear hk); (try clear hi)))
            go_ret
            exact ⟨by first | rfl | (simp [errW_none, errW_some] <;> rfl) | (simp [*, errW_none, errW_some] <;> rfl), by repeat (first | (with_reducible first | exact HB.out | apply below_alloc | apply pw_below_drewN | apply below_drew1) | exact HB.out)⟩
  · replace c5 := Bool.eq_false_iff.mpr c5
    subst c5
    have H1 : (some false) = some r := by rw [if_neg (show ¬ (false = true) by decide)] at H; exact H
    clear H
    have H := H1
    clear H1
    obtain rfl := Option.some.inj H
    go_enter Tryz.func4, Tryz.ntmps4
    go_wp2_with (first | ((with_reducible refine gate_callee (f := 5) rfl ?_); refine goesL_ (some 17) rfl rfl Tryz.func5 (by kernel_rfl) rfl #[] rfl (by (try simp only [List.map_toArray, List.map_cons, List.map_nil]); first | done | rfl | (simp only [List.length_drop, List.length_take]; rfl)) ?_; (with_reducible refine (modcertlaw24_awake.calls  false _ A4.out ?gd_).mono ?_); (case gd_ => first | exact HG.out | exact Gd.below HG.out (by repeat (first | (with_reducible first | exact Below.refl _ _ | exact HB.out | apply below_alloc | apply pw_below_drewN | apply below_drew1) | exact HB.out)) | exact Gd.below HG.out (by first | exact HB | (refine Below.trans ?_ ?_ <;> first | exact HB.out))); rintro e w38 ⟨rfl, hb⟩; refine ⟨_, rfl, ?_⟩; have n0_ := Aside0.mk (below_step (by repeat (first | (with_reducible first | exact HB.out | apply below_alloc | apply pw_below_drewN | apply below_drew1) | exact HB.out)) hb); clear HB; have HB := n0_; clear n0_; (try clear hb); (try clear hb2); (try clear hk); (try clear hi)))
    go_ret
    exact ⟨by first | rfl | (simp [errW_none, errW_some] <;> rfl) | (simp [*, errW_none, errW_some] <;> rfl), by repeat (first | (with_reducible first | exact HB.out | apply below_alloc | apply pw_below_drewN | apply below_drew1) | exact HB.out)⟩

/-- THE ONE PURE STATEMENT of modcertlaw24_VersionLines: yours. -/
def modcertlaw24_VersionLines.Pure : Prop := ∀ (a0 : ByteArray) (a1 : ByteArray) (a2 : Int), a0.size ≤ 140737488351232 → a1.size ≤ 140737488351232 → (Lit.int .i64 a2).wf = true → ∃ k, modcertlaw24_VersionLines.f k a0 a1 a2 = some true
theorem modcertlaw24_VersionLines.walk (P : modcertlaw24_VersionLines.Pure) (a0 : ByteArray) (a1 : ByteArray) (a2 : Int) (w : World) (hG : Gd w) (w0 : a0.size ≤ 140737488351232) (w1 : a1.size ≤ 140737488351232) (w2 : (Lit.int .i64 a2).wf = true) :
    Calls Tryz.prog 4 #[.string a0, .string a1, .int .i64 a2] w fun e w' => e = .returned (.bool true) ∧ Below w.heap.size w w' := by
  obtain ⟨k, h⟩ := P a0 a1 a2 w0 w1 w2
  refine (modcertlaw24_VersionLines.calls k a0 a1 a2 true w h hG).mono ?_
  rintro e w' ⟨rfl, hd⟩
  exact ⟨rfl, hd⟩

end Go.Proofs.YtdccbpeajpnkjaaGreatDoor.Pr
