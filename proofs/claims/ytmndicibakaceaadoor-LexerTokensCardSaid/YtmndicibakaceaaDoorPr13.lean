/- Printed by a program of this work's own (wip/myprint.py) for these statements: functions of the program as Lean functions, and proofs that a call of the Go function returns just what the Lean function tells; conditions: where the Lean function tells 'some'. -/
import Derived.Test.YtmndicibakaceaaDoorPr0
import Derived.Test.YtmndicibakaceaaDoorPr12
namespace Go.Proofs.YtmndicibakaceaaDoor.Pr
open Go.RowKit Go.Proofs.YtmndicibakaceaaDoorW.PrintWords Go.Proofs.YtmndicibakaceaaDoorW.PrintLast Go.Proofs.YtmndicibakaceaaDoorW.PrintMore
attribute [local go_sem] max2_int min2_int max_two min_two max_three min_three max_four min_four   -- for this text's walks alone
set_option linter.unusedVariables false
set_option linter.unusedSimpArgs false

/-! ### modcertref03_character: function 77 -/
mutual
def modcertref03_character.j0 : Nat → ByteArray → Bool → Option (Int × Int)
  | 0, _, _ => none
  | k + 1, x0, x15 => if x15 = true then (some (0, 0)) else (if 0 < (x0.size : Int) then (if (bt x0 0) = 92 then (if (x0.size : Int) < 2 then (some (0, 0)) else (if 1 < (x0.size : Int) then (if (bt x0 1) = 34 then (modcertref03_character.j1 k x0 true) else (modcertref03_character.j1 k x0 ((bt x0 1) == 92))) else (none))) else (some (bt x0 0, 1))) else (none))
def modcertref03_character.j1 : Nat → ByteArray → Bool → Option (Int × Int)
  | 0, _, _ => none
  | k + 1, x0, x31 => if x31 = true then (if 1 < (x0.size : Int) then (some (bt x0 1, 2)) else (none)) else (if 1 < (x0.size : Int) then (if (bt x0 1) = 110 then (some (10, 2)) else (if (bt x0 1) = 120 then (if (x0.size : Int) ≥ 4 then (if 2 < (x0.size : Int) then ((modcertref03_hex.f (bt x0 2)).bind fun t168 => (if t168 ≥ 0 then (if 3 < (x0.size : Int) then ((modcertref03_hex.f (bt x0 3)).bind fun t169 => (modcertref03_character.j2 k x0 (decide (t169 ≥ 0)))) else (none)) else (modcertref03_character.j2 k x0 false))) else (none)) else (modcertref03_character.j2 k x0 false)) else (modcertref03_character.j2 k x0 false))) else (none))
def modcertref03_character.j2 : Nat → ByteArray → Bool → Option (Int × Int)
  | 0, _, _ => none
  | k + 1, x0, x56 => if x56 = true then (if 2 < (x0.size : Int) then ((modcertref03_hex.f (bt x0 2)).bind fun t170 => (if 3 < (x0.size : Int) then ((modcertref03_hex.f (bt x0 3)).bind fun t171 => (some ((wrap64 ((wrap64 (16 * t170)) + t171)) % 256, 4))) else (none))) else (none)) else (some (0, 0))
end
def modcertref03_character.f (k : Nat) (a0 : ByteArray) : Option (Int × Int) := if a0.toList = ([] : List UInt8) then (modcertref03_character.j0 k a0 true) else (if 0 < (a0.size : Int) then (if (bt a0 0) < 32 then (modcertref03_character.j0 k a0 true) else (modcertref03_character.j0 k a0 ((bt a0 0) == 34))) else (none))
theorem modcertref03_character.mono_l : ∀ k, (∀ y0 y1, LeO (modcertref03_character.j0 k y0 y1) (modcertref03_character.j0 (k + 1) y0 y1)) ∧ (∀ y0 y1, LeO (modcertref03_character.j1 k y0 y1) (modcertref03_character.j1 (k + 1) y0 y1)) ∧ (∀ y0 y1, LeO (modcertref03_character.j2 k y0 y1) (modcertref03_character.j2 (k + 1) y0 y1))
  | 0 => ⟨fun _ _ r h => by simp [modcertref03_character.j0] at h, fun _ _ r h => by simp [modcertref03_character.j1] at h, fun _ _ r h => by simp [modcertref03_character.j2] at h⟩
  | k + 1 => by
    obtain ⟨ih0, ih1, ih2⟩ := modcertref03_character.mono_l k
    refine ⟨?_, ?_, ?_⟩
    · intro y0 y1
      unfold modcertref03_character.j0
      repeat' first
      | (with_reducible exact ih0 _ _)
      | (with_reducible exact ih1 _ _)
      | (with_reducible exact ih2 _ _)
      | (with_reducible exact LeO.refl _)
      | (with_reducible exact LeO.none _)
      | (with_reducible refine LeO.ite ?_ ?_)
      | (with_reducible refine LeO.bind ?_ (fun _ => ?_))
      | exact ih0 _ _
      | exact ih1 _ _
      | exact ih2 _ _
      | exact LeO.none _
      | refine LeO.ite ?_ ?_
      | refine LeO.bind ?_ (fun _ => ?_)
    · intro y0 y1
      unfold modcertref03_character.j1
      repeat' first
      | (with_reducible exact ih0 _ _)
      | (with_reducible exact ih1 _ _)
      | (with_reducible exact ih2 _ _)
      | (with_reducible exact LeO.refl _)
      | (with_reducible exact LeO.none _)
      | (with_reducible refine LeO.ite ?_ ?_)
      | (with_reducible refine LeO.bind ?_ (fun _ => ?_))
      | exact ih0 _ _
      | exact ih1 _ _
      | exact ih2 _ _
      | exact LeO.none _
      | refine LeO.ite ?_ ?_
      | refine LeO.bind ?_ (fun _ => ?_)
    · intro y0 y1
      unfold modcertref03_character.j2
      repeat' first
      | (with_reducible exact ih0 _ _)
      | (with_reducible exact ih1 _ _)
      | (with_reducible exact ih2 _ _)
      | (with_reducible exact LeO.refl _)
      | (with_reducible exact LeO.none _)
      | (with_reducible refine LeO.ite ?_ ?_)
      | (with_reducible refine LeO.bind ?_ (fun _ => ?_))
      | exact ih0 _ _
      | exact ih1 _ _
      | exact ih2 _ _
      | exact LeO.none _
      | refine LeO.ite ?_ ?_
      | refine LeO.bind ?_ (fun _ => ?_)
theorem modcertref03_character.mono : ∀ a0 k, LeO (modcertref03_character.f k a0) (modcertref03_character.f (k + 1) a0) := by
  intro a0 k
  obtain ⟨ih0, ih1, ih2⟩ := modcertref03_character.mono_l k
  unfold modcertref03_character.f
  repeat' first
      | (with_reducible exact ih0 _ _)
      | (with_reducible exact ih1 _ _)
      | (with_reducible exact ih2 _ _)
      | (with_reducible exact LeO.refl _)
      | (with_reducible exact LeO.none _)
      | (with_reducible refine LeO.ite ?_ ?_)
      | (with_reducible refine LeO.bind ?_ (fun _ => ?_))
      | exact ih0 _ _
      | exact ih1 _ _
      | exact ih2 _ _
      | exact LeO.none _
      | refine LeO.ite ?_ ?_
      | refine LeO.bind ?_ (fun _ => ?_)
set_option maxHeartbeats 8000000 in
set_option maxRecDepth 100000 in
theorem modcertref03_character.calls (k : Nat) (a0 : ByteArray) (r1 : Int) (r2 : Int) (w : World) (h : modcertref03_character.f k a0 = some (r1, r2)) :
    Calls Tryd.prog 77 #[.string a0] w fun e w' => e = .returned (.tuple #[.int .u8 r1, .int .i64 r2]) ∧ Drawn0 w w' := by
  have H : (if a0.toList = ([] : List UInt8) then (modcertref03_character.j0 k a0 true) else (if 0 < (a0.size : Int) then (if (bt a0 0) < 32 then (modcertref03_character.j0 k a0 true) else (modcertref03_character.j0 k a0 ((bt a0 0) == 34))) else (none))) = some (r1, r2) := h
  clear h
  have HC2 := Aside0.mk H
  clear H
  go_enter Tryd.func77, Tryd.ntmps77
  go_upto_region 1 with (fail)
  repeat (go_quiet (fail); go_upto_region 1 with (fail))
  go_cut [15] (fun v15 wc => ∃ (kq : Nat) (x15_1 : Bool), v15 = .bool x15_1 ∧ Aside0 (modcertref03_character.j0 kq a0 x15_1 = some (r1, r2)) ∧ Aside0 (kq ≤ k) ∧ Drawn0 w wc)
  case first =>
    have H := HC2.out
    clear HC2
    by_cases c3 : a0.toList = ([] : List UInt8)
    · rw [if_pos c3] at H
      have c3b0 : (a0.toList == ([] : List UInt8)) = true := beq_iff_eq.mpr c3
      have c3b1 : (a0.toList != ([] : List UInt8)) = false := bne_eq_false_iff_eq.mpr c3
      clear c3
      (first | rw [c3b0] | (simp only [i64_w, i32_w]; rw [c3b0]) | skip)
      have H' := Aside0.mk H
      clear H
      go_wp2
      repeat (go_quiet (fail); try go_wp2)
      go_meet
      case rel => exact ⟨_, (true), (by first | rfl | (simp; done) | (simp [*]; done)), H', ⟨by first | omega | exact Nat.le_refl _⟩, by repeat (first | exact Drawn0.refl _ | apply Drawn0.step)⟩
    · rw [if_neg c3] at H
      have c3b0 : (a0.toList == ([] : List UInt8)) = false := beq_eq_false_iff_ne.mpr c3
      have c3b1 : (a0.toList != ([] : List UInt8)) = true := bne_iff_ne.mpr c3
      (first | rw [c3b0] | (simp only [i64_w, i32_w]; rw [c3b0]) | skip)
      by_cases c4 : 0 < (a0.size : Int)
      · rw [if_pos c4] at H
        have c4b0 : decide (0 < (a0.size : Int)) = true := decide_eq_true c4
        have c4b1 : decide (0 < a0.size) = true := decide_eq_true (by omega)
        clear c4
        by_cases c6 : (bt a0 0) < 32
        · rw [if_pos c6] at H
          have c6b0 : decide ((bt a0 0) < 32) = true := decide_eq_true c6
          clear c6
          have H' := Aside0.mk H
          clear H
          have p5 : 0 ≤ (0 : Int) := (by omega)
          have q5 : 0 < a0.size := (by have : (0 : Int) < (a0.size : Int) := of_decide_eq_true (by first | (with_reducible assumption) | assumption); omega)
          have hx5 : ∀ h : 0 < a0.size, ((a0[0]'h).toNat : Int) = bt a0 0 := bt_at a0 0
          clear p5
          have qi5 : (0 < (a0.size : Int)) = True := eq_true (of_decide_eq_true (by first | (with_reducible assumption) | assumption))
          replace q5 := eq_true q5
          go_wp2
          repeat (go_quiet (fail); try go_wp2)
          go_meet
          case rel => exact ⟨_, (true), (by first | rfl | (simp; done) | (simp [*]; done)), H', ⟨by first | omega | exact Nat.le_refl _⟩, by repeat (first | exact Drawn0.refl _ | apply Drawn0.step)⟩
        · rw [if_neg c6] at H
          have c6b0 : decide ((bt a0 0) < 32) = false := decide_eq_false c6
          clear c6
          have H' := Aside0.mk H
          clear H
          have p5 : 0 ≤ (0 : Int) := (by omega)
          have q5 : 0 < a0.size := (by have : (0 : Int) < (a0.size : Int) := of_decide_eq_true (by first | (with_reducible assumption) | assumption); omega)
          have hx5 : ∀ h : 0 < a0.size, ((a0[0]'h).toNat : Int) = bt a0 0 := bt_at a0 0
          clear p5
          have qi5 : (0 < (a0.size : Int)) = True := eq_true (of_decide_eq_true (by first | (with_reducible assumption) | assumption))
          replace q5 := eq_true q5
          have p7 : 0 ≤ (0 : Int) := (by omega)
          have q7 : 0 < a0.size := (by have : (0 : Int) < (a0.size : Int) := of_decide_eq_true (by first | (with_reducible assumption) | assumption); omega)
          have hx7 : ∀ h : 0 < a0.size, ((a0[0]'h).toNat : Int) = bt a0 0 := bt_at a0 0
          clear p7
          have qi7 : (0 < (a0.size : Int)) = True := eq_true (of_decide_eq_true (by first | (with_reducible assumption) | assumption))
          replace q7 := eq_true q7
          go_wp2
          repeat (go_quiet (fail); try go_wp2)
          go_meet
          case rel => exact ⟨_, (((bt a0 0) == 34)), (by first | rfl | (simp; done) | (simp [*]; done)), H', ⟨by first | omega | exact Nat.le_refl _⟩, by repeat (first | exact Drawn0.refl _ | apply Drawn0.step)⟩
      · rw [if_neg c4] at H
        exact absurd H (by simp)
  case rest =>
    clear HC2
    try clear p2
    try clear c3
    try clear c3b0
    try clear c3b1
    try clear c4
    try clear c4b0
    try clear c4b1
    try clear p5
    try clear q5
    try clear hx5
    try clear qi5
    try clear c6
    try clear c6b0
    try clear c7
    try clear p7
    try clear q7
    try clear hx7
    try clear qi7
    try clear p5
    try clear p7
    try clear q5
    try clear q7
    obtain ⟨kq, x15_1, rfl, HA, HJ1, ⟨mc1, rfl⟩⟩ := hcut
    cases kq with
    | zero => exact absurd HA.out (by simp [modcertref03_character.j0])
    | succ kj1 =>
      have H := HA.out
      clear HA
      simp only [modcertref03_character.j0] at H
      by_cases c8 : x15_1 = true
      · subst c8
        have H1 : (some (0, 0)) = some (r1, r2) := by rw [if_pos rfl] at H; exact H
        clear H
        have H := H1
        clear H1
        simp only [Option.some.injEq, Prod.mk.injEq] at H
        obtain ⟨rfl, rfl⟩ := H
        go_wp2
        repeat (go_quiet (fail); try go_wp2)
        go_ret2
        exact ⟨by first | rfl | (simp; done) | (simp [*]; done) | (simp [i64_w, IntKind.wrap_u8]; done), by repeat (first | exact Drawn0.refl _ | apply Drawn0.step)⟩
      · replace c8 := Bool.eq_false_iff.mpr c8
        subst c8
        have H1 : (if 0 < (a0.size : Int) then (if (bt a0 0) = 92 then (if (a0.size : Int) < 2 then (some (0, 0)) else (if 1 < (a0.size : Int) then (if (bt a0 1) = 34 then (modcertref03_character.j1 kj1 a0 true) else (modcertref03_character.j1 kj1 a0 ((bt a0 1) == 92))) else (none))) else (some (bt a0 0, 1))) else (none)) = some (r1, r2) := by rw [if_neg (show ¬ (false = true) by decide)] at H; exact H
        clear H
        have H := H1
        clear H1
        by_cases c9 : 0 < (a0.size : Int)
        · rw [if_pos c9] at H
          have c9b0 : decide (0 < (a0.size : Int)) = true := decide_eq_true c9
          have c9b1 : decide (0 < a0.size) = true := decide_eq_true (by omega)
          clear c9
          by_cases c11 : (bt a0 0) = 92
          · rw [if_pos c11] at H
            have c11b0 : ((bt a0 0) == 92) = true := beq_iff_eq.mpr c11
            have c11b1 : ((bt a0 0) != 92) = false := bne_eq_false_iff_eq.mpr c11
            clear c11
            by_cases c12 : (a0.size : Int) < 2
            · rw [if_pos c12] at H
              have c12b0 : decide ((a0.size : Int) < 2) = true := decide_eq_true c12
              have c12b1 : decide (a0.size < 2) = true := decide_eq_true (by omega)
              clear c12
              simp only [Option.some.injEq, Prod.mk.injEq] at H
              obtain ⟨rfl, rfl⟩ := H
              have p10 : 0 ≤ (0 : Int) := (by omega)
              have q10 : 0 < a0.size := (by have : (0 : Int) < (a0.size : Int) := of_decide_eq_true (by first | (with_reducible assumption) | assumption); omega)
              have hx10 : ∀ h : 0 < a0.size, ((a0[0]'h).toNat : Int) = bt a0 0 := bt_at a0 0
              clear p10
              have qi10 : (0 < (a0.size : Int)) = True := eq_true (of_decide_eq_true (by first | (with_reducible assumption) | assumption))
              replace q10 := eq_true q10
              go_wp2
              repeat (go_quiet (fail); try go_wp2)
              go_ret2
              exact ⟨by first | rfl | (simp; done) | (simp [*]; done) | (simp [i64_w, IntKind.wrap_u8]; done), by repeat (first | exact Drawn0.refl _ | apply Drawn0.step)⟩
            · rw [if_neg c12] at H
              have c12b0 : decide ((a0.size : Int) < 2) = false := decide_eq_false c12
              have c12b1 : decide (a0.size < 2) = false := decide_eq_false (by omega)
              clear c12
              have HC13 := Aside0.mk H
              clear H
              have p10 : 0 ≤ (0 : Int) := (by omega)
              have q10 : 0 < a0.size := (by have : (0 : Int) < (a0.size : Int) := of_decide_eq_true (by first | (with_reducible assumption) | assumption); omega)
              have hx10 : ∀ h : 0 < a0.size, ((a0[0]'h).toNat : Int) = bt a0 0 := bt_at a0 0
              clear p10
              have qi10 : (0 < (a0.size : Int)) = True := eq_true (of_decide_eq_true (by first | (with_reducible assumption) | assumption))
              replace q10 := eq_true q10
              go_upto_region 7 with (fail)
              repeat (go_quiet (fail); go_upto_region 7 with (fail))
              go_cut [31] (fun v31 wc => ∃ (kq : Nat) (x31_12 : Bool), v31 = .bool x31_12 ∧ Aside0 (modcertref03_character.j1 kq a0 x31_12 = some (r1, r2)) ∧ Aside0 (kq ≤ kj1) ∧ Drawn0 w wc)
              case first =>
                have H := HC13.out
                clear HC13
                by_cases c14 : 1 < (a0.size : Int)
                · rw [if_pos c14] at H
                  have c14b0 : decide (1 < (a0.size : Int)) = true := decide_eq_true c14
                  have c14b1 : decide (1 < a0.size) = true := decide_eq_true (by omega)
                  clear c14
                  (first | rw [c14b0] | (simp only [i64_w, i32_w]; rw [c14b0]) | skip)
                  by_cases c16 : (bt a0 1) = 34
                  · rw [if_pos c16] at H
                    have c16b0 : ((bt a0 1) == 34) = true := beq_iff_eq.mpr c16
                    have c16b1 : ((bt a0 1) != 34) = false := bne_eq_false_iff_eq.mpr c16
                    clear c16
                    have H' := Aside0.mk H
                    clear H
                    have p15 : 0 ≤ (1 : Int) := (by omega)
                    have q15 : 1 < a0.size := (by have : (1 : Int) < (a0.size : Int) := of_decide_eq_true (by first | (with_reducible assumption) | assumption); omega)
                    have hx15 : ∀ h : 1 < a0.size, ((a0[1]'h).toNat : Int) = bt a0 1 := bt_at a0 1
                    clear p15
                    have qi15 : (1 < (a0.size : Int)) = True := eq_true (of_decide_eq_true (by first | (with_reducible assumption) | assumption))
                    replace q15 := eq_true q15
                    go_wp2
                    repeat (go_quiet (fail); try go_wp2)
                    go_meet
                    case rel => exact ⟨_, (true), (by first | rfl | (simp; done) | (simp [*]; done)), H', ⟨by have := HJ1.out; first | omega | exact Nat.le_refl _⟩, by repeat (first | exact Drawn0.refl _ | apply Drawn0.step)⟩
                  · rw [if_neg c16] at H
                    have c16b0 : ((bt a0 1) == 34) = false := beq_eq_false_iff_ne.mpr c16
                    have c16b1 : ((bt a0 1) != 34) = true := bne_iff_ne.mpr c16
                    have H' := Aside0.mk H
                    clear H
                    have p15 : 0 ≤ (1 : Int) := (by omega)
                    have q15 : 1 < a0.size := (by have : (1 : Int) < (a0.size : Int) := of_decide_eq_true (by first | (with_reducible assumption) | assumption); omega)
                    have hx15 : ∀ h : 1 < a0.size, ((a0[1]'h).toNat : Int) = bt a0 1 := bt_at a0 1
                    clear p15
                    have qi15 : (1 < (a0.size : Int)) = True := eq_true (of_decide_eq_true (by first | (with_reducible assumption) | assumption))
                    replace q15 := eq_true q15
                    have p17 : 0 ≤ (1 : Int) := (by omega)
                    have q17 : 1 < a0.size := (by have : (1 : Int) < (a0.size : Int) := of_decide_eq_true (by first | (with_reducible assumption) | assumption); omega)
                    have hx17 : ∀ h : 1 < a0.size, ((a0[1]'h).toNat : Int) = bt a0 1 := bt_at a0 1
                    clear p17
                    have qi17 : (1 < (a0.size : Int)) = True := eq_true (of_decide_eq_true (by first | (with_reducible assumption) | assumption))
                    replace q17 := eq_true q17
                    go_wp2
                    repeat (go_quiet (fail); try go_wp2)
                    go_meet
                    case rel => exact ⟨_, (((bt a0 1) == 92)), (by first | rfl | (simp; done) | (simp [*]; done)), H', ⟨by have := HJ1.out; first | omega | exact Nat.le_refl _⟩, by repeat (first | exact Drawn0.refl _ | apply Drawn0.step)⟩
                · rw [if_neg c14] at H
                  exact absurd H (by simp)
              case rest =>
                clear HC13
                try clear c1
                try clear p1
                try clear q1
                try clear hx1
                try clear qi1
                try clear p2
                try clear c3
                try clear c3b0
                try clear c3b1
                try clear c4
                try clear c4b0
                try clear c4b1
                try clear p5
                try clear q5
                try clear hx5
                try clear qi5
                try clear c6
                try clear c6b0
                try clear c7
                try clear p7
                try clear q7
                try clear hx7
                try clear qi7
                try clear c8
                try clear c9
                try clear c9b0
                try clear c9b1
                try clear p10
                try clear q10
                try clear hx10
                try clear qi10
                try clear c11
                try clear c11b0
                try clear c11b1
                try clear c12
                try clear c12b0
                try clear c12b1
                try clear c14
                try clear c14b0
                try clear c14b1
                try clear p15
                try clear q15
                try clear hx15
                try clear qi15
                try clear c16
                try clear c16b0
                try clear c16b1
                try clear p17
                try clear q17
                try clear hx17
                try clear qi17
                try clear p10
                try clear p15
                try clear p17
                try clear p2
                try clear p5
                try clear p7
                try clear q10
                try clear q15
                try clear q17
                try clear q5
                try clear q7
                obtain ⟨kq, x31_12, rfl, HA, HJ12, ⟨mc12, rfl⟩⟩ := hcut
                cases kq with
                | zero => exact absurd HA.out (by simp [modcertref03_character.j1])
                | succ kj12 =>
                  have H := HA.out
                  clear HA
                  simp only [modcertref03_character.j1] at H
                  by_cases c18 : x31_12 = true
                  · subst c18
                    have H1 : (if 1 < (a0.size : Int) then (some (bt a0 1, 2)) else (none)) = some (r1, r2) := by rw [if_pos rfl] at H; exact H
                    clear H
                    have H := H1
                    clear H1
                    by_cases c19 : 1 < (a0.size : Int)
                    · rw [if_pos c19] at H
                      have c19b0 : decide (1 < (a0.size : Int)) = true := decide_eq_true c19
                      have c19b1 : decide (1 < a0.size) = true := decide_eq_true (by omega)
                      clear c19
                      simp only [Option.some.injEq, Prod.mk.injEq] at H
                      obtain ⟨rfl, rfl⟩ := H
                      have p20 : 0 ≤ (1 : Int) := (by omega)
                      have q20 : 1 < a0.size := (by have : (1 : Int) < (a0.size : Int) := of_decide_eq_true (by first | (with_reducible assumption) | assumption); omega)
                      have hx20 : ∀ h : 1 < a0.size, ((a0[1]'h).toNat : Int) = bt a0 1 := bt_at a0 1
                      clear p20
                      have qi20 : (1 < (a0.size : Int)) = True := eq_true (of_decide_eq_true (by first | (with_reducible assumption) | assumption))
                      replace q20 := eq_true q20
                      go_wp2
                      repeat (go_quiet (fail); try go_wp2)
                      go_ret2
                      exact ⟨by first | rfl | (simp; done) | (simp [*]; done) | (simp [i64_w, IntKind.wrap_u8]; done), by repeat (first | exact Drawn0.refl _ | apply Drawn0.step)⟩
                    · rw [if_neg c19] at H
                      exact absurd H (by simp)
                  · replace c18 := Bool.eq_false_iff.mpr c18
                    subst c18
                    have H1 : (if 1 < (a0.size : Int) then (if (bt a0 1) = 110 then (some (10, 2)) else (if (bt a0 1) = 120 then (if (a0.size : Int) ≥ 4 then (if 2 < (a0.size : Int) then ((modcertref03_hex.f (bt a0 2)).bind fun t168 => (if t168 ≥ 0 then (if 3 < (a0.size : Int) then ((modcertref03_hex.f (bt a0 3)).bind fun t169 => (modcertref03_character.j2 kj12 a0 (decide (t169 ≥ 0)))) else (none)) else (modcertref03_character.j2 kj12 a0 false))) else (none)) else (modcertref03_character.j2 kj12 a0 false)) else (modcertref03_character.j2 kj12 a0 false))) else (none)) = some (r1, r2) := by rw [if_neg (show ¬ (false = true) by decide)] at H; exact H
                    clear H
                    have H := H1
                    clear H1
                    by_cases c21 : 1 < (a0.size : Int)
                    · rw [if_pos c21] at H
                      have c21b0 : decide (1 < (a0.size : Int)) = true := decide_eq_true c21
                      have c21b1 : decide (1 < a0.size) = true := decide_eq_true (by omega)
                      clear c21
                      by_cases c23 : (bt a0 1) = 110
                      · rw [if_pos c23] at H
                        have c23b0 : ((bt a0 1) == 110) = true := beq_iff_eq.mpr c23
                        have c23b1 : ((bt a0 1) != 110) = false := bne_eq_false_iff_eq.mpr c23
                        clear c23
                        simp only [Option.some.injEq, Prod.mk.injEq] at H
                        obtain ⟨rfl, rfl⟩ := H
                        have p22 : 0 ≤ (1 : Int) := (by omega)
                        have q22 : 1 < a0.size := (by have : (1 : Int) < (a0.size : Int) := of_decide_eq_true (by first | (with_reducible assumption) | assumption); omega)
                        have hx22 : ∀ h : 1 < a0.size, ((a0[1]'h).toNat : Int) = bt a0 1 := bt_at a0 1
                        clear p22
                        have qi22 : (1 < (a0.size : Int)) = True := eq_true (of_decide_eq_true (by first | (with_reducible assumption) | assumption))
                        replace q22 := eq_true q22
                        go_wp2
                        repeat (go_quiet (fail); try go_wp2)
                        go_ret2
                        exact ⟨by first | rfl | (simp; done) | (simp [*]; done) | (simp [i64_w, IntKind.wrap_u8]; done), by repeat (first | exact Drawn0.refl _ | apply Drawn0.step)⟩
                      · rw [if_neg c23] at H
                        have c23b0 : ((bt a0 1) == 110) = false := beq_eq_false_iff_ne.mpr c23
                        have c23b1 : ((bt a0 1) != 110) = true := bne_iff_ne.mpr c23
                        have HC24 := Aside0.mk H
                        clear H
                        have p22 : 0 ≤ (1 : Int) := (by omega)
                        have q22 : 1 < a0.size := (by have : (1 : Int) < (a0.size : Int) := of_decide_eq_true (by first | (with_reducible assumption) | assumption); omega)
                        have hx22 : ∀ h : 1 < a0.size, ((a0[1]'h).toNat : Int) = bt a0 1 := bt_at a0 1
                        clear p22
                        have qi22 : (1 < (a0.size : Int)) = True := eq_true (of_decide_eq_true (by first | (with_reducible assumption) | assumption))
                        replace q22 := eq_true q22
                        go_upto_region 11 with (fail)
                        repeat (go_quiet (fail); go_upto_region 11 with (fail))
                        go_cut [56] (fun v56 wc => ∃ (kq : Nat) (x56_23 : Bool), v56 = .bool x56_23 ∧ Aside0 (modcertref03_character.j2 kq a0 x56_23 = some (r1, r2)) ∧ Aside0 (kq ≤ kj12) ∧ Drawn0 w wc)
                        case first =>
                          have H := HC24.out
                          clear HC24
                          by_cases c26 : (bt a0 1) = 120
                          · rw [if_pos c26] at H
                            have c26b0 : ((bt a0 1) == 120) = true := beq_iff_eq.mpr c26
                            have c26b1 : ((bt a0 1) != 120) = false := bne_eq_false_iff_eq.mpr c26
                            clear c26
                            (first | rw [c26b0] | (simp only [i64_w, i32_w]; rw [c26b0]) | skip)
                            by_cases c27 : (a0.size : Int) ≥ 4
                            · rw [if_pos c27] at H
                              have c27b0 : decide (4 ≤ (a0.size : Int)) = true := decide_eq_true c27
                              have c27b1 : decide (4 ≤ a0.size) = true := decide_eq_true (by omega)
                              clear c27
                              by_cases c28 : 2 < (a0.size : Int)
                              · rw [if_pos c28] at H
                                have c28b0 : decide (2 < (a0.size : Int)) = true := decide_eq_true c28
                                have c28b1 : decide (2 < a0.size) = true := decide_eq_true (by omega)
                                clear c28
                                replace H := Option.bind_eq_some_iff.mp H
                                obtain ⟨t168, A300, H⟩ := H
                                replace H : (if t168 ≥ 0 then (if 3 < (a0.size : Int) then ((modcertref03_hex.f (bt a0 3)).bind fun t169 => (modcertref03_character.j2 kj12 a0 (decide (t169 ≥ 0)))) else (none)) else (modcertref03_character.j2 kj12 a0 false)) = some (r1, r2) := H
                                have A30 := Aside0.mk A300
                                clear A300
                                by_cases c31 : t168 ≥ 0
                                · rw [if_pos c31] at H
                                  have c31b0 : decide (0 ≤ t168) = true := decide_eq_true c31
                                  clear c31
                                  by_cases c32 : 3 < (a0.size : Int)
                                  · rw [if_pos c32] at H
                                    have c32b0 : decide (3 < (a0.size : Int)) = true := decide_eq_true c32
                                    have c32b1 : decide (3 < a0.size) = true := decide_eq_true (by omega)
                                    clear c32
                                    replace H := Option.bind_eq_some_iff.mp H
                                    obtain ⟨t169, A340, H⟩ := H
                                    replace H : (modcertref03_character.j2 kj12 a0 (decide (t169 ≥ 0))) = some (r1, r2) := H
                                    have A34 := Aside0.mk A340
                                    clear A340
                                    have H' := Aside0.mk H
                                    clear H
                                    have p25 : 0 ≤ (1 : Int) := (by omega)
                                    have q25 : 1 < a0.size := (by have : (1 : Int) < (a0.size : Int) := of_decide_eq_true (by first | (with_reducible assumption) | assumption); omega)
                                    have hx25 : ∀ h : 1 < a0.size, ((a0[1]'h).toNat : Int) = bt a0 1 := bt_at a0 1
                                    clear p25
                                    have qi25 : (1 < (a0.size : Int)) = True := eq_true (of_decide_eq_true (by first | (with_reducible assumption) | assumption))
                                    replace q25 := eq_true q25
                                    have p29 : 0 ≤ (2 : Int) := (by omega)
                                    have q29 : 2 < a0.size := (by have : (2 : Int) < (a0.size : Int) := of_decide_eq_true (by first | (with_reducible assumption) | assumption); omega)
                                    have hx29 : ∀ h : 2 < a0.size, ((a0[2]'h).toNat : Int) = bt a0 2 := bt_at a0 2
                                    clear p29
                                    have qi29 : (2 < (a0.size : Int)) = True := eq_true (of_decide_eq_true (by first | (with_reducible assumption) | assumption))
                                    replace q29 := eq_true q29
                                    go_wp2_with (first | (go_at_call 85; (with_reducible refine (modcertref03_hex.calls (bt a0 2) t168 _ A30.out).mono ?_); rintro e w' ⟨rfl, ⟨nd, rfl⟩⟩; (try first | exact ⟨rfl, _, World.drewN_drewN _ _ _⟩ | exact ⟨rfl, _, Eq.trans (World.drewN_drewN _ _ _) (congrArg (World.drewN _) (Nat.add_assoc _ _ _))⟩); have p33 : 0 ≤ (3 : Int) := (by omega); have q33 : 3 < a0.size := (by have : (3 : Int) < (a0.size : Int) := of_decide_eq_true (by first | (with_reducible assumption) | assumption); omega); have hx33 : ∀ h : 3 < a0.size, ((a0[3]'h).toNat : Int) = bt a0 3 := bt_at a0 3; clear p33; have qi33 : (3 < (a0.size : Int)) = True := eq_true (of_decide_eq_true (by first | (with_reducible assumption) | assumption)); replace q33 := eq_true q33) | (go_at_call 85; (with_reducible refine (modcertref03_hex.calls (bt a0 3) t169 _ A34.out).mono ?_); rintro e w' ⟨rfl, ⟨nd, rfl⟩⟩; (try first | exact ⟨rfl, _, World.drewN_drewN _ _ _⟩ | exact ⟨rfl, _, Eq.trans (World.drewN_drewN _ _ _) (congrArg (World.drewN _) (Nat.add_assoc _ _ _))⟩)))
                                    repeat (go_quiet (first | (go_at_call 85; (with_reducible refine (modcertref03_hex.calls (bt a0 2) t168 _ A30.out).mono ?_); rintro e w' ⟨rfl, ⟨nd, rfl⟩⟩; (try first | exact ⟨rfl, _, World.drewN_drewN _ _ _⟩ | exact ⟨rfl, _, Eq.trans (World.drewN_drewN _ _ _) (congrArg (World.drewN _) (Nat.add_assoc _ _ _))⟩); have p33 : 0 ≤ (3 : Int) := (by omega); have q33 : 3 < a0.size := (by have : (3 : Int) < (a0.size : Int) := of_decide_eq_true (by first | (with_reducible assumption) | assumption); omega); have hx33 : ∀ h : 3 < a0.size, ((a0[3]'h).toNat : Int) = bt a0 3 := bt_at a0 3; clear p33; have qi33 : (3 < (a0.size : Int)) = True := eq_true (of_decide_eq_true (by first | (with_reducible assumption) | assumption)); replace q33 := eq_true q33) | (go_at_call 85; (with_reducible refine (modcertref03_hex.calls (bt a0 3) t169 _ A34.out).mono ?_); rintro e w' ⟨rfl, ⟨nd, rfl⟩⟩; (try first | exact ⟨rfl, _, World.drewN_drewN _ _ _⟩ | exact ⟨rfl, _, Eq.trans (World.drewN_drewN _ _ _) (congrArg (World.drewN _) (Nat.add_assoc _ _ _))⟩))); try go_wp2_with (first | (go_at_call 85; (with_reducible refine (modcertref03_hex.calls (bt a0 2) t168 _ A30.out).mono ?_); rintro e w' ⟨rfl, ⟨nd, rfl⟩⟩; (try first | exact ⟨rfl, _, World.drewN_drewN _ _ _⟩ | exact ⟨rfl, _, Eq.trans (World.drewN_drewN _ _ _) (congrArg (World.drewN _) (Nat.add_assoc _ _ _))⟩); have p33 : 0 ≤ (3 : Int) := (by omega); have q33 : 3 < a0.size := (by have : (3 : Int) < (a0.size : Int) := of_decide_eq_true (by first | (with_reducible assumption) | assumption); omega); have hx33 : ∀ h : 3 < a0.size, ((a0[3]'h).toNat : Int) = bt a0 3 := bt_at a0 3; clear p33; have qi33 : (3 < (a0.size : Int)) = True := eq_true (of_decide_eq_true (by first | (with_reducible assumption) | assumption)); replace q33 := eq_true q33) | (go_at_call 85; (with_reducible refine (modcertref03_hex.calls (bt a0 3) t169 _ A34.out).mono ?_); rintro e w' ⟨rfl, ⟨nd, rfl⟩⟩; (try first | exact ⟨rfl, _, World.drewN_drewN _ _ _⟩ | exact ⟨rfl, _, Eq.trans (World.drewN_drewN _ _ _) (congrArg (World.drewN _) (Nat.add_assoc _ _ _))⟩))))
                                    go_meet
                                    case rel => exact ⟨_, (decide (t169 ≥ 0)), (by first | rfl | (simp; done) | (simp [*]; done)), H', ⟨by have := HJ1.out; have := HJ12.out; first | omega | exact Nat.le_refl _⟩, by repeat (first | exact Drawn0.refl _ | apply Drawn0.step)⟩
                                  · rw [if_neg c32] at H
                                    exact absurd H (by simp)
                                · rw [if_neg c31] at H
                                  have c31b0 : decide (0 ≤ t168) = false := decide_eq_false c31
                                  clear c31
                                  have H' := Aside0.mk H
                                  clear H
                                  have p25 : 0 ≤ (1 : Int) := (by omega)
                                  have q25 : 1 < a0.size := (by have : (1 : Int) < (a0.size : Int) := of_decide_eq_true (by first | (with_reducible assumption) | assumption); omega)
                                  have hx25 : ∀ h : 1 < a0.size, ((a0[1]'h).toNat : Int) = bt a0 1 := bt_at a0 1
                                  clear p25
                                  have qi25 : (1 < (a0.size : Int)) = True := eq_true (of_decide_eq_true (by first | (with_reducible assumption) | assumption))
                                  replace q25 := eq_true q25
                                  have p29 : 0 ≤ (2 : Int) := (by omega)
                                  have q29 : 2 < a0.size := (by have : (2 : Int) < (a0.size : Int) := of_decide_eq_true (by first | (with_reducible assumption) | assumption); omega)
                                  have hx29 : ∀ h : 2 < a0.size, ((a0[2]'h).toNat : Int) = bt a0 2 := bt_at a0 2
                                  clear p29
                                  have qi29 : (2 < (a0.size : Int)) = True := eq_true (of_decide_eq_true (by first | (with_reducible assumption) | assumption))
                                  replace q29 := eq_true q29
                                  go_wp2_with (first | (go_at_call 85; (with_reducible refine (modcertref03_hex.calls (bt a0 2) t168 _ A30.out).mono ?_); rintro e w' ⟨rfl, ⟨nd, rfl⟩⟩; (try first | exact ⟨rfl, _, World.drewN_drewN _ _ _⟩ | exact ⟨rfl, _, Eq.trans (World.drewN_drewN _ _ _) (congrArg (World.drewN _) (Nat.add_assoc _ _ _))⟩)))
                                  repeat (go_quiet (first | (go_at_call 85; (with_reducible refine (modcertref03_hex.calls (bt a0 2) t168 _ A30.out).mono ?_); rintro e w' ⟨rfl, ⟨nd, rfl⟩⟩; (try first | exact ⟨rfl, _, World.drewN_drewN _ _ _⟩ | exact ⟨rfl, _, Eq.trans (World.drewN_drewN _ _ _) (congrArg (World.drewN _) (Nat.add_assoc _ _ _))⟩))); try go_wp2_with (first | (go_at_call 85; (with_reducible refine (modcertref03_hex.calls (bt a0 2) t168 _ A30.out).mono ?_); rintro e w' ⟨rfl, ⟨nd, rfl⟩⟩; (try first | exact ⟨rfl, _, World.drewN_drewN _ _ _⟩ | exact ⟨rfl, _, Eq.trans (World.drewN_drewN _ _ _) (congrArg (World.drewN _) (Nat.add_assoc _ _ _))⟩))))
                                  go_meet
                                  case rel => exact ⟨_, (false), (by first | rfl | (simp; done) | (simp [*]; done)), H', ⟨by have := HJ1.out; have := HJ12.out; first | omega | exact Nat.le_refl _⟩, by repeat (first | exact Drawn0.refl _ | apply Drawn0.step)⟩
                              · rw [if_neg c28] at H
                                exact absurd H (by simp)
                            · rw [if_neg c27] at H
                              have c27b0 : decide (4 ≤ (a0.size : Int)) = false := decide_eq_false c27
                              have c27b1 : decide (4 ≤ a0.size) = false := decide_eq_false (by omega)
                              clear c27
                              have H' := Aside0.mk H
                              clear H
                              have p25 : 0 ≤ (1 : Int) := (by omega)
                              have q25 : 1 < a0.size := (by have : (1 : Int) < (a0.size : Int) := of_decide_eq_true (by first | (with_reducible assumption) | assumption); omega)
                              have hx25 : ∀ h : 1 < a0.size, ((a0[1]'h).toNat : Int) = bt a0 1 := bt_at a0 1
                              clear p25
                              have qi25 : (1 < (a0.size : Int)) = True := eq_true (of_decide_eq_true (by first | (with_reducible assumption) | assumption))
                              replace q25 := eq_true q25
                              go_wp2
                              repeat (go_quiet (fail); try go_wp2)
                              go_meet
                              case rel => exact ⟨_, (false), (by first | rfl | (simp; done) | (simp [*]; done)), H', ⟨by have := HJ1.out; have := HJ12.out; first | omega | exact Nat.le_refl _⟩, by repeat (first | exact Drawn0.refl _ | apply Drawn0.step)⟩
                          · rw [if_neg c26] at H
                            have c26b0 : ((bt a0 1) == 120) = false := beq_eq_false_iff_ne.mpr c26
                            have c26b1 : ((bt a0 1) != 120) = true := bne_iff_ne.mpr c26
                            (first | rw [c26b0] | (simp only [i64_w, i32_w]; rw [c26b0]) | skip)
                            have H' := Aside0.mk H
                            clear H
                            have p25 : 0 ≤ (1 : Int) := (by omega)
                            have q25 : 1 < a0.size := (by have : (1 : Int) < (a0.size : Int) := of_decide_eq_true (by first | (with_reducible assumption) | assumption); omega)
                            have hx25 : ∀ h : 1 < a0.size, ((a0[1]'h).toNat : Int) = bt a0 1 := bt_at a0 1
                            clear p25
                            have qi25 : (1 < (a0.size : Int)) = True := eq_true (of_decide_eq_true (by first | (with_reducible assumption) | assumption))
                            replace q25 := eq_true q25
                            go_wp2
                            repeat (go_quiet (fail); try go_wp2)
                            go_meet
                            case rel => exact ⟨_, (false), (by first | rfl | (simp; done) | (simp [*]; done)), H', ⟨by have := HJ1.out; have := HJ12.out; first | omega | exact Nat.le_refl _⟩, by repeat (first | exact Drawn0.refl _ | apply Drawn0.step)⟩
                        case rest =>
                          clear HC24
                          try clear c1
                          try clear p1
                          try clear q1
                          try clear hx1
                          try clear qi1
                          try clear c2
                          try clear p2
                          try clear q2
                          try clear hx2
                          try clear qi2
                          try clear c3
                          try clear c3b0
                          try clear c3b1
                          try clear p3
                          try clear q3
                          try clear hx3
                          try clear qi3
                          try clear c4
                          try clear c4b0
                          try clear c4b1
                          try clear p5
                          try clear q5
                          try clear hx5
                          try clear qi5
                          try clear c6
                          try clear c6b0
                          try clear c7
                          try clear p7
                          try clear q7
                          try clear hx7
                          try clear qi7
                          try clear c8
                          try clear c9
                          try clear c9b0
                          try clear c9b1
                          try clear p10
                          try clear q10
                          try clear hx10
                          try clear qi10
                          try clear c11
                          try clear c11b0
                          try clear c11b1
                          try clear c12
                          try clear c12b0
                          try clear c12b1
                          try clear c14
                          try clear c14b0
                          try clear c14b1
                          try clear p15
                          try clear q15
                          try clear hx15
                          try clear qi15
                          try clear c16
                          try clear c16b0
                          try clear c16b1
                          try clear p17
                          try clear q17
                          try clear hx17
                          try clear qi17
                          try clear c18
                          try clear c19
                          try clear c19b0
                          try clear c19b1
                          try clear p20
                          try clear q20
                          try clear hx20
                          try clear qi20
                          try clear c21
                          try clear c21b0
                          try clear c21b1
                          try clear p22
                          try clear q22
                          try clear hx22
                          try clear qi22
                          try clear c23
                          try clear c23b0
                          try clear c23b1
                          try clear p25
                          try clear q25
                          try clear hx25
                          try clear qi25
                          try clear c26
                          try clear c26b0
                          try clear c26b1
                          try clear c27
                          try clear c27b0
                          try clear c27b1
                          try clear c28
                          try clear c28b0
                          try clear c28b1
                          try clear p29
                          try clear q29
                          try clear hx29
                          try clear qi29
                          try clear c31
                          try clear c31b0
                          try clear c32
                          try clear c32b0
                          try clear c32b1
                          try clear p33
                          try clear q33
                          try clear hx33
                          try clear qi33
                          try clear p1
                          try clear p10
                          try clear p15
                          try clear p17
                          try clear p2
                          try clear p20
                          try clear p22
                          try clear p25
                          try clear p29
                          try clear p33
                          try clear p5
                          try clear p7
                          try clear q1
                          try clear q10
                          try clear q15
                          try clear q17
                          try clear q20
                          try clear q22
                          try clear q25
                          try clear q29
                          try clear q33
                          try clear q5
                          try clear q7
                          obtain ⟨kq, x56_23, rfl, HA, HJ23, ⟨mc23, rfl⟩⟩ := hcut
                          cases kq with
                          | zero => exact absurd HA.out (by simp [modcertref03_character.j2])
                          | succ kj23 =>
                            have H := HA.out
                            clear HA
                            simp only [modcertref03_character.j2] at H
                            by_cases c35 : x56_23 = true
                            · subst c35
                              have H1 : (if 2 < (a0.size : Int) then ((modcertref03_hex.f (bt a0 2)).bind fun t170 => (if 3 < (a0.size : Int) then ((modcertref03_hex.f (bt a0 3)).bind fun t171 => (some ((wrap64 ((wrap64 (16 * t170)) + t171)) % 256, 4))) else (none))) else (none)) = some (r1, r2) := by rw [if_pos rfl] at H; exact H
                              clear H
                              have H := H1
                              clear H1
                              by_cases c36 : 2 < (a0.size : Int)
                              · rw [if_pos c36] at H
                                have c36b0 : decide (2 < (a0.size : Int)) = true := decide_eq_true c36
                                have c36b1 : decide (2 < a0.size) = true := decide_eq_true (by omega)
                                clear c36
                                replace H := Option.bind_eq_some_iff.mp H
                                obtain ⟨t170, A380, H⟩ := H
                                replace H : (if 3 < (a0.size : Int) then ((modcertref03_hex.f (bt a0 3)).bind fun t171 => (some ((wrap64 ((wrap64 (16 * t170)) + t171)) % 256, 4))) else (none)) = some (r1, r2) := H
                                have A38 := Aside0.mk A380
                                clear A380
                                by_cases c39 : 3 < (a0.size : Int)
                                · rw [if_pos c39] at H
                                  have c39b0 : decide (3 < (a0.size : Int)) = true := decide_eq_true c39
                                  have c39b1 : decide (3 < a0.size) = true := decide_eq_true (by omega)
                                  clear c39
                                  replace H := Option.bind_eq_some_iff.mp H
                                  obtain ⟨t171, A410, H⟩ := H
                                  replace H : (some ((wrap64 ((wrap64 (16 * t170)) + t171)) % 256, 4)) = some (r1, r2) := H
                                  have A41 := Aside0.mk A410
                                  clear A410
                                  simp only [Option.some.injEq, Prod.mk.injEq] at H
                                  obtain ⟨rfl, rfl⟩ := H
                                  have p37 : 0 ≤ (2 : Int) := (by omega)
                                  have q37 : 2 < a0.size := (by have : (2 : Int) < (a0.size : Int) := of_decide_eq_true (by first | (with_reducible assumption) | assumption); omega)
                                  have hx37 : ∀ h : 2 < a0.size, ((a0[2]'h).toNat : Int) = bt a0 2 := bt_at a0 2
                                  clear p37
                                  have qi37 : (2 < (a0.size : Int)) = True := eq_true (of_decide_eq_true (by first | (with_reducible assumption) | assumption))
                                  replace q37 := eq_true q37
                                  go_wp2_with (first | (go_at_call 85; (with_reducible refine (modcertref03_hex.calls (bt a0 2) t170 _ A38.out).mono ?_); rintro e w' ⟨rfl, ⟨nd, rfl⟩⟩; (try first | exact ⟨rfl, _, World.drewN_drewN _ _ _⟩ | exact ⟨rfl, _, Eq.trans (World.drewN_drewN _ _ _) (congrArg (World.drewN _) (Nat.add_assoc _ _ _))⟩); have p40 : 0 ≤ (3 : Int) := (by omega); have q40 : 3 < a0.size := (by have : (3 : Int) < (a0.size : Int) := of_decide_eq_true (by first | (with_reducible assumption) | assumption); omega); have hx40 : ∀ h : 3 < a0.size, ((a0[3]'h).toNat : Int) = bt a0 3 := bt_at a0 3; clear p40; have qi40 : (3 < (a0.size : Int)) = True := eq_true (of_decide_eq_true (by first | (with_reducible assumption) | assumption)); replace q40 := eq_true q40) | (go_at_call 85; (with_reducible refine (modcertref03_hex.calls (bt a0 3) t171 _ A41.out).mono ?_); rintro e w' ⟨rfl, ⟨nd, rfl⟩⟩; (try first | exact ⟨rfl, _, World.drewN_drewN _ _ _⟩ | exact ⟨rfl, _, Eq.trans (World.drewN_drewN _ _ _) (congrArg (World.drewN _) (Nat.add_assoc _ _ _))⟩)))
                                  repeat (go_quiet (first | (go_at_call 85; (with_reducible refine (modcertref03_hex.calls (bt a0 2) t170 _ A38.out).mono ?_); rintro e w' ⟨rfl, ⟨nd, rfl⟩⟩; (try first | exact ⟨rfl, _, World.drewN_drewN _ _ _⟩ | exact ⟨rfl, _, Eq.trans (World.drewN_drewN _ _ _) (congrArg (World.drewN _) (Nat.add_assoc _ _ _))⟩); have p40 : 0 ≤ (3 : Int) := (by omega); have q40 : 3 < a0.size := (by have : (3 : Int) < (a0.size : Int) := of_decide_eq_true (by first | (with_reducible assumption) | assumption); omega); have hx40 : ∀ h : 3 < a0.size, ((a0[3]'h).toNat : Int) = bt a0 3 := bt_at a0 3; clear p40; have qi40 : (3 < (a0.size : Int)) = True := eq_true (of_decide_eq_true (by first | (with_reducible assumption) | assumption)); replace q40 := eq_true q40) | (go_at_call 85; (with_reducible refine (modcertref03_hex.calls (bt a0 3) t171 _ A41.out).mono ?_); rintro e w' ⟨rfl, ⟨nd, rfl⟩⟩; (try first | exact ⟨rfl, _, World.drewN_drewN _ _ _⟩ | exact ⟨rfl, _, Eq.trans (World.drewN_drewN _ _ _) (congrArg (World.drewN _) (Nat.add_assoc _ _ _))⟩))); try go_wp2_with (first | (go_at_call 85; (with_reducible refine (modcertref03_hex.calls (bt a0 2) t170 _ A38.out).mono ?_); rintro e w' ⟨rfl, ⟨nd, rfl⟩⟩; (try first | exact ⟨rfl, _, World.drewN_drewN _ _ _⟩ | exact ⟨rfl, _, Eq.trans (World.drewN_drewN _ _ _) (congrArg (World.drewN _) (Nat.add_assoc _ _ _))⟩); have p40 : 0 ≤ (3 : Int) := (by omega); have q40 : 3 < a0.size := (by have : (3 : Int) < (a0.size : Int) := of_decide_eq_true (by first | (with_reducible assumption) | assumption); omega); have hx40 : ∀ h : 3 < a0.size, ((a0[3]'h).toNat : Int) = bt a0 3 := bt_at a0 3; clear p40; have qi40 : (3 < (a0.size : Int)) = True := eq_true (of_decide_eq_true (by first | (with_reducible assumption) | assumption)); replace q40 := eq_true q40) | (go_at_call 85; (with_reducible refine (modcertref03_hex.calls (bt a0 3) t171 _ A41.out).mono ?_); rintro e w' ⟨rfl, ⟨nd, rfl⟩⟩; (try first | exact ⟨rfl, _, World.drewN_drewN _ _ _⟩ | exact ⟨rfl, _, Eq.trans (World.drewN_drewN _ _ _) (congrArg (World.drewN _) (Nat.add_assoc _ _ _))⟩))))
                                  go_ret2
                                  exact ⟨by first | rfl | (simp; done) | (simp [*]; done) | (simp [i64_w, IntKind.wrap_u8]; done), by repeat (first | exact Drawn0.refl _ | apply Drawn0.step)⟩
                                · rw [if_neg c39] at H
                                  exact absurd H (by simp)
                              · rw [if_neg c36] at H
                                exact absurd H (by simp)
                            · replace c35 := Bool.eq_false_iff.mpr c35
                              subst c35
                              have H1 : (some (0, 0)) = some (r1, r2) := by rw [if_neg (show ¬ (false = true) by decide)] at H; exact H
                              clear H
                              have H := H1
                              clear H1
                              simp only [Option.some.injEq, Prod.mk.injEq] at H
                              obtain ⟨rfl, rfl⟩ := H
                              go_wp2
                              repeat (go_quiet (fail); try go_wp2)
                              go_ret2
                              exact ⟨by first | rfl | (simp; done) | (simp [*]; done) | (simp [i64_w, IntKind.wrap_u8]; done), by repeat (first | exact Drawn0.refl _ | apply Drawn0.step)⟩
                    · rw [if_neg c21] at H
                      exact absurd H (by simp)
          · rw [if_neg c11] at H
            have c11b0 : ((bt a0 0) == 92) = false := beq_eq_false_iff_ne.mpr c11
            have c11b1 : ((bt a0 0) != 92) = true := bne_iff_ne.mpr c11
            simp only [Option.some.injEq, Prod.mk.injEq] at H
            obtain ⟨rfl, rfl⟩ := H
            have p10 : 0 ≤ (0 : Int) := (by omega)
            have q10 : 0 < a0.size := (by have : (0 : Int) < (a0.size : Int) := of_decide_eq_true (by first | (with_reducible assumption) | assumption); omega)
            have hx10 : ∀ h : 0 < a0.size, ((a0[0]'h).toNat : Int) = bt a0 0 := bt_at a0 0
            clear p10
            have qi10 : (0 < (a0.size : Int)) = True := eq_true (of_decide_eq_true (by first | (with_reducible assumption) | assumption))
            replace q10 := eq_true q10
            have p42 : 0 ≤ (0 : Int) := (by omega)
            have q42 : 0 < a0.size := (by have : (0 : Int) < (a0.size : Int) := of_decide_eq_true (by first | (with_reducible assumption) | assumption); omega)
            have hx42 : ∀ h : 0 < a0.size, ((a0[0]'h).toNat : Int) = bt a0 0 := bt_at a0 0
            clear p42
            have qi42 : (0 < (a0.size : Int)) = True := eq_true (of_decide_eq_true (by first | (with_reducible assumption) | assumption))
            replace q42 := eq_true q42
            go_wp2
            repeat (go_quiet (fail); try go_wp2)
            go_ret2
            exact ⟨by first | rfl | (simp; done) | (simp [*]; done) | (simp [i64_w, IntKind.wrap_u8]; done), by repeat (first | exact Drawn0.refl _ | apply Drawn0.step)⟩
        · rw [if_neg c9] at H
          exact absurd H (by simp)

end Go.Proofs.YtmndicibakaceaaDoor.Pr
