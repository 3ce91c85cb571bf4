/- Printed by a program of this work's own (wip/myprint.py) for these statements: functions of the program as Lean functions, and proofs that a call of the Go function returns just what the Lean function tells; conditions: where the Lean function tells 'some'. -/
import Derived.Test.YtdccbpeajpnkjaaDoorPr0
namespace Go.Proofs.YtdccbpeajpnkjaaDoor.Pr
open Go.RowKit Go.Proofs.YtdccbpeajpnkjaaDoorW.PrintWords Go.Proofs.YtdccbpeajpnkjaaDoorW.PrintLast Go.Proofs.YtdccbpeajpnkjaaDoorW.PrintMore
attribute [local go_sem] max2_int min2_int max_two min_two max_three min_three max_four min_four   -- for this text's walks alone
set_option linter.unusedVariables false
set_option linter.unusedSimpArgs false

/-! ### modcertref24_Parse: function 10 -/
mutual
def modcertref24_Parse.l0 : Nat → ByteArray → List Int → Int → Int → Int → Option (Int × Int × Int × Int)
  | 0, _, _, _, _, _ => none
  | k + 1, x0, x4, x5, x6, x7 => if x7 ≤ (x0.size : Int) then (if x7 = (x0.size : Int) then (modcertref24_Parse.j1 k x0 x4 x5 x6 x7 true) else (if 0 ≤ x7 then (if x7 < (x0.size : Int) then (modcertref24_Parse.j1 k x0 x4 x5 x6 x7 ((bt x0 x7) == 46)) else (none)) else (none))) else (if (x4.length : Int) = 3 then (if 0 < (x4.length : Int) then (if 1 < (x4.length : Int) then (if 2 < (x4.length : Int) then (some (rd x4 0, rd x4 1, rd x4 2, 0)) else (none)) else (none)) else (none)) else (some (0, 0, 0, 3)))
def modcertref24_Parse.j1 : Nat → ByteArray → List Int → Int → Int → Int → Bool → Option (Int × Int × Int × Int)
  | 0, _, _, _, _, _, _ => none
  | k + 1, x0, x4, x5, x6, x7, x24 => if x24 = true then (if x6 = 0 then (some (0, 0, 0, 3)) else (if x4.length < 17592186044416 then (modcertref24_Parse.l0 k x0 (x4 ++ [x5]) 0 0 (wrap64 (x7 + 1))) else (none))) else (if 0 ≤ x7 then (if x7 < (x0.size : Int) then (if (bt x0 x7) < 48 then (some (0, 0, 0, 3)) else (if (bt x0 x7) > 57 then (some (0, 0, 0, 3)) else (if x6 = 3 then (some (0, 0, 0, 3)) else (if x6 > 0 then (if x5 = 0 then (some (0, 0, 0, 3)) else (modcertref24_Parse.l0 k x0 x4 (wrap64 ((wrap64 (10 * x5)) + (((bt x0 x7) - 48) % 256))) (wrap64 (x6 + 1)) (wrap64 (x7 + 1)))) else (modcertref24_Parse.l0 k x0 x4 (wrap64 ((wrap64 (10 * x5)) + (((bt x0 x7) - 48) % 256))) (wrap64 (x6 + 1)) (wrap64 (x7 + 1))))))) else (none)) else (none))
end
def modcertref24_Parse.f (k : Nat) (a0 : ByteArray) : Option (Int × Int × Int × Int) := modcertref24_Parse.l0 k a0 (([] : List Int)) 0 0 0
theorem modcertref24_Parse.mono_l : ∀ k, (∀ y0 y1 y2 y3 y4, LeO (modcertref24_Parse.l0 k y0 y1 y2 y3 y4) (modcertref24_Parse.l0 (k + 1) y0 y1 y2 y3 y4)) ∧ (∀ y0 y1 y2 y3 y4 y5, LeO (modcertref24_Parse.j1 k y0 y1 y2 y3 y4 y5) (modcertref24_Parse.j1 (k + 1) y0 y1 y2 y3 y4 y5))
  | 0 => ⟨fun _ _ _ _ _ r h => by simp [modcertref24_Parse.l0] at h, fun _ _ _ _ _ _ r h => by simp [modcertref24_Parse.j1] at h⟩
  | k + 1 => by
    obtain ⟨ih0, ih1⟩ := modcertref24_Parse.mono_l k
    refine ⟨?_, ?_⟩
    · intro y0 y1 y2 y3 y4
      unfold modcertref24_Parse.l0
      repeat' first
      | (with_reducible exact ih0 _ _ _ _ _)
      | (with_reducible exact ih1 _ _ _ _ _ _)
      | (with_reducible exact LeO.refl _)
      | (with_reducible exact LeO.none _)
      | (with_reducible refine LeO.ite ?_ ?_)
      | (with_reducible refine LeO.bind ?_ (fun _ => ?_))
      | exact ih0 _ _ _ _ _
      | exact ih1 _ _ _ _ _ _
      | exact LeO.none _
      | refine LeO.ite ?_ ?_
      | refine LeO.bind ?_ (fun _ => ?_)
    · intro y0 y1 y2 y3 y4 y5
      unfold modcertref24_Parse.j1
      repeat' first
      | (with_reducible exact ih0 _ _ _ _ _)
      | (with_reducible exact ih1 _ _ _ _ _ _)
      | (with_reducible exact LeO.refl _)
      | (with_reducible exact LeO.none _)
      | (with_reducible refine LeO.ite ?_ ?_)
      | (with_reducible refine LeO.bind ?_ (fun _ => ?_))
      | exact ih0 _ _ _ _ _
      | exact ih1 _ _ _ _ _ _
      | exact LeO.none _
      | refine LeO.ite ?_ ?_
      | refine LeO.bind ?_ (fun _ => ?_)
theorem modcertref24_Parse.mono : ∀ a0 k, LeO (modcertref24_Parse.f k a0) (modcertref24_Parse.f (k + 1) a0) := by
  intro a0 k
  obtain ⟨ih0, ih1⟩ := modcertref24_Parse.mono_l k
  unfold modcertref24_Parse.f
  repeat' first
      | (with_reducible exact ih0 _ _ _ _ _)
      | (with_reducible exact ih1 _ _ _ _ _ _)
      | (with_reducible exact LeO.refl _)
      | (with_reducible exact LeO.none _)
      | (with_reducible refine LeO.ite ?_ ?_)
      | (with_reducible refine LeO.bind ?_ (fun _ => ?_))
      | exact ih0 _ _ _ _ _
      | exact ih1 _ _ _ _ _ _
      | exact LeO.none _
      | refine LeO.ite ?_ ?_
      | refine LeO.bind ?_ (fun _ => ?_)
def modcertref24_Parse.T17 : Bool × List (List Nat × List Nat) := (true, [([], []), ([0], [0]), ([1], [1]), ([], []), ([3], [3]), ([4], [4]), ([], []), ([6], [6]), ([7], [7]), ([2, 5, 8], [2, 5, 8]), ([9, 0, 1, 2, 3, 4, 5, 6, 7, 8, 9], [9]), ([10, 0, 1, 2, 3, 4, 5, 6, 7, 8, 9, 10], [])])
def modcertref24_Parse.B17 : List Nat := [0, 1, 3, 0, 8, 24, 0, 64, 192, 511, 1023, 2047]
theorem modcertref24_Parse.tab17 : rtab .any (opsOf Tryd.f10 17) = modcertref24_Parse.T17 := by kernel_rfl
theorem modcertref24_Parse.bits17 : waitsOk modcertref24_Parse.T17.2 modcertref24_Parse.B17 = true := by kernel_rfl
set_option maxHeartbeats 8000000 in
set_option maxRecDepth 100000 in
theorem modcertref24_Parse.calls (k : Nat) (a0 : ByteArray) (r1 : Int) (r2 : Int) (r3 : Int) (r4 : Int) (w : World) (h : modcertref24_Parse.f k a0 = some (r1, r2, r3, r4)) :
    Calls Tryd.prog 10 #[.string a0] w fun e w' => e = .returned (.tuple #[.agg #[.int .i64 r1, .int .i64 r2, .int .i64 r3], .int .i64 r4]) ∧ Below w.heap.size w w' := by
  have hu23 := Tryd.underlying23
  have HB := Aside0.mk (Below.refl w.heap.size w)
  have H : (modcertref24_Parse.l0 k a0 (([] : List Int)) 0 0 0) = some (r1, r2, r3, r4) := h
  clear h
  obtain ⟨y150, hy150⟩ : ∃ y_ : List Int, y_ = (([] : List Int)) := ⟨_, rfl⟩
  replace H : (modcertref24_Parse.l0 k a0 y150 0 0 0) = some (r1, r2, r3, r4) := by first | (rw [hy150]; with_reducible exact H) | (have H2_ := (Option.bind_some _ _).symm.trans H; rw [hy150]; with_reducible exact H2_) | (have H2_ := (Option.bind_some _ _).symm.trans H; with_reducible exact H2_) | with_reducible exact H | (rw [hy150]; exact H) | exact H
  have Ny150 := Aside0.mk hy150
  clear hy150
  have H' := Aside0.mk H
  clear H
  go_enter Tryd.func10, Tryd.ntmps10
  go_wp2_with (first | ((with_reducible refine gate_dst (N := 2) rfl ?_); refine box_event ?hg (N := 2) ?hd (cs := #[.int .i64 0, .int .i64 0, .int .i64 0]) (t := 23) ?hr ?_; (case hd => rfl); (case hg => rfl); (case hr => first | (go_simp; done) | (go_simp; rfl)); intro gb149 hg w2 hbox hb; have n0_ := Aside0.mk (below_step (by repeat (first | (with_reducible first | exact HB.out | apply below_alloc | apply pw_below_drewN | apply below_drew1) | exact HB.out)) hb); have n1_ := Aside0.mk (hbox); have n2_ := Aside0.mk ((by rw [hg]; exact (below_size (by repeat (first | (with_reducible first | exact HB.out | apply below_alloc | apply pw_below_drewN | apply below_drew1) | exact HB.out))) : w.heap.size ≤ gb149)); have n3_ := Aside0.mk ((by rw [hg]; exact (below_size (by repeat (first | (with_reducible first | exact HB.out | apply below_alloc | apply pw_below_drewN | apply below_drew1) | exact HB.out))) : w.heap.size ≤ gb149)); clear HB; have HB := n0_; have BK149 := n1_; have GW149 := n2_; have GE149 := n3_; clear n0_ n1_ n2_ n3_; clear hb hbox hg) | ((with_reducible refine gate_dst (N := 8) rfl ?_); refine Kd.R_lit (Kd.int .i64) _ 3 ?hg (N := 8) ?hd (xs := ([] : List Int)) (inner := []) (ok := fun _ => True) (okp := fun _ => True) ?hr ?hp (fun _ hk => hk) trivial (Below.refl _ _) (Nat.le_refl _) (by simp) ?_; (case hd => rfl); (case hg => rfl); (case hr => first | (go_simp; done) | (go_simp; rfl)); (case hp => exact (Reps.none _ _)); intro v151 w3 ho4 hb hg_ hnew_; clear hg_ hnew_; (first | rw [← Ny150.out] at ho4 | (simp only [Int.reduceToNat] at ho4; rw [← Ny150.out] at ho4)); have n0_ := Aside0.mk (Kd.R_lower ho4 (below_size (by repeat (first | (with_reducible first | exact HB.out | apply below_alloc | apply pw_below_drewN | apply below_drew1 | refine below_set ?_ GE149.out) | exact HB.out)))); have n1_ := Aside0.mk (blk_below (g := gb149) (o := .cells #[.int .i64 0, .int .i64 0, .int .i64 0] 23 (0, 0)) (by (with_reducible repeat (first | refine blk_drewN ?_ _ | refine blk_drew ?_ | refine blk_alloc ?_ _)); exact BK149.out) hb); have n2_ := Aside0.mk (below_step (by repeat (first | (with_reducible first | exact HB.out | apply below_alloc | apply pw_below_drewN | apply below_drew1 | refine below_set ?_ GE149.out) | exact HB.out)) hb); clear BK149; clear HB; have HO152 := n0_; have BK149 := n1_; have HB := n2_; clear n0_ n1_ n2_; clear hb ho4))
  go_loopg [4, 5, 6, 7] k (fun kq v4 v5 v6 v7 w' => ∃ (x4_1 : List Int) (x5_1 : Int) (x6_1 : Int) (x7_1 : Int) (x150000_1 : Int) (x150001_1 : Int) (x150002_1 : Int), v5 = .int .i64 x5_1 ∧ v6 = .int .i64 x6_1 ∧ v7 = .int .i64 x7_1 ∧ Aside0 (modcertref24_Parse.l0 kq a0 x4_1 x5_1 x6_1 x7_1 = some (r1, r2, r3, r4)) ∧ Aside0 (kq ≤ k) ∧ Aside0 (Kd.R (Kd.int .i64) 3 w' w.heap.size (fun _ => True) v4 x4_1) ∧ Aside0 (w'.heap[gb149]? = some (.cells #[.int .i64 x150000_1, .int .i64 x150001_1, .int .i64 x150002_1] 23 (0, 0))) ∧ Aside0 (Below w.heap.size w w'))
  case atStart => exact ⟨(y150), (0), (0), (0), (0), (0), (0), (by first | rfl | (simp; done) | (simp [*]; done)), (by first | rfl | (simp; done) | (simp [*]; done)), (by first | rfl | (simp; done) | (simp [*]; done)), H', ⟨Nat.le_refl _⟩, ⟨by (with_reducible repeat (first | apply Kd.R_alloc | apply Kd.R_drewN | apply Kd.R_drew)); exact HO152.out⟩, ⟨by (with_reducible repeat (first | refine blk_drewN ?_ _ | refine blk_drew ?_ | refine blk_alloc ?_ _)); exact BK149.out⟩, ⟨by repeat (first | (with_reducible first | exact HB.out | apply below_alloc | apply pw_below_drewN | apply below_drew1 | refine below_set ?_ GE149.out) | exact HB.out)⟩⟩
  case round =>
    clear H'
    try clear c1
    try clear p2
    obtain ⟨x4_1, x5_1, x6_1, x7_1, x150000_1, x150001_1, x150002_1, rfl, rfl, rfl, HA, HK1, HO_4, BK149, HB⟩ := hrel
    cases gk with
    | zero => exact absurd HA.out (by simp [modcertref24_Parse.l0])
    | succ k1 =>
      have H := HA.out
      clear HA
      simp only [modcertref24_Parse.l0] at H
      by_cases c5 : x7_1 ≤ (a0.size : Int)
      · rw [if_pos c5] at H
        have c5b0 : decide (x7_1 ≤ (a0.size : Int)) = true := decide_eq_true c5
        clear c5
        have HC6 := Aside0.mk H
        clear H
        go_upto_region 6 with (fail)
        go_cut [24] (fun v24 wc => ∃ (kq : Nat) (x24_5 : Bool), v24 = .bool x24_5 ∧ Aside0 (modcertref24_Parse.j1 kq a0 x4_1 x5_1 x6_1 x7_1 x24_5 = some (r1, r2, r3, r4)) ∧ Aside0 (kq ≤ k1) ∧ Aside0 (Kd.R (Kd.int .i64) 3 wc w.heap.size (fun _ => True) u4 x4_1) ∧ Aside0 (wc.heap[gb149]? = some (.cells #[.int .i64 x150000_1, .int .i64 x150001_1, .int .i64 x150002_1] 23 (0, 0))) ∧ Aside0 (Below w.heap.size w wc))
        case first =>
          have H := HC6.out
          clear HC6
          by_cases c7 : x7_1 = (a0.size : Int)
          · rw [if_pos c7] at H
            have c7b0 : (x7_1 == (a0.size : Int)) = true := beq_iff_eq.mpr c7
            have c7b1 : (x7_1 != (a0.size : Int)) = false := bne_eq_false_iff_eq.mpr c7
            clear c7
            (first | rw [c7b0] | (simp only [i64_w, i32_w]; rw [c7b0]) | skip)
            have H' := Aside0.mk H
            clear H
            go_wp2
            go_meet
            case rel => exact ⟨_, (true), (by first | rfl | (simp; done) | (simp [*]; done)), H', ⟨by have := HK1.out; first | omega | exact Nat.le_refl _⟩, ⟨by (with_reducible repeat (first | apply Kd.R_alloc | apply Kd.R_drewN | apply Kd.R_drew)); exact HO_4.out⟩, ⟨by (with_reducible repeat (first | refine blk_drewN ?_ _ | refine blk_drew ?_ | refine blk_alloc ?_ _)); exact BK149.out⟩, ⟨by repeat (first | (with_reducible first | exact HB.out | apply below_alloc | apply pw_below_drewN | apply below_drew1 | refine below_set ?_ GE149.out) | exact HB.out)⟩⟩
          · rw [if_neg c7] at H
            have c7b0 : (x7_1 == (a0.size : Int)) = false := beq_eq_false_iff_ne.mpr c7
            have c7b1 : (x7_1 != (a0.size : Int)) = true := bne_iff_ne.mpr c7
            (first | rw [c7b0] | (simp only [i64_w, i32_w]; rw [c7b0]) | skip)
            by_cases c8 : 0 ≤ x7_1
            · rw [if_pos c8] at H
              have c8b0 : decide (0 ≤ x7_1) = true := decide_eq_true c8
              clear c8
              by_cases c9 : x7_1 < (a0.size : Int)
              · rw [if_pos c9] at H
                have c9b0 : decide (x7_1 < (a0.size : Int)) = true := decide_eq_true c9
                clear c9
                have H' := Aside0.mk H
                clear H
                have p10 : 0 ≤ (x7_1 : Int) := of_decide_eq_true (by first | (with_reducible assumption) | assumption)
                have q10 : x7_1 < (a0.size : Int) := of_decide_eq_true (by first | (with_reducible assumption) | assumption)
                have hx10 := bt_at a0 x7_1
                replace p10 := eq_true p10
                replace q10 := eq_true q10
                go_wp2
                go_meet
                case rel => exact ⟨_, (((bt a0 x7_1) == 46)), (by first | rfl | (simp; done) | (simp [*]; done)), H', ⟨by have := HK1.out; first | omega | exact Nat.le_refl _⟩, ⟨by (with_reducible repeat (first | apply Kd.R_alloc | apply Kd.R_drewN | apply Kd.R_drew)); exact HO_4.out⟩, ⟨by (with_reducible repeat (first | refine blk_drewN ?_ _ | refine blk_drew ?_ | refine blk_alloc ?_ _)); exact BK149.out⟩, ⟨by repeat (first | (with_reducible first | exact HB.out | apply below_alloc | apply pw_below_drewN | apply below_drew1 | refine below_set ?_ GE149.out) | exact HB.out)⟩⟩
              · rw [if_neg c9] at H
                exact absurd H (by simp)
            · rw [if_neg c8] at H
              exact absurd H (by simp)
        case rest =>
          clear HC6
          try clear c1
          try clear p1
          try clear q1
          try clear hx1
          try clear p2
          try clear c5
          try clear c5b0
          try clear c7
          try clear c7b0
          try clear c7b1
          try clear c8
          try clear c8b0
          try clear c9
          try clear c9b0
          try clear c10
          try clear p10
          try clear q10
          try clear hx10
          try clear p10
          try clear p2
          try clear q10
          obtain ⟨kq, x24_5, rfl, HA, HJ5, HO_4, BK149, HB⟩ := hcut
          cases kq with
          | zero => exact absurd HA.out (by simp [modcertref24_Parse.j1])
          | succ kj5 =>
            have H := HA.out
            clear HA
            simp only [modcertref24_Parse.j1] at H
            by_cases c11 : x24_5 = true
            · subst c11
              have H1 : (if x6_1 = 0 then (some (0, 0, 0, 3)) else (if x4_1.length < 17592186044416 then (modcertref24_Parse.l0 kj5 a0 (x4_1 ++ [x5_1]) 0 0 (wrap64 (x7_1 + 1))) else (none))) = some (r1, r2, r3, r4) := by rw [if_pos rfl] at H; exact H
              clear H
              have H := H1
              clear H1
              by_cases c12 : x6_1 = 0
              · rw [if_pos c12] at H
                have c12b0 : (x6_1 == 0) = true := beq_iff_eq.mpr c12
                have c12b1 : (x6_1 != 0) = false := bne_eq_false_iff_eq.mpr c12
                clear c12
                simp only [Option.some.injEq, Prod.mk.injEq] at H
                obtain ⟨rfl, rfl, rfl, rfl⟩ := H
                have hcz13_0 : wc.cell? ⟨gb149, 0, none⟩ = some (.int .i64 x150000_1) := (blk_cell BK149.out 0).trans rfl
                have hcz13_1 : wc.cell? ⟨gb149, 1, none⟩ = some (.int .i64 x150001_1) := (blk_cell BK149.out 1).trans rfl
                have hcz13_2 : wc.cell? ⟨gb149, 2, none⟩ = some (.int .i64 x150002_1) := (blk_cell BK149.out 2).trans rfl
                have hfz13_0 := blk_frozen BK149.out 0
                have hfz13_1 := blk_frozen BK149.out 1
                have hfz13_2 := blk_frozen BK149.out 2
                go_wp2
                refine bodyPost_ret (results_ct rfl _ _ gb149 23 #[.int .i64 0, .int .i64 0, .int .i64 0] (0, 0) _ rfl (by (with_reducible repeat (first | refine blk_drewN ?_ _ | refine blk_drew ?_ | refine blk_alloc ?_ _)); refine blk_put (cs := #[.int .i64 0, .int .i64 0, .int .i64 x150002_1]) ?_ 2 _ rfl; (with_reducible repeat (first | refine blk_drewN ?_ _ | refine blk_drew ?_ | refine blk_alloc ?_ _)); refine blk_put (cs := #[.int .i64 0, .int .i64 x150001_1, .int .i64 x150002_1]) ?_ 1 _ rfl; (with_reducible repeat (first | refine blk_drewN ?_ _ | refine blk_drew ?_ | refine blk_alloc ?_ _)); refine blk_put (cs := #[.int .i64 x150000_1, .int .i64 x150001_1, .int .i64 x150002_1]) ?_ 0 _ rfl; (with_reducible repeat (first | refine blk_drewN ?_ _ | refine blk_drew ?_ | refine blk_alloc ?_ _)); exact BK149.out) Tryd.underlying23 rfl (by kernel_rfl)) rfl ?_
                exact ⟨by first | rfl | (simp [errW_none, errW_some] <;> rfl) | (simp [*, errW_none, errW_some] <;> rfl), by repeat (first | (with_reducible first | exact HB.out | apply below_alloc | apply pw_below_drewN | apply below_drew1 | refine below_set ?_ GE149.out) | exact HB.out)⟩
              · rw [if_neg c12] at H
                have c12b0 : (x6_1 == 0) = false := beq_eq_false_iff_ne.mpr c12
                have c12b1 : (x6_1 != 0) = true := bne_iff_ne.mpr c12
                by_cases c14 : x4_1.length < 17592186044416
                · rw [if_pos c14] at H
                  have LMc14 := Aside0.mk c14
                  clear c14
                  obtain ⟨y156, hy156⟩ : ∃ y_ : List Int, y_ = (x4_1 ++ [x5_1]) := ⟨_, rfl⟩
                  replace H : (modcertref24_Parse.l0 kj5 a0 y156 0 0 (wrap64 (x7_1 + 1))) = some (r1, r2, r3, r4) := by first | (rw [hy156]; with_reducible exact H) | (have H2_ := (Option.bind_some _ _).symm.trans H; rw [hy156]; with_reducible exact H2_) | (have H2_ := (Option.bind_some _ _).symm.trans H; with_reducible exact H2_) | with_reducible exact H | (rw [hy156]; exact H) | exact H
                  have Ny156 := Aside0.mk hy156
                  clear hy156
                  have H' := Aside0.mk H
                  clear H
                  go_wp2_with (first | ((with_reducible refine gate_builtin (b := .append) (xs := #[.tmp 28, .tmp 30]) rfl ?_); at_builtin; refine Kd.R_append (Kd.int .i64) (w0 := w) w.heap.size rfl (.tmp 28) (.tmp 30) 55 3 (.int .i64 0) 8 rfl Tryd.underlying55 info3 rfl (by decide) (by omega) u4 x4_1 x5_1 [.int .i64 x5_1] (fun _ => True) (fun _ => False) rfl rfl ?aP (fun _ hk => hk.elim) ?aF ?aO ?aB ?aS ?aL ?_; (case aP => exact rfl); (case aB => exact (by repeat (first | (with_reducible first | exact HB.out | apply below_alloc | apply pw_below_drewN | apply below_drew1 | refine below_set ?_ GE149.out) | exact HB.out))); (case aF => exact (fun _ _ => trivial)); (case aO => exact (by (with_reducible repeat (first | apply Kd.R_alloc | apply Kd.R_drewN | apply Kd.R_drew)); exact HO_4.out)); (case aS => exact (below_size (by repeat (first | (with_reducible first | exact HB.out | apply below_alloc | apply pw_below_drewN | apply below_drew1 | refine below_set ?_ GE149.out) | exact HB.out)))); (case aL => have := LMc14.out; omega); intro v157 w15 ho hb hg hat; rw [← Ny156.out] at ho; have n0_ := Aside0.mk (blk_grown (g := gb149) (o := .cells #[.int .i64 x150000_1, .int .i64 x150001_1, .int .i64 x150002_1] 23 (0, 0)) (by (with_reducible repeat (first | refine blk_drewN ?_ _ | refine blk_drew ?_ | refine blk_alloc ?_ _)); exact BK149.out) hg (Kd.R_ne HO_4.out BK149.out (by decide))); have n1_ := Aside0.mk (hb); have n2_ := Aside0.mk (ho); clear BK149; clear HB; clear HO_4; have BK149 := n0_; have HB := n1_; have HO158 := n2_; clear n0_ n1_ n2_; clear ho hb hg hat))
                  go_roundg kj5
                  case measure => have := HK1.out; have := HJ5.out; omega
                  case rel => exact ⟨(y156), (0), (0), (wrap64 (x7_1 + 1)), (x150000_1), (x150001_1), (x150002_1), (by first | rfl | (simp; done) | (simp [*]; done)), (by first | rfl | (simp; done) | (simp [*]; done)), (by first | rfl | (simp; done) | (simp [*]; done)), H', ⟨by have := HK1.out; have := HJ5.out; omega⟩, ⟨by (with_reducible repeat (first | apply Kd.R_alloc | apply Kd.R_drewN | apply Kd.R_drew)); exact HO158.out⟩, ⟨by (with_reducible repeat (first | refine blk_drewN ?_ _ | refine blk_drew ?_ | refine blk_alloc ?_ _)); exact BK149.out⟩, ⟨by repeat (first | (with_reducible first | exact HB.out | apply below_alloc | apply pw_below_drewN | apply below_drew1 | refine below_set ?_ GE149.out) | exact HB.out)⟩⟩
                · rw [if_neg c14] at H
                  exact absurd H (by simp)
            · replace c11 := Bool.eq_false_iff.mpr c11
              subst c11
              have H1 : (if 0 ≤ x7_1 then (if x7_1 < (a0.size : Int) then (if (bt a0 x7_1) < 48 then (some (0, 0, 0, 3)) else (if (bt a0 x7_1) > 57 then (some (0, 0, 0, 3)) else (if x6_1 = 3 then (some (0, 0, 0, 3)) else (if x6_1 > 0 then (if x5_1 = 0 then (some (0, 0, 0, 3)) else (modcertref24_Parse.l0 kj5 a0 x4_1 (wrap64 ((wrap64 (10 * x5_1)) + (((bt a0 x7_1) - 48) % 256))) (wrap64 (x6_1 + 1)) (wrap64 (x7_1 + 1)))) else (modcertref24_Parse.l0 kj5 a0 x4_1 (wrap64 ((wrap64 (10 * x5_1)) + (((bt a0 x7_1) - 48) % 256))) (wrap64 (x6_1 + 1)) (wrap64 (x7_1 + 1))))))) else (none)) else (none)) = some (r1, r2, r3, r4) := by rw [if_neg (show ¬ (false = true) by decide)] at H; exact H
              clear H
              have H := H1
              clear H1
              by_cases c16 : 0 ≤ x7_1
              · rw [if_pos c16] at H
                have c16b0 : decide (0 ≤ x7_1) = true := decide_eq_true c16
                clear c16
                by_cases c17 : x7_1 < (a0.size : Int)
                · rw [if_pos c17] at H
                  have c17b0 : decide (x7_1 < (a0.size : Int)) = true := decide_eq_true c17
                  clear c17
                  by_cases c19 : (bt a0 x7_1) < 48
                  · rw [if_pos c19] at H
                    have c19b0 : decide ((bt a0 x7_1) < 48) = true := decide_eq_true c19
                    clear c19
                    simp only [Option.some.injEq, Prod.mk.injEq] at H
                    obtain ⟨rfl, rfl, rfl, rfl⟩ := H
                    have p18 : 0 ≤ (x7_1 : Int) := of_decide_eq_true (by first | (with_reducible assumption) | assumption)
                    have q18 : x7_1 < (a0.size : Int) := of_decide_eq_true (by first | (with_reducible assumption) | assumption)
                    have hx18 := bt_at a0 x7_1
                    replace p18 := eq_true p18
                    replace q18 := eq_true q18
                    have hcz20_0 : wc.cell? ⟨gb149, 0, none⟩ = some (.int .i64 x150000_1) := (blk_cell BK149.out 0).trans rfl
                    have hcz20_1 : wc.cell? ⟨gb149, 1, none⟩ = some (.int .i64 x150001_1) := (blk_cell BK149.out 1).trans rfl
                    have hcz20_2 : wc.cell? ⟨gb149, 2, none⟩ = some (.int .i64 x150002_1) := (blk_cell BK149.out 2).trans rfl
                    have hfz20_0 := blk_frozen BK149.out 0
                    have hfz20_1 := blk_frozen BK149.out 1
                    have hfz20_2 := blk_frozen BK149.out 2
                    go_wp2
                    refine bodyPost_ret (results_ct rfl _ _ gb149 23 #[.int .i64 0, .int .i64 0, .int .i64 0] (0, 0) _ rfl (by (with_reducible repeat (first | refine blk_drewN ?_ _ | refine blk_drew ?_ | refine blk_alloc ?_ _)); refine blk_put (cs := #[.int .i64 0, .int .i64 0, .int .i64 x150002_1]) ?_ 2 _ rfl; (with_reducible repeat (first | refine blk_drewN ?_ _ | refine blk_drew ?_ | refine blk_alloc ?_ _)); refine blk_put (cs := #[.int .i64 0, .int .i64 x150001_1, .int .i64 x150002_1]) ?_ 1 _ rfl; (with_reducible repeat (first | refine blk_drewN ?_ _ | refine blk_drew ?_ | refine blk_alloc ?_ _)); refine blk_put (cs := #[.int .i64 x150000_1, .int .i64 x150001_1, .int .i64 x150002_1]) ?_ 0 _ rfl; (with_reducible repeat (first | refine blk_drewN ?_ _ | refine blk_drew ?_ | refine blk_alloc ?_ _)); exact BK149.out) Tryd.underlying23 rfl (by kernel_rfl)) rfl ?_
                    exact ⟨by first | rfl | (simp [errW_none, errW_some] <;> rfl) | (simp [*, errW_none, errW_some] <;> rfl), by repeat (first | (with_reducible first | exact HB.out | apply below_alloc | apply pw_below_drewN | apply below_drew1 | refine below_set ?_ GE149.out) | exact HB.out)⟩
                  · rw [if_neg c19] at H
                    have c19b0 : decide ((bt a0 x7_1) < 48) = false := decide_eq_false c19
                    clear c19
                    by_cases c22 : (bt a0 x7_1) > 57
                    · rw [if_pos c22] at H
                      have c22b0 : decide (57 < (bt a0 x7_1)) = true := decide_eq_true c22
                      clear c22
                      simp only [Option.some.injEq, Prod.mk.injEq] at H
                      obtain ⟨rfl, rfl, rfl, rfl⟩ := H
                      have p18 : 0 ≤ (x7_1 : Int) := of_decide_eq_true (by first | (with_reducible assumption) | assumption)
                      have q18 : x7_1 < (a0.size : Int) := of_decide_eq_true (by first | (with_reducible assumption) | assumption)
                      have hx18 := bt_at a0 x7_1
                      replace p18 := eq_true p18
                      replace q18 := eq_true q18
                      have p21 : 0 ≤ (x7_1 : Int) := of_decide_eq_true (by first | (with_reducible assumption) | assumption)
                      have q21 : x7_1 < (a0.size : Int) := of_decide_eq_true (by first | (with_reducible assumption) | assumption)
                      have hx21 := bt_at a0 x7_1
                      replace p21 := eq_true p21
                      replace q21 := eq_true q21
                      have hcz23_0 : wc.cell? ⟨gb149, 0, none⟩ = some (.int .i64 x150000_1) := (blk_cell BK149.out 0).trans rfl
                      have hcz23_1 : wc.cell? ⟨gb149, 1, none⟩ = some (.int .i64 x150001_1) := (blk_cell BK149.out 1).trans rfl
                      have hcz23_2 : wc.cell? ⟨gb149, 2, none⟩ = some (.int .i64 x150002_1) := (blk_cell BK149.out 2).trans rfl
                      have hfz23_0 := blk_frozen BK149.out 0
                      have hfz23_1 := blk_frozen BK149.out 1
                      have hfz23_2 := blk_frozen BK149.out 2
                      go_wp2
                      refine bodyPost_ret (results_ct rfl _ _ gb149 23 #[.int .i64 0, .int .i64 0, .int .i64 0] (0, 0) _ rfl (by (with_reducible repeat (first | refine blk_drewN ?_ _ | refine blk_drew ?_ | refine blk_alloc ?_ _)); refine blk_put (cs := #[.int .i64 0, .int .i64 0, .int .i64 x150002_1]) ?_ 2 _ rfl; (with_reducible repeat (first | refine blk_drewN ?_ _ | refine blk_drew ?_ | refine blk_alloc ?_ _)); refine blk_put (cs := #[.int .i64 0, .int .i64 x150001_1, .int .i64 x150002_1]) ?_ 1 _ rfl; (with_reducible repeat (first | refine blk_drewN ?_ _ | refine blk_drew ?_ | refine blk_alloc ?_ _)); refine blk_put (cs := #[.int .i64 x150000_1, .int .i64 x150001_1, .int .i64 x150002_1]) ?_ 0 _ rfl; (with_reducible repeat (first | refine blk_drewN ?_ _ | refine blk_drew ?_ | refine blk_alloc ?_ _)); exact BK149.out) Tryd.underlying23 rfl (by kernel_rfl)) rfl ?_
                      exact ⟨by first | rfl | (simp [errW_none, errW_some] <;> rfl) | (simp [*, errW_none, errW_some] <;> rfl), by repeat (first | (with_reducible first | exact HB.out | apply below_alloc | apply pw_below_drewN | apply below_drew1 | refine below_set ?_ GE149.out) | exact HB.out)⟩
                    · rw [if_neg c22] at H
                      have c22b0 : decide (57 < (bt a0 x7_1)) = false := decide_eq_false c22
                      clear c22
                      by_cases c24 : x6_1 = 3
                      · rw [if_pos c24] at H
                        have c24b0 : (x6_1 == 3) = true := beq_iff_eq.mpr c24
                        have c24b1 : (x6_1 != 3) = false := bne_eq_false_iff_eq.mpr c24
                        clear c24
                        simp only [Option.some.injEq, Prod.mk.injEq] at H
                        obtain ⟨rfl, rfl, rfl, rfl⟩ := H
                        have p18 : 0 ≤ (x7_1 : Int) := of_decide_eq_true (by first | (with_reducible assumption) | assumption)
                        have q18 : x7_1 < (a0.size : Int) := of_decide_eq_true (by first | (with_reducible assumption) | assumption)
                        have hx18 := bt_at a0 x7_1
                        replace p18 := eq_true p18
                        replace q18 := eq_true q18
                        have p21 : 0 ≤ (x7_1 : Int) := of_decide_eq_true (by first | (with_reducible assumption) | assumption)
                        have q21 : x7_1 < (a0.size : Int) := of_decide_eq_true (by first | (with_reducible assumption) | assumption)
                        have hx21 := bt_at a0 x7_1
                        replace p21 := eq_true p21
                        replace q21 := eq_true q21
                        have hcz25_0 : wc.cell? ⟨gb149, 0, none⟩ = some (.int .i64 x150000_1) := (blk_cell BK149.out 0).trans rfl
                        have hcz25_1 : wc.cell? ⟨gb149, 1, none⟩ = some (.int .i64 x150001_1) := (blk_cell BK149.out 1).trans rfl
                        have hcz25_2 : wc.cell? ⟨gb149, 2, none⟩ = some (.int .i64 x150002_1) := (blk_cell BK149.out 2).trans rfl
                        have hfz25_0 := blk_frozen BK149.out 0
                        have hfz25_1 := blk_frozen BK149.out 1
                        have hfz25_2 := blk_frozen BK149.out 2
                        go_wp2
                        refine bodyPost_ret (results_ct rfl _ _ gb149 23 #[.int .i64 0, .int .i64 0, .int .i64 0] (0, 0) _ rfl (by (with_reducible repeat (first | refine blk_drewN ?_ _ | refine blk_drew ?_ | refine blk_alloc ?_ _)); refine blk_put (cs := #[.int .i64 0, .int .i64 0, .int .i64 x150002_1]) ?_ 2 _ rfl; (with_reducible repeat (first | refine blk_drewN ?_ _ | refine blk_drew ?_ | refine blk_alloc ?_ _)); refine blk_put (cs := #[.int .i64 0, .int .i64 x150001_1, .int .i64 x150002_1]) ?_ 1 _ rfl; (with_reducible repeat (first | refine blk_drewN ?_ _ | refine blk_drew ?_ | refine blk_alloc ?_ _)); refine blk_put (cs := #[.int .i64 x150000_1, .int .i64 x150001_1, .int .i64 x150002_1]) ?_ 0 _ rfl; (with_reducible repeat (first | refine blk_drewN ?_ _ | refine blk_drew ?_ | refine blk_alloc ?_ _)); exact BK149.out) Tryd.underlying23 rfl (by kernel_rfl)) rfl ?_
                        exact ⟨by first | rfl | (simp [errW_none, errW_some] <;> rfl) | (simp [*, errW_none, errW_some] <;> rfl), by repeat (first | (with_reducible first | exact HB.out | apply below_alloc | apply pw_below_drewN | apply below_drew1 | refine below_set ?_ GE149.out) | exact HB.out)⟩
                      · rw [if_neg c24] at H
                        have c24b0 : (x6_1 == 3) = false := beq_eq_false_iff_ne.mpr c24
                        have c24b1 : (x6_1 != 3) = true := bne_iff_ne.mpr c24
                        by_cases c26 : x6_1 > 0
                        · rw [if_pos c26] at H
                          have c26b0 : decide (0 < x6_1) = true := decide_eq_true c26
                          clear c26
                          by_cases c27 : x5_1 = 0
                          · rw [if_pos c27] at H
                            have c27b0 : (x5_1 == 0) = true := beq_iff_eq.mpr c27
                            have c27b1 : (x5_1 != 0) = false := bne_eq_false_iff_eq.mpr c27
                            clear c27
                            simp only [Option.some.injEq, Prod.mk.injEq] at H
                            obtain ⟨rfl, rfl, rfl, rfl⟩ := H
                            have p18 : 0 ≤ (x7_1 : Int) := of_decide_eq_true (by first | (with_reducible assumption) | assumption)
                            have q18 : x7_1 < (a0.size : Int) := of_decide_eq_true (by first | (with_reducible assumption) | assumption)
                            have hx18 := bt_at a0 x7_1
                            replace p18 := eq_true p18
                            replace q18 := eq_true q18
                            have p21 : 0 ≤ (x7_1 : Int) := of_decide_eq_true (by first | (with_reducible assumption) | assumption)
                            have q21 : x7_1 < (a0.size : Int) := of_decide_eq_true (by first | (with_reducible assumption) | assumption)
                            have hx21 := bt_at a0 x7_1
                            replace p21 := eq_true p21
                            replace q21 := eq_true q21
                            have hcz28_0 : wc.cell? ⟨gb149, 0, none⟩ = some (.int .i64 x150000_1) := (blk_cell BK149.out 0).trans rfl
                            have hcz28_1 : wc.cell? ⟨gb149, 1, none⟩ = some (.int .i64 x150001_1) := (blk_cell BK149.out 1).trans rfl
                            have hcz28_2 : wc.cell? ⟨gb149, 2, none⟩ = some (.int .i64 x150002_1) := (blk_cell BK149.out 2).trans rfl
                            have hfz28_0 := blk_frozen BK149.out 0
                            have hfz28_1 := blk_frozen BK149.out 1
                            have hfz28_2 := blk_frozen BK149.out 2
                            go_wp2
                            refine bodyPost_ret (results_ct rfl _ _ gb149 23 #[.int .i64 0, .int .i64 0, .int .i64 0] (0, 0) _ rfl (by (with_reducible repeat (first | refine blk_drewN ?_ _ | refine blk_drew ?_ | refine blk_alloc ?_ _)); refine blk_put (cs := #[.int .i64 0, .int .i64 0, .int .i64 x150002_1]) ?_ 2 _ rfl; (with_reducible repeat (first | refine blk_drewN ?_ _ | refine blk_drew ?_ | refine blk_alloc ?_ _)); refine blk_put (cs := #[.int .i64 0, .int .i64 x150001_1, .int .i64 x150002_1]) ?_ 1 _ rfl; (with_reducible repeat (first | refine blk_drewN ?_ _ | refine blk_drew ?_ | refine blk_alloc ?_ _)); refine blk_put (cs := #[.int .i64 x150000_1, .int .i64 x150001_1, .int .i64 x150002_1]) ?_ 0 _ rfl; (with_reducible repeat (first | refine blk_drewN ?_ _ | refine blk_drew ?_ | refine blk_alloc ?_ _)); exact BK149.out) Tryd.underlying23 rfl (by kernel_rfl)) rfl ?_
                            exact ⟨by first | rfl | (simp [errW_none, errW_some] <;> rfl) | (simp [*, errW_none, errW_some] <;> rfl), by repeat (first | (with_reducible first | exact HB.out | apply below_alloc | apply pw_below_drewN | apply below_drew1 | refine below_set ?_ GE149.out) | exact HB.out)⟩
                          · rw [if_neg c27] at H
                            have c27b0 : (x5_1 == 0) = false := beq_eq_false_iff_ne.mpr c27
                            have c27b1 : (x5_1 != 0) = true := bne_iff_ne.mpr c27
                            have H' := Aside0.mk H
                            clear H
                            have p18 : 0 ≤ (x7_1 : Int) := of_decide_eq_true (by first | (with_reducible assumption) | assumption)
                            have q18 : x7_1 < (a0.size : Int) := of_decide_eq_true (by first | (with_reducible assumption) | assumption)
                            have hx18 := bt_at a0 x7_1
                            replace p18 := eq_true p18
                            replace q18 := eq_true q18
                            have p21 : 0 ≤ (x7_1 : Int) := of_decide_eq_true (by first | (with_reducible assumption) | assumption)
                            have q21 : x7_1 < (a0.size : Int) := of_decide_eq_true (by first | (with_reducible assumption) | assumption)
                            have hx21 := bt_at a0 x7_1
                            replace p21 := eq_true p21
                            replace q21 := eq_true q21
                            have p29 : 0 ≤ (x7_1 : Int) := of_decide_eq_true (by first | (with_reducible assumption) | assumption)
                            have q29 : x7_1 < (a0.size : Int) := of_decide_eq_true (by first | (with_reducible assumption) | assumption)
                            have hx29 := bt_at a0 x7_1
                            replace p29 := eq_true p29
                            replace q29 := eq_true q29
                            go_wp2
                            go_roundg kj5
                            case measure => have := HK1.out; have := HJ5.out; omega
                            case rel => exact ⟨(x4_1), (wrap64 ((wrap64 (10 * x5_1)) + (((bt a0 x7_1) - 48) % 256))), (wrap64 (x6_1 + 1)), (wrap64 (x7_1 + 1)), (x150000_1), (x150001_1), (x150002_1), (by first | rfl | (simp; done) | (simp [*]; done)), (by first | rfl | (simp; done) | (simp [*]; done)), (by first | rfl | (simp; done) | (simp [*]; done)), H', ⟨by have := HK1.out; have := HJ5.out; omega⟩, ⟨by (with_reducible repeat (first | apply Kd.R_alloc | apply Kd.R_drewN | apply Kd.R_drew)); exact HO_4.out⟩, ⟨by (with_reducible repeat (first | refine blk_drewN ?_ _ | refine blk_drew ?_ | refine blk_alloc ?_ _)); exact BK149.out⟩, ⟨by repeat (first | (with_reducible first | exact HB.out | apply below_alloc | apply pw_below_drewN | apply below_drew1 | refine below_set ?_ GE149.out) | exact HB.out)⟩⟩
                        · rw [if_neg c26] at H
                          have c26b0 : decide (0 < x6_1) = false := decide_eq_false c26
                          clear c26
                          have H' := Aside0.mk H
                          clear H
                          have p18 : 0 ≤ (x7_1 : Int) := of_decide_eq_true (by first | (with_reducible assumption) | assumption)
                          have q18 : x7_1 < (a0.size : Int) := of_decide_eq_true (by first | (with_reducible assumption) | assumption)
                          have hx18 := bt_at a0 x7_1
                          replace p18 := eq_true p18
                          replace q18 := eq_true q18
                          have p21 : 0 ≤ (x7_1 : Int) := of_decide_eq_true (by first | (with_reducible assumption) | assumption)
                          have q21 : x7_1 < (a0.size : Int) := of_decide_eq_true (by first | (with_reducible assumption) | assumption)
                          have hx21 := bt_at a0 x7_1
                          replace p21 := eq_true p21
                          replace q21 := eq_true q21
                          have p30 : 0 ≤ (x7_1 : Int) := of_decide_eq_true (by first | (with_reducible assumption) | assumption)
                          have q30 : x7_1 < (a0.size : Int) := of_decide_eq_true (by first | (with_reducible assumption) | assumption)
                          have hx30 := bt_at a0 x7_1
                          replace p30 := eq_true p30
                          replace q30 := eq_true q30
                          go_wp2
                          go_roundg kj5
                          case measure => have := HK1.out; have := HJ5.out; omega
                          case rel => exact ⟨(x4_1), (wrap64 ((wrap64 (10 * x5_1)) + (((bt a0 x7_1) - 48) % 256))), (wrap64 (x6_1 + 1)), (wrap64 (x7_1 + 1)), (x150000_1), (x150001_1), (x150002_1), (by first | rfl | (simp; done) | (simp [*]; done)), (by first | rfl | (simp; done) | (simp [*]; done)), (by first | rfl | (simp; done) | (simp [*]; done)), H', ⟨by have := HK1.out; have := HJ5.out; omega⟩, ⟨by (with_reducible repeat (first | apply Kd.R_alloc | apply Kd.R_drewN | apply Kd.R_drew)); exact HO_4.out⟩, ⟨by (with_reducible repeat (first | refine blk_drewN ?_ _ | refine blk_drew ?_ | refine blk_alloc ?_ _)); exact BK149.out⟩, ⟨by repeat (first | (with_reducible first | exact HB.out | apply below_alloc | apply pw_below_drewN | apply below_drew1 | refine below_set ?_ GE149.out) | exact HB.out)⟩⟩
                · rw [if_neg c17] at H
                  exact absurd H (by simp)
              · rw [if_neg c16] at H
                exact absurd H (by simp)
      · rw [if_neg c5] at H
        have c5b0 : decide (x7_1 ≤ (a0.size : Int)) = false := decide_eq_false c5
        clear c5
        by_cases c31 : (x4_1.length : Int) = 3
        · rw [if_pos c31] at H
          have c31b0 : ((x4_1.length : Int) == 3) = true := beq_iff_eq.mpr c31
          have c31b1 : ((x4_1.length : Int) != 3) = false := bne_eq_false_iff_eq.mpr c31
          clear c31
          by_cases c32 : 0 < (x4_1.length : Int)
          · rw [if_pos c32] at H
            have c32b0 : decide (0 < (x4_1.length : Int)) = true := decide_eq_true c32
            have c32b1 : decide (0 < x4_1.length) = true := decide_eq_true (by omega)
            clear c32
            by_cases c33 : 1 < (x4_1.length : Int)
            · rw [if_pos c33] at H
              have c33b0 : decide (1 < (x4_1.length : Int)) = true := decide_eq_true c33
              have c33b1 : decide (1 < x4_1.length) = true := decide_eq_true (by omega)
              clear c33
              by_cases c34 : 2 < (x4_1.length : Int)
              · rw [if_pos c34] at H
                have c34b0 : decide (2 < (x4_1.length : Int)) = true := decide_eq_true c34
                have c34b1 : decide (2 < x4_1.length) = true := decide_eq_true (by omega)
                clear c34
                simp only [Option.some.injEq, Prod.mk.injEq] at H
                obtain ⟨rfl, rfl, rfl, rfl⟩ := H
                obtain ⟨Ao35, co35, eo35⟩ := Kd.R_slice HO_4.out
                subst eo35
                try go_wp2
                have n0_ := Aside0.mk (Kd.R_drew HO_4.out)
                have n1_ := Aside0.mk (blk_drew BK149.out)
                have n2_ := Aside0.mk (below_drew1 HB.out)
                clear HO_4
                clear BK149
                clear HB
                have HO_4 := n0_
                have BK149 := n1_
                have HB := n2_
                clear n0_ n1_ n2_
                have p153 : 0 ≤ (0 : Int) := (by omega)
                have q153 : 0 < (x4_1.length : Int) := of_decide_eq_true (by first | (with_reducible assumption) | assumption)
                obtain ⟨ad153, e153, hx153_0⟩ := Kd.at_int (Kd.R_reads' HO_4.out).2.2 0 p153 q153
                cases e153
                have qi153 : (0 < x4_1.length) = True := eq_true (by omega)
                (try rw [show ((0 : Int)).toNat = 0 from rfl] at hx153_0)
                (try rw [Addr.add_zero'] at hx153_0)
                replace p153 := eq_true p153
                replace q153 := eq_true q153
                have p154 : 0 ≤ (1 : Int) := (by omega)
                have q154 : 1 < (x4_1.length : Int) := of_decide_eq_true (by first | (with_reducible assumption) | assumption)
                obtain ⟨ad154, e154, hx154_0⟩ := Kd.at_int (Kd.R_reads' HO_4.out).2.2 1 p154 q154
                obtain rfl : ad153 = ad154 := (by injection e154)
                (try simp only [show (1 : Int).toNat = 1 from rfl, Nat.reduceMul, Nat.reduceEqDiff, Go.Addr.add, ↓reduceIte] at hx154_0)
                have qi154 : (1 < x4_1.length) = True := eq_true (by omega)
                (try rw [show ((1 : Int)).toNat = 1 from rfl] at hx154_0)
                replace p154 := eq_true p154
                replace q154 := eq_true q154
                have p155 : 0 ≤ (2 : Int) := (by omega)
                have q155 : 2 < (x4_1.length : Int) := of_decide_eq_true (by first | (with_reducible assumption) | assumption)
                obtain ⟨ad155, e155, hx155_0⟩ := Kd.at_int (Kd.R_reads' HO_4.out).2.2 2 p155 q155
                obtain rfl : ad153 = ad155 := (by injection e155)
                (try simp only [show (2 : Int).toNat = 2 from rfl, Nat.reduceMul, Nat.reduceEqDiff, Go.Addr.add, ↓reduceIte] at hx155_0)
                have qi155 : (2 < x4_1.length) = True := eq_true (by omega)
                (try rw [show ((2 : Int)).toNat = 2 from rfl] at hx155_0)
                replace p155 := eq_true p155
                replace q155 := eq_true q155
                refine start_ (n := 12) (S := fun w' => w'.cell? ad153 = some (.int .i64 (rd x4_1 0)) ∧ w'.cell? ⟨ad153.block, ad153.off + 1, none⟩ = some (.int .i64 (rd x4_1 1)) ∧ w'.cell? ⟨ad153.block, ad153.off + 2, none⟩ = some (.int .i64 (rd x4_1 2))) (ds := []) #[false, false, false, false, false, false, false, false, false, false, false, false] (by kernel_rfl) rfl rfl ⟨hx153_0, hx154_0, hx155_0⟩ (fun hHeld => ?_); refine with_tabW modcertref24_Parse.tab17 modcertref24_Parse.bits17 (fun HT_ HW_ => ?_)
                generalize wr.drew = w36 at HO_4 BK149 HB hx153_0 hx154_0 hx155_0 hHeld ⊢
                refine pure_ (i := 0) (N := some 69) (v := ?_) (a' := ?_) #[true, false, false, false, false, false, false, false, false, false, false, false] rfl rfl (any_of HT_.out (by kernel_rfl)) (fun _ _ _ h => h) (Or.inl ⟨by rfl, ?_⟩) ?_ ?_
                rotate_left
                · intro w'
                  go_simp
                  with_reducible rfl
                rotate_left
                · simp only [Act.put, List.setIfInBounds_toArray, List.set_cons_zero, List.set_cons_succ, i64_w, i32_w]
                  rfl
                refine pure_ (i := 1) (N := some 70) (v := ?_) (a' := ?_) #[true, true, false, false, false, false, false, false, false, false, false, false] rfl rfl (any_of HT_.out (by kernel_rfl)) (fun _ _ _ h => h) (Or.inl ⟨by rfl, ?_⟩) ?_ ?_
                rotate_left
                · intro w'
                  go_simp
                  with_reducible rfl
                rotate_left
                · simp only [Act.put, List.setIfInBounds_toArray, List.set_cons_zero, List.set_cons_succ, i64_w, i32_w]
                  rfl
                refine pure_ (i := 3) (N := some 72) (v := ?_) (a' := ?_) #[true, true, false, true, false, false, false, false, false, false, false, false] rfl rfl (any_of HT_.out (by kernel_rfl)) (fun _ _ _ h => h) (Or.inl ⟨by rfl, ?_⟩) ?_ ?_
                rotate_left
                · intro w'
                  go_simp
                  with_reducible rfl
                rotate_left
                · simp only [Act.put, List.setIfInBounds_toArray, List.set_cons_zero, List.set_cons_succ, i64_w, i32_w]
                  rfl
                refine pure_ (i := 4) (N := some 73) (v := ?_) (a' := ?_) #[true, true, false, true, true, false, false, false, false, false, false, false] rfl rfl (any_of HT_.out (by kernel_rfl)) (fun _ _ _ h => h) (Or.inl ⟨by rfl, ?_⟩) ?_ ?_
                rotate_left
                · intro w'
                  go_simp
                  with_reducible rfl
                rotate_left
                · simp only [Act.put, List.setIfInBounds_toArray, List.set_cons_zero, List.set_cons_succ, i64_w, i32_w]
                  rfl
                refine pure_ (i := 6) (N := some 75) (v := ?_) (a' := ?_) #[true, true, false, true, true, false, true, false, false, false, false, false] rfl rfl (any_of HT_.out (by kernel_rfl)) (fun _ _ _ h => h) (Or.inl ⟨by rfl, ?_⟩) ?_ ?_
                rotate_left
                · intro w'
                  go_simp
                  with_reducible rfl
                rotate_left
                · simp only [Act.put, List.setIfInBounds_toArray, List.set_cons_zero, List.set_cons_succ, i64_w, i32_w]
                  rfl
                refine pure_ (i := 7) (N := some 76) (v := ?_) (a' := ?_) #[true, true, false, true, true, false, true, true, false, false, false, false] rfl rfl (any_of HT_.out (by kernel_rfl)) (fun _ _ _ h => h) (Or.inl ⟨by rfl, ?_⟩) ?_ ?_
                rotate_left
                · intro w'
                  go_simp
                  with_reducible rfl
                rotate_left
                · simp only [Act.put, List.setIfInBounds_toArray, List.set_cons_zero, List.set_cons_succ, i64_w, i32_w]
                  rfl
                refine take_ (i := 2) (N := some 71) (v := ?_) (a' := ?_) #[true, true, true, true, true, false, true, true, false, false, false, false] rfl rfl (take_ofW HT_.out HW_.out (by kernel_rfl)) (fun _ _ _ h => h) (Or.inl ⟨by rfl, ?_⟩) hHeld ?_ ?_
                rotate_left
                · rintro w' ⟨s0, s1, s2⟩
                  go_simp
                  with_reducible rfl
                rotate_left
                · simp only [Act.put, List.setIfInBounds_toArray, List.set_cons_zero, List.set_cons_succ, i64_w, i32_w]
                  rfl
                refine take_ (i := 5) (N := some 74) (v := ?_) (a' := ?_) #[true, true, true, true, true, true, true, true, false, false, false, false] rfl rfl (take_ofW HT_.out HW_.out (by kernel_rfl)) (fun _ _ _ h => h) (Or.inl ⟨by rfl, ?_⟩) hHeld ?_ ?_
                rotate_left
                · rintro w' ⟨s0, s1, s2⟩
                  go_simp
                  with_reducible rfl
                rotate_left
                · simp only [Act.put, List.setIfInBounds_toArray, List.set_cons_zero, List.set_cons_succ, i64_w, i32_w]
                  rfl
                refine take_ (i := 8) (N := some 77) (v := ?_) (a' := ?_) #[true, true, true, true, true, true, true, true, true, false, false, false] rfl rfl (take_ofW HT_.out HW_.out (by kernel_rfl)) (fun _ _ _ h => h) (Or.inl ⟨by rfl, ?_⟩) hHeld ?_ ?_
                rotate_left
                · rintro w' ⟨s0, s1, s2⟩
                  go_simp
                  with_reducible rfl
                rotate_left
                · simp only [Act.put, List.setIfInBounds_toArray, List.set_cons_zero, List.set_cons_succ, i64_w, i32_w]
                  rfl
                refine pure_ (i := 9) (N := some 78) (v := ?_) (a' := ?_) #[true, true, true, true, true, true, true, true, true, true, false, false] rfl rfl (any_of HT_.out (by kernel_rfl)) (fun _ _ _ h => h) (Or.inl ⟨by rfl, ?_⟩) ?_ ?_
                rotate_left
                · intro w'
                  go_simp
                  with_reducible rfl
                rotate_left
                · simp only [Act.put, List.setIfInBounds_toArray, List.set_cons_zero, List.set_cons_succ, i64_w, i32_w]
                  rfl
                refine one_ (i := 10) (N := none) #[true, true, true, true, true, true, true, true, true, true, true, false] rfl rfl (one_of HT_.out (by kernel_rfl)) (by decide) (fun K hK => ?_)
                have hs37 : w36.cell? ⟨gb149, 0, none⟩ = some (.int .i64 x150000_1) := (blk_cell BK149.out 0).trans rfl
                have hfs37 := blk_frozen BK149.out 0
                have hs38 : w36.cell? ⟨gb149, 1, none⟩ = some (.int .i64 x150001_1) := (blk_cell BK149.out 1).trans rfl
                have hfs38 := blk_frozen BK149.out 1
                have hs39 : w36.cell? ⟨gb149, 2, none⟩ = some (.int .i64 x150002_1) := (blk_cell BK149.out 2).trans rfl
                have hfs39 := blk_frozen BK149.out 2
                refine skip_ (w1 := ?_) (by rfl) rfl ?_ ?_
                rotate_left
                · go_simp
                  rfl
                refine hK.out _ _ ⟨((cell_far (p := ⟨gb149, _, none⟩) (by first | exact Kd.own_blk (Kd.R_ne HO_4.out BK149.out (by decide)) | (rw [add_block]; exact Kd.own_blk (Kd.R_ne HO_4.out BK149.out (by decide))) | (show (Addr.add _ _).block ≠ _; rw [add_block]; exact Kd.own_blk (Kd.R_ne HO_4.out BK149.out (by decide))) | (dsimp only; exact Kd.own_blk (Kd.R_ne HO_4.out BK149.out (by decide)))) _).trans (((cell_far (p := ⟨gb149, _, none⟩) (by first | exact Kd.own_blk (Kd.R_ne HO_4.out BK149.out (by decide)) | (rw [add_block]; exact Kd.own_blk (Kd.R_ne HO_4.out BK149.out (by decide))) | (show (Addr.add _ _).block ≠ _; rw [add_block]; exact Kd.own_blk (Kd.R_ne HO_4.out BK149.out (by decide))) | (dsimp only; exact Kd.own_blk (Kd.R_ne HO_4.out BK149.out (by decide)))) _).trans (((cell_far (p := ⟨gb149, _, none⟩) (by first | exact Kd.own_blk (Kd.R_ne HO_4.out BK149.out (by decide)) | (rw [add_block]; exact Kd.own_blk (Kd.R_ne HO_4.out BK149.out (by decide))) | (show (Addr.add _ _).block ≠ _; rw [add_block]; exact Kd.own_blk (Kd.R_ne HO_4.out BK149.out (by decide))) | (dsimp only; exact Kd.own_blk (Kd.R_ne HO_4.out BK149.out (by decide)))) _).trans (hHeld.1)))))), ((cell_far (p := ⟨gb149, _, none⟩) (by first | exact Kd.own_blk (Kd.R_ne HO_4.out BK149.out (by decide)) | (rw [add_block]; exact Kd.own_blk (Kd.R_ne HO_4.out BK149.out (by decide))) | (show (Addr.add _ _).block ≠ _; rw [add_block]; exact Kd.own_blk (Kd.R_ne HO_4.out BK149.out (by decide))) | (dsimp only; exact Kd.own_blk (Kd.R_ne HO_4.out BK149.out (by decide)))) _).trans (((cell_far (p := ⟨gb149, _, none⟩) (by first | exact Kd.own_blk (Kd.R_ne HO_4.out BK149.out (by decide)) | (rw [add_block]; exact Kd.own_blk (Kd.R_ne HO_4.out BK149.out (by decide))) | (show (Addr.add _ _).block ≠ _; rw [add_block]; exact Kd.own_blk (Kd.R_ne HO_4.out BK149.out (by decide))) | (dsimp only; exact Kd.own_blk (Kd.R_ne HO_4.out BK149.out (by decide)))) _).trans (((cell_far (p := ⟨gb149, _, none⟩) (by first | exact Kd.own_blk (Kd.R_ne HO_4.out BK149.out (by decide)) | (rw [add_block]; exact Kd.own_blk (Kd.R_ne HO_4.out BK149.out (by decide))) | (show (Addr.add _ _).block ≠ _; rw [add_block]; exact Kd.own_blk (Kd.R_ne HO_4.out BK149.out (by decide))) | (dsimp only; exact Kd.own_blk (Kd.R_ne HO_4.out BK149.out (by decide)))) _).trans (hHeld.2.1)))))), ((cell_far (p := ⟨gb149, _, none⟩) (by first | exact Kd.own_blk (Kd.R_ne HO_4.out BK149.out (by decide)) | (rw [add_block]; exact Kd.own_blk (Kd.R_ne HO_4.out BK149.out (by decide))) | (show (Addr.add _ _).block ≠ _; rw [add_block]; exact Kd.own_blk (Kd.R_ne HO_4.out BK149.out (by decide))) | (dsimp only; exact Kd.own_blk (Kd.R_ne HO_4.out BK149.out (by decide)))) _).trans (((cell_far (p := ⟨gb149, _, none⟩) (by first | exact Kd.own_blk (Kd.R_ne HO_4.out BK149.out (by decide)) | (rw [add_block]; exact Kd.own_blk (Kd.R_ne HO_4.out BK149.out (by decide))) | (show (Addr.add _ _).block ≠ _; rw [add_block]; exact Kd.own_blk (Kd.R_ne HO_4.out BK149.out (by decide))) | (dsimp only; exact Kd.own_blk (Kd.R_ne HO_4.out BK149.out (by decide)))) _).trans (((cell_far (p := ⟨gb149, _, none⟩) (by first | exact Kd.own_blk (Kd.R_ne HO_4.out BK149.out (by decide)) | (rw [add_block]; exact Kd.own_blk (Kd.R_ne HO_4.out BK149.out (by decide))) | (show (Addr.add _ _).block ≠ _; rw [add_block]; exact Kd.own_blk (Kd.R_ne HO_4.out BK149.out (by decide))) | (dsimp only; exact Kd.own_blk (Kd.R_ne HO_4.out BK149.out (by decide)))) _).trans (hHeld.2.2))))))⟩ (fun hHeld => ?_)
                clear hK K
                refine pure_ (i := 11) (N := some 3) (v := ?_) (a' := ?_) #[true, true, true, true, true, true, true, true, true, true, true, true] rfl rfl (any_of HT_.out (by kernel_rfl)) (fun _ _ _ h => h) (Or.inl ⟨by rfl, ?_⟩) ?_ ?_
                rotate_left
                · intro w'
                  go_simp
                  with_reducible rfl
                rotate_left
                · simp only [Act.put, List.setIfInBounds_toArray, List.set_cons_zero, List.set_cons_succ, i64_w, i32_w]
                  rfl
                refine done_ (done_of HT_.out (by kernel_rfl)) ?_
                try go_wp2
                refine bodyPost_ret (results_ct rfl _ _ gb149 23 #[.int .i64 (rd x4_1 0), .int .i64 (rd x4_1 1), .int .i64 (rd x4_1 2)] (0, 0) _ rfl (by (with_reducible repeat (first | refine blk_drewN ?_ _ | refine blk_drew ?_ | refine blk_alloc ?_ _)); refine blk_put (cs := #[.int .i64 (rd x4_1 0), .int .i64 (rd x4_1 1), .int .i64 x150002_1]) ?_ 2 _ rfl; (with_reducible repeat (first | refine blk_drewN ?_ _ | refine blk_drew ?_ | refine blk_alloc ?_ _)); refine blk_put (cs := #[.int .i64 (rd x4_1 0), .int .i64 x150001_1, .int .i64 x150002_1]) ?_ 1 _ rfl; (with_reducible repeat (first | refine blk_drewN ?_ _ | refine blk_drew ?_ | refine blk_alloc ?_ _)); refine blk_put (cs := #[.int .i64 x150000_1, .int .i64 x150001_1, .int .i64 x150002_1]) ?_ 0 _ rfl; (with_reducible repeat (first | refine blk_drewN ?_ _ | refine blk_drew ?_ | refine blk_alloc ?_ _)); exact BK149.out) Tryd.underlying23 rfl (by kernel_rfl)) rfl ?_
                exact ⟨by first | rfl | (simp [errW_none, errW_some] <;> rfl) | (simp [*, errW_none, errW_some] <;> rfl), by repeat (first | (with_reducible first | exact HB.out | apply below_alloc | apply pw_below_drewN | apply below_drew1 | refine below_set ?_ GE149.out) | exact HB.out)⟩
              · rw [if_neg c34] at H
                exact absurd H (by simp)
            · rw [if_neg c33] at H
              exact absurd H (by simp)
          · rw [if_neg c32] at H
            exact absurd H (by simp)
        · rw [if_neg c31] at H
          have c31b0 : ((x4_1.length : Int) == 3) = false := beq_eq_false_iff_ne.mpr c31
          have c31b1 : ((x4_1.length : Int) != 3) = true := bne_iff_ne.mpr c31
          simp only [Option.some.injEq, Prod.mk.injEq] at H
          obtain ⟨rfl, rfl, rfl, rfl⟩ := H
          obtain ⟨Ao40, co40, eo40⟩ := Kd.R_slice HO_4.out
          subst eo40
          have hcz41_0 : wr.cell? ⟨gb149, 0, none⟩ = some (.int .i64 x150000_1) := (blk_cell BK149.out 0).trans rfl
          have hcz41_1 : wr.cell? ⟨gb149, 1, none⟩ = some (.int .i64 x150001_1) := (blk_cell BK149.out 1).trans rfl
          have hcz41_2 : wr.cell? ⟨gb149, 2, none⟩ = some (.int .i64 x150002_1) := (blk_cell BK149.out 2).trans rfl
          have hfz41_0 := blk_frozen BK149.out 0
          have hfz41_1 := blk_frozen BK149.out 1
          have hfz41_2 := blk_frozen BK149.out 2
          go_wp2
          refine bodyPost_ret (results_ct rfl _ _ gb149 23 #[.int .i64 0, .int .i64 0, .int .i64 0] (0, 0) _ rfl (by (with_reducible repeat (first | refine blk_drewN ?_ _ | refine blk_drew ?_ | refine blk_alloc ?_ _)); refine blk_put (cs := #[.int .i64 0, .int .i64 0, .int .i64 x150002_1]) ?_ 2 _ rfl; (with_reducible repeat (first | refine blk_drewN ?_ _ | refine blk_drew ?_ | refine blk_alloc ?_ _)); refine blk_put (cs := #[.int .i64 0, .int .i64 x150001_1, .int .i64 x150002_1]) ?_ 1 _ rfl; (with_reducible repeat (first | refine blk_drewN ?_ _ | refine blk_drew ?_ | refine blk_alloc ?_ _)); refine blk_put (cs := #[.int .i64 x150000_1, .int .i64 x150001_1, .int .i64 x150002_1]) ?_ 0 _ rfl; (with_reducible repeat (first | refine blk_drewN ?_ _ | refine blk_drew ?_ | refine blk_alloc ?_ _)); exact BK149.out) Tryd.underlying23 rfl (by kernel_rfl)) rfl ?_
          exact ⟨by first | rfl | (simp [errW_none, errW_some] <;> rfl) | (simp [*, errW_none, errW_some] <;> rfl), by repeat (first | (with_reducible first | exact HB.out | apply below_alloc | apply pw_below_drewN | apply below_drew1 | refine below_set ?_ GE149.out) | exact HB.out)⟩

/-! ### modcertref24_part: function 30 -/
def modcertref24_part.f (a0 : Int) : Option (Bool) := if a0 ≥ 0 then (some (decide (a0 ≤ 999))) else (some false)
set_option maxHeartbeats 8000000 in
set_option maxRecDepth 100000 in
theorem modcertref24_part.calls (a0 : Int) (r : Bool) (w : World) (h : modcertref24_part.f a0 = some r) :
    Calls Tryd.prog 30 #[.int .i64 a0] w fun e w' => e = .returned (.bool r) ∧ Drawn0 w w' := by
  have H : (if a0 ≥ 0 then (some (decide (a0 ≤ 999))) else (some false)) = some r := h
  clear h
  by_cases c2 : a0 ≥ 0
  · rw [if_pos c2] at H
    have c2b0 : decide (0 ≤ a0) = true := decide_eq_true c2
    clear c2
    obtain rfl := Option.some.inj H
    go_enter Tryd.func30, Tryd.ntmps30
    go_wp2
    go_ret
    exact ⟨by first | rfl | (simp; done) | (simp [*]; done), by repeat (first | exact Drawn0.refl _ | apply Drawn0.step)⟩
  · rw [if_neg c2] at H
    have c2b0 : decide (0 ≤ a0) = false := decide_eq_false c2
    clear c2
    obtain rfl := Option.some.inj H
    go_enter Tryd.func30, Tryd.ntmps30
    go_wp2
    go_ret
    exact ⟨by first | rfl | (simp; done) | (simp [*]; done), by repeat (first | exact Drawn0.refl _ | apply Drawn0.step)⟩

/-! ### modcertref24_Valid: function 14 -/
def modcertref24_Valid.f (a0_0 : Int) (a0_1 : Int) (a0_2 : Int) : Option (Bool) := (modcertref24_part.f a0_0).bind fun t160 => (if t160 = true then ((modcertref24_part.f a0_1).bind fun t161 => (if t161 = true then ((modcertref24_part.f a0_2).bind fun t162 => (some t162)) else (some false))) else (some false))
set_option maxHeartbeats 8000000 in
set_option maxRecDepth 100000 in
theorem modcertref24_Valid.calls (a0_0 : Int) (a0_1 : Int) (a0_2 : Int) (r : Bool) (w : World) (h : modcertref24_Valid.f a0_0 a0_1 a0_2 = some r) :
    Calls Tryd.prog 14 #[.agg #[.int .i64 a0_0, .int .i64 a0_1, .int .i64 a0_2]] w fun e w' => e = .returned (.bool r) ∧ Below w.heap.size w w' := by
  have hu23 := Tryd.underlying23
  have HB := Aside0.mk (Below.refl w.heap.size w)
  have H : ((modcertref24_part.f a0_0).bind fun t160 => (if t160 = true then ((modcertref24_part.f a0_1).bind fun t161 => (if t161 = true then ((modcertref24_part.f a0_2).bind fun t162 => (some t162)) else (some false))) else (some false))) = some r := h
  clear h
  replace H := Option.bind_eq_some_iff.mp H
  obtain ⟨t160, A20, H⟩ := H
  replace H : (if t160 = true then ((modcertref24_part.f a0_1).bind fun t161 => (if t161 = true then ((modcertref24_part.f a0_2).bind fun t162 => (some t162)) else (some false))) else (some false)) = some r := H
  have A2 := Aside0.mk A20
  clear A20
  by_cases c3 : t160 = true
  · subst c3
    have H1 : ((modcertref24_part.f a0_1).bind fun t161 => (if t161 = true then ((modcertref24_part.f a0_2).bind fun t162 => (some t162)) else (some false))) = some r := by rw [if_pos rfl] at H; exact H
    clear H
    have H := H1
    clear H1
    replace H := Option.bind_eq_some_iff.mp H
    obtain ⟨t161, A40, H⟩ := H
    replace H : (if t161 = true then ((modcertref24_part.f a0_2).bind fun t162 => (some t162)) else (some false)) = some r := H
    have A4 := Aside0.mk A40
    clear A40
    by_cases c5 : t161 = true
    · subst c5
      have H1 : ((modcertref24_part.f a0_2).bind fun t162 => (some t162)) = some r := by rw [if_pos rfl] at H; exact H
      clear H
      have H := H1
      clear H1
      replace H := Option.bind_eq_some_iff.mp H
      obtain ⟨t162, A60, H⟩ := H
      replace H : (some t162) = some r := H
      have A6 := Aside0.mk A60
      clear A60
      obtain rfl := Option.some.inj H
      go_enter Tryd.func14, Tryd.ntmps14
      go_wp2_with (first | ((with_reducible refine gate_dst (N := 1) rfl ?_); refine box_event ?hg (N := 1) ?hd (cs := #[.int .i64 a0_0, .int .i64 a0_1, .int .i64 a0_2]) (t := 23) ?hr ?_; (case hd => rfl); (case hg => rfl); (case hr => first | (go_simp; done) | (go_simp; rfl)); intro gb159 hg w7 hbox hb; have n0_ := Aside0.mk (below_step (by repeat (first | (with_reducible first | exact HB.out | apply below_alloc | apply pw_below_drewN | apply below_drew1) | exact HB.out)) hb); have n1_ := Aside0.mk (hbox); have n2_ := Aside0.mk ((by rw [hg]; exact (below_size (by repeat (first | (with_reducible first | exact HB.out | apply below_alloc | apply pw_below_drewN | apply below_drew1) | exact HB.out))) : w.heap.size ≤ gb159)); have n3_ := Aside0.mk ((by rw [hg]; exact (below_size (by repeat (first | (with_reducible first | exact HB.out | apply below_alloc | apply pw_below_drewN | apply below_drew1) | exact HB.out))) : w.heap.size ≤ gb159)); clear HB; have HB := n0_; have BK159 := n1_; have GW159 := n2_; have GE159 := n3_; clear n0_ n1_ n2_ n3_; clear hb hbox hg; have hcz8_0 : w7.cell? ⟨gb159, 0, none⟩ = some (.int .i64 a0_0) := (blk_cell BK159.out 0).trans rfl; have hcz8_1 : w7.cell? ⟨gb159, 1, none⟩ = some (.int .i64 a0_1) := (blk_cell BK159.out 1).trans rfl; have hcz8_2 : w7.cell? ⟨gb159, 2, none⟩ = some (.int .i64 a0_2) := (blk_cell BK159.out 2).trans rfl; have hfz8_0 := blk_frozen BK159.out 0; have hfz8_1 := blk_frozen BK159.out 1; have hfz8_2 := blk_frozen BK159.out 2) | ((with_reducible refine gate_callee (f := 30) rfl ?_); refine goesL_ (some 5) rfl rfl Tryd.func30 (by kernel_rfl) rfl #[.int .i64 a0_0] rfl (by (try simp only [List.map_toArray, List.map_cons, List.map_nil]); first | done | rfl | (simp only [List.length_drop, List.length_take]; rfl)) ?_; (with_reducible refine (modcertref24_part.calls a0_0 true _ A2.out).mono ?_); rintro e w' ⟨rfl, ⟨nd, rfl⟩⟩; refine ⟨_, rfl, ?_⟩) | (go_at_call 30; (with_reducible refine (modcertref24_part.calls a0_1 true _ A4.out).mono ?_); rintro e w' ⟨rfl, ⟨nd, rfl⟩⟩) | (go_at_call 30; (with_reducible refine (modcertref24_part.calls a0_2 t162 _ A6.out).mono ?_); rintro e w' ⟨rfl, ⟨nd, rfl⟩⟩))
      go_ret
      exact ⟨by first | rfl | (simp [errW_none, errW_some] <;> rfl) | (simp [*, errW_none, errW_some] <;> rfl), by repeat (first | (with_reducible first | exact HB.out | apply below_alloc | apply pw_below_drewN | apply below_drew1 | refine below_set ?_ GE159.out) | exact HB.out)⟩
    · replace c5 := Bool.eq_false_iff.mpr c5
      subst c5
      have H1 : (some false) = some r := by rw [if_neg (show ¬ (false = true) by decide)] at H; exact H
      clear H
      have H := H1
      clear H1
      obtain rfl := Option.some.inj H
      go_enter Tryd.func14, Tryd.ntmps14
      go_wp2_with (first | ((with_reducible refine gate_dst (N := 1) rfl ?_); refine box_event ?hg (N := 1) ?hd (cs := #[.int .i64 a0_0, .int .i64 a0_1, .int .i64 a0_2]) (t := 23) ?hr ?_; (case hd => rfl); (case hg => rfl); (case hr => first | (go_simp; done) | (go_simp; rfl)); intro gb159 hg w9 hbox hb; have n0_ := Aside0.mk (below_step (by repeat (first | (with_reducible first | exact HB.out | apply below_alloc | apply pw_below_drewN | apply below_drew1) | exact HB.out)) hb); have n1_ := Aside0.mk (hbox); have n2_ := Aside0.mk ((by rw [hg]; exact (below_size (by repeat (first | (with_reducible first | exact HB.out | apply below_alloc | apply pw_below_drewN | apply below_drew1) | exact HB.out))) : w.heap.size ≤ gb159)); have n3_ := Aside0.mk ((by rw [hg]; exact (below_size (by repeat (first | (with_reducible first | exact HB.out | apply below_alloc | apply pw_below_drewN | apply below_drew1) | exact HB.out))) : w.heap.size ≤ gb159)); clear HB; have HB := n0_; have BK159 := n1_; have GW159 := n2_; have GE159 := n3_; clear n0_ n1_ n2_ n3_; clear hb hbox hg; have hcz10_0 : w9.cell? ⟨gb159, 0, none⟩ = some (.int .i64 a0_0) := (blk_cell BK159.out 0).trans rfl; have hcz10_1 : w9.cell? ⟨gb159, 1, none⟩ = some (.int .i64 a0_1) := (blk_cell BK159.out 1).trans rfl; have hcz10_2 : w9.cell? ⟨gb159, 2, none⟩ = some (.int .i64 a0_2) := (blk_cell BK159.out 2).trans rfl; have hfz10_0 := blk_frozen BK159.out 0; have hfz10_1 := blk_frozen BK159.out 1; have hfz10_2 := blk_frozen BK159.out 2) | ((with_reducible refine gate_callee (f := 30) rfl ?_); refine goesL_ (some 5) rfl rfl Tryd.func30 (by kernel_rfl) rfl #[.int .i64 a0_0] rfl (by (try simp only [List.map_toArray, List.map_cons, List.map_nil]); first | done | rfl | (simp only [List.length_drop, List.length_take]; rfl)) ?_; (with_reducible refine (modcertref24_part.calls a0_0 true _ A2.out).mono ?_); rintro e w' ⟨rfl, ⟨nd, rfl⟩⟩; refine ⟨_, rfl, ?_⟩) | (go_at_call 30; (with_reducible refine (modcertref24_part.calls a0_1 false _ A4.out).mono ?_); rintro e w' ⟨rfl, ⟨nd, rfl⟩⟩))
      go_ret
      exact ⟨by first | rfl | (simp [errW_none, errW_some] <;> rfl) | (simp [*, errW_none, errW_some] <;> rfl), by repeat (first | (with_reducible first | exact HB.out | apply below_alloc | apply pw_below_drewN | apply below_drew1 | refine below_set ?_ GE159.out) | exact HB.out)⟩
  · replace c3 := Bool.eq_false_iff.mpr c3
    subst c3
    have H1 : (some false) = some r := by rw [if_neg (show ¬ (false = true) by decide)] at H; exact H
    clear H
    have H := H1
    clear H1
    obtain rfl := Option.some.inj H
    go_enter Tryd.func14, Tryd.ntmps14
    go_wp2_with (first | ((with_reducible refine gate_dst (N := 1) rfl ?_); refine box_event ?hg (N := 1) ?hd (cs := #[.int .i64 a0_0, .int .i64 a0_1, .int .i64 a0_2]) (t := 23) ?hr ?_; (case hd => rfl); (case hg => rfl); (case hr => first | (go_simp; done) | (go_simp; rfl)); intro gb159 hg w11 hbox hb; have n0_ := Aside0.mk (below_step (by repeat (first | (with_reducible first | exact HB.out | apply below_alloc | apply pw_below_drewN | apply below_drew1) | exact HB.out)) hb); have n1_ := Aside0.mk (hbox); have n2_ := Aside0.mk ((by rw [hg]; exact (below_size (by repeat (first | (with_reducible first | exact HB.out | apply below_alloc | apply pw_below_drewN | apply below_drew1) | exact HB.out))) : w.heap.size ≤ gb159)); have n3_ := Aside0.mk ((by rw [hg]; exact (below_size (by repeat (first | (with_reducible first | exact HB.out | apply below_alloc | apply pw_below_drewN | apply below_drew1) | exact HB.out))) : w.heap.size ≤ gb159)); clear HB; have HB := n0_; have BK159 := n1_; have GW159 := n2_; have GE159 := n3_; clear n0_ n1_ n2_ n3_; clear hb hbox hg; have hcz12_0 : w11.cell? ⟨gb159, 0, none⟩ = some (.int .i64 a0_0) := (blk_cell BK159.out 0).trans rfl; have hcz12_1 : w11.cell? ⟨gb159, 1, none⟩ = some (.int .i64 a0_1) := (blk_cell BK159.out 1).trans rfl; have hcz12_2 : w11.cell? ⟨gb159, 2, none⟩ = some (.int .i64 a0_2) := (blk_cell BK159.out 2).trans rfl; have hfz12_0 := blk_frozen BK159.out 0; have hfz12_1 := blk_frozen BK159.out 1; have hfz12_2 := blk_frozen BK159.out 2) | ((with_reducible refine gate_callee (f := 30) rfl ?_); refine goesL_ (some 5) rfl rfl Tryd.func30 (by kernel_rfl) rfl #[.int .i64 a0_0] rfl (by (try simp only [List.map_toArray, List.map_cons, List.map_nil]); first | done | rfl | (simp only [List.length_drop, List.length_take]; rfl)) ?_; (with_reducible refine (modcertref24_part.calls a0_0 false _ A2.out).mono ?_); rintro e w' ⟨rfl, ⟨nd, rfl⟩⟩; refine ⟨_, rfl, ?_⟩))
    go_ret
    exact ⟨by first | rfl | (simp [errW_none, errW_some] <;> rfl) | (simp [*, errW_none, errW_some] <;> rfl), by repeat (first | (with_reducible first | exact HB.out | apply below_alloc | apply pw_below_drewN | apply below_drew1 | refine below_set ?_ GE159.out) | exact HB.out)⟩

/-! ### modcertref24_decimal: function 29 -/
def modcertref24_decimal.f : Nat → Int → Option (ByteArray)
  | 0, _ => none
  | k + 1, a0 => if a0 < 10 then (some (strOfNums (([(wrap64 (48 + a0)) % 256] : List Int)))) else ((modcertref24_decimal.f k (wrap64 (Int.tdiv a0 10))).bind fun t166 => ((modcertref24_decimal.f k (Int.tmod a0 10)).bind fun t167 => (if t166.size + t167.size ≤ 9223372036854775807 then (some (t166 ++ t167)) else (none))))
theorem modcertref24_decimal.mono_l : ∀ k, (∀ y0, LeO (modcertref24_decimal.f k y0) (modcertref24_decimal.f (k + 1) y0))
  | 0 => fun _ r h => by simp [modcertref24_decimal.f] at h
  | k + 1 => by
    have ih0 := modcertref24_decimal.mono_l k
    · intro y0
      unfold modcertref24_decimal.f
      repeat' first
      | (with_reducible exact ih0 _)
      | (with_reducible exact LeO.refl _)
      | (with_reducible exact LeO.none _)
      | (with_reducible refine LeO.ite ?_ ?_)
      | (with_reducible refine LeO.bind ?_ (fun _ => ?_))
      | exact ih0 _
      | exact LeO.none _
      | refine LeO.ite ?_ ?_
      | refine LeO.bind ?_ (fun _ => ?_)
theorem modcertref24_decimal.mono : ∀ a0 k, LeO (modcertref24_decimal.f k a0) (modcertref24_decimal.f (k + 1) a0) := by
  intro a0 k
  have ih0 := modcertref24_decimal.mono_l k
  exact ih0 a0
set_option maxHeartbeats 8000000 in
set_option maxRecDepth 100000 in
theorem modcertref24_decimal.calls (k : Nat) : ∀ (a0 : Int) (r : ByteArray) (w : World) (h : modcertref24_decimal.f k a0 = some r),
    Calls Tryd.prog 29 #[.int .i64 a0] w fun e w' => e = .returned (.string r) ∧ Below w.heap.size w w' := by
  induction k using Nat.strongRecOn with
  | _ k ih =>
  intro a0 r w h
  cases k with
  | zero => exact absurd h (by simp [modcertref24_decimal.f])
  | succ k =>
  simp only [modcertref24_decimal.f] at h
  have HB := Aside0.mk (Below.refl w.heap.size w)
  have H : (if a0 < 10 then (some (strOfNums (([(wrap64 (48 + a0)) % 256] : List Int)))) else ((modcertref24_decimal.f k (wrap64 (Int.tdiv a0 10))).bind fun t166 => ((modcertref24_decimal.f k (Int.tmod a0 10)).bind fun t167 => (if t166.size + t167.size ≤ 9223372036854775807 then (some (t166 ++ t167)) else (none))))) = some r := h
  clear h
  by_cases c2 : a0 < 10
  · rw [if_pos c2] at H
    have c2b0 : decide (a0 < 10) = true := decide_eq_true c2
    clear c2
    obtain ⟨y163, hy163⟩ : ∃ y_ : List Int, y_ = (([(wrap64 (48 + a0)) % 256] : List Int)) := ⟨_, rfl⟩
    replace H : (some (strOfNums y163)) = some r := by first | (rw [hy163]; with_reducible exact H) | (have H2_ := (Option.bind_some _ _).symm.trans H; rw [hy163]; with_reducible exact H2_) | (have H2_ := (Option.bind_some _ _).symm.trans H; with_reducible exact H2_) | with_reducible exact H | (rw [hy163]; exact H) | exact H
    have Ny163 := Aside0.mk hy163
    clear hy163
    obtain rfl := Option.some.inj H
    go_enter Tryd.func29, Tryd.ntmps29
    go_wp2_with (first | ((with_reducible refine gate_dst (N := 8) rfl ?_); refine Kd.R_lit (Kd.int .u8) _ 5 ?hg (N := 8) ?hd (xs := ([(wrap64 (48 + a0)) % 256] : List Int)) (inner := [.int .u8 ((wrap64 (48 + a0)) % 256)]) (ok := fun _ => True) (okp := fun _ => True) ?hr ?hp (fun _ hk => hk) trivial (Below.refl _ _) (Nat.le_refl _) (by simp) ?_; (case hd => rfl); (case hg => rfl); (case hr => first | (go_simp; done) | (go_simp; rfl)); (case hp => exact (Reps.one (show Kd.M (Kd.int .u8) _ _ _ ((wrap64 (48 + a0)) % 256) [.int .u8 ((wrap64 (48 + a0)) % 256)] from rfl) (Reps.none _ _))); intro v164 w3 ho4 hb hg_ hnew_; clear hg_ hnew_; (first | rw [← Ny163.out] at ho4 | (simp only [Int.reduceToNat] at ho4; rw [← Ny163.out] at ho4)); have n0_ := Aside0.mk (Kd.R_lower ho4 (below_size (by repeat (first | (with_reducible first | exact HB.out | apply below_alloc | apply pw_below_drewN | apply below_drew1) | exact HB.out)))); have n1_ := Aside0.mk (below_step (by repeat (first | (with_reducible first | exact HB.out | apply below_alloc | apply pw_below_drewN | apply below_drew1) | exact HB.out)) hb); clear HB; have HO165 := n0_; have HB := n1_; clear n0_ n1_; clear hb ho4; have hcv5 := own_string (P := Tryd.prog) Tryd.underlying69 Tryd.underlying5 Tryd.underlying9 (Kd.own_of_R HO165.out)))
    go_ret
    exact ⟨by first | rfl | (simp [errW_none, errW_some] <;> rfl) | (simp [*, errW_none, errW_some] <;> rfl), by repeat (first | (with_reducible first | exact HB.out | apply below_alloc | apply pw_below_drewN | apply below_drew1) | exact HB.out)⟩
  · rw [if_neg c2] at H
    have c2b0 : decide (a0 < 10) = false := decide_eq_false c2
    clear c2
    replace H := Option.bind_eq_some_iff.mp H
    obtain ⟨t166, A60, H⟩ := H
    replace H : ((modcertref24_decimal.f k (Int.tmod a0 10)).bind fun t167 => (if t166.size + t167.size ≤ 9223372036854775807 then (some (t166 ++ t167)) else (none))) = some r := H
    have A6 := Aside0.mk A60
    clear A60
    replace H := Option.bind_eq_some_iff.mp H
    obtain ⟨t167, A70, H⟩ := H
    replace H : (if t166.size + t167.size ≤ 9223372036854775807 then (some (t166 ++ t167)) else (none)) = some r := H
    have A7 := Aside0.mk A70
    clear A70
    by_cases c8 : t166.size + t167.size ≤ 9223372036854775807
    · rw [if_pos c8] at H
      have c8b0 := eq_true c8
      have c8b1 : decide (t166.size + t167.size ≤ 9223372036854775807) = true := decide_eq_true c8
      try have c8b2 : (9223372036854775807 < t166.size + t167.size) = False := eq_false (Nat.not_lt.2 c8)
      obtain rfl := Option.some.inj H
      go_enter Tryd.func29, Tryd.ntmps29
      go_wp2_with (first | ((with_reducible refine gate_callee (f := 29) rfl ?_); refine goesL_ (some 12) rfl rfl Tryd.func29 (by kernel_rfl) rfl #[.int .i64 (wrap64 (Int.tdiv a0 10))] rfl (by (try simp only [List.map_toArray, List.map_cons, List.map_nil]); first | done | rfl | (simp only [List.length_drop, List.length_take]; rfl)) ?_; (with_reducible refine (ih k (by omega) (wrap64 (Int.tdiv a0 10)) t166 _ A6.out).mono ?_); rintro e w9 ⟨rfl, hb⟩; refine ⟨_, rfl, ?_⟩; have n0_ := Aside0.mk (below_step (by repeat (first | (with_reducible first | exact HB.out | apply below_alloc | apply pw_below_drewN | apply below_drew1) | exact HB.out)) hb); clear HB; have HB := n0_; clear n0_; (try clear hb); (try clear hb2); (try clear hk); (try clear hi)) | ((with_reducible refine gate_callee (f := 29) rfl ?_); refine goesL_ (some 15) rfl rfl Tryd.func29 (by kernel_rfl) rfl #[.int .i64 (Int.tmod a0 10)] rfl (by (try simp only [List.map_toArray, List.map_cons, List.map_nil]); first | done | rfl | (simp only [List.length_drop, List.length_take]; rfl)) ?_; (with_reducible refine (ih k (by omega) (Int.tmod a0 10) t167 _ A7.out).mono ?_); rintro e w10 ⟨rfl, hb⟩; refine ⟨_, rfl, ?_⟩; have n0_ := Aside0.mk (below_step (by repeat (first | (with_reducible first | exact HB.out | apply below_alloc | apply pw_below_drewN | apply below_drew1) | exact HB.out)) hb); clear HB; have HB := n0_; clear n0_; (try clear hb); (try clear hb2); (try clear hk); (try clear hi)))
      go_ret
      exact ⟨by first | rfl | (simp [errW_none, errW_some] <;> rfl) | (simp [*, errW_none, errW_some] <;> rfl), by repeat (first | (with_reducible first | exact HB.out | apply below_alloc | apply pw_below_drewN | apply below_drew1) | exact HB.out)⟩
    · rw [if_neg c8] at H
      exact absurd H (by simp)

end Go.Proofs.YtdccbpeajpnkjaaDoor.Pr
