/- Printed by a program of this work's own (wip/myprint.py) for these statements: functions of the program as Lean functions, and proofs that a call of the Go function returns just what the Lean function tells; conditions: where the Lean function tells 'some'. -/
import Derived.Test.YtdccbpeajpnkjaaDoorPr0
import Derived.Test.YtdccbpeajpnkjaaDoorPr1
import Derived.Test.YtdccbpeajpnkjaaDoorExtE
import Derived.Test.YtdccbpeajpnkjaaDoorExtM
import Derived.Test.YtdccbpeajpnkjaaDoorExtV
import Derived.Test.YtdccbpeajpnkjaaDoorGlob
namespace Go.Proofs.YtdccbpeajpnkjaaDoor.Pr
open Go.RowKit Go.Proofs.YtdccbpeajpnkjaaDoorW.PrintWords Go.Proofs.YtdccbpeajpnkjaaDoorW.PrintLast Go.Proofs.YtdccbpeajpnkjaaDoorW.PrintMore
attribute [local go_sem] max2_int min2_int max_two min_two max_three min_three max_four min_four   -- for this text's walks alone
set_option linter.unusedVariables false
set_option linter.unusedSimpArgs false

attribute [local go_sem high] eqA23
/-! ### modcertlaw24_VersionOrder: function 5 -/
mutual
def modcertlaw24_VersionOrder.j0 : Nat → List (S23) → Bool → Option (Bool)
  | 0, _, _ => none
  | k + 1, x3, x76 => if x76 = true then (some false) else ((version_Latest.f x3).bind fun bt246 => (if bt246.2.2.2 = true then (modcertlaw24_VersionOrder.l0 k false x3 (x3.length : Int) 0 bt246.1 bt246.2.1 bt246.2.2.1) else (some ((x3.length : Int) == 0))))
def modcertlaw24_VersionOrder.l0 : Nat → Bool → List (S23) → Int → Int → Int → Int → Int → Option (Bool)
  | 0, _, _, _, _, _, _, _ => none
  | k + 1, x14, x87, x88, x89, x251000, x251001, x251002 => if x89 < x88 then (if 0 ≤ x89 then (if x89 < (x87.length : Int) then (if x14 = true then ((version_Compare.f ((rd_T23 x87 x89).f0) ((rd_T23 x87 x89).f1) ((rd_T23 x87 x89).f2) x251000 x251001 x251002).bind fun t253 => (if t253 > 0 then (some false) else (modcertlaw24_VersionOrder.l0 k true x87 x88 (wrap64 (x89 + 1)) x251000 x251001 x251002))) else ((version_Compare.f ((rd_T23 x87 x89).f0) ((rd_T23 x87 x89).f1) ((rd_T23 x87 x89).f2) x251000 x251001 x251002).bind fun t254 => (if t254 > 0 then (some false) else (modcertlaw24_VersionOrder.l0 k (((rd_T23 x87 x89).f0) == x251000 && (((rd_T23 x87 x89).f1) == x251001 && (((rd_T23 x87 x89).f2) == x251002))) x87 x88 (wrap64 (x89 + 1)) x251000 x251001 x251002)))) else (none)) else (none)) else (some x14)
end
def modcertlaw24_VersionOrder.f (k : Nat) (a0_0 : Int) (a0_1 : Int) (a0_2 : Int) (a1_0 : Int) (a1_1 : Int) (a1_2 : Int) (a2_0 : Int) (a2_1 : Int) (a2_2 : Int) (l3 : List (S23)) : Option (Bool) := (modcertlaw24_awake.f).bind fun t241 => (if t241 = true then (if (l3.length : Int) > 40 then (some true) else ((version_Compare.f a0_0 a0_1 a0_2 a1_0 a1_1 a1_2).bind fun t242 => ((version_Compare.f a1_0 a1_1 a1_2 a2_0 a2_1 a2_2).bind fun t243 => ((version_Compare.f a0_0 a0_1 a0_2 a2_0 a2_1 a2_2).bind fun t244 => (if t242 < (-1) then (modcertlaw24_VersionOrder.j0 k l3 true) else (if t242 > 1 then (modcertlaw24_VersionOrder.j0 k l3 true) else ((version_Compare.f a1_0 a1_1 a1_2 a0_0 a0_1 a0_2).bind fun t245 => (if t245 = (wrap64 (-t242)) then (if ((t242 == 0) != (a0_0 == a1_0 && (a0_1 == a1_1 && (a0_2 == a1_2)))) = true then (modcertlaw24_VersionOrder.j0 k l3 true) else (if t242 ≤ 0 then (if t243 ≤ 0 then (if t244 > 0 then (modcertlaw24_VersionOrder.j0 k l3 true) else (if t242 ≥ 0 then (if t243 ≥ 0 then (modcertlaw24_VersionOrder.j0 k l3 (decide (t244 < 0))) else (modcertlaw24_VersionOrder.j0 k l3 false)) else (modcertlaw24_VersionOrder.j0 k l3 false))) else (if t242 ≥ 0 then (if t243 ≥ 0 then (modcertlaw24_VersionOrder.j0 k l3 (decide (t244 < 0))) else (modcertlaw24_VersionOrder.j0 k l3 false)) else (modcertlaw24_VersionOrder.j0 k l3 false))) else (if t242 ≥ 0 then (if t243 ≥ 0 then (modcertlaw24_VersionOrder.j0 k l3 (decide (t244 < 0))) else (modcertlaw24_VersionOrder.j0 k l3 false)) else (modcertlaw24_VersionOrder.j0 k l3 false)))) else (modcertlaw24_VersionOrder.j0 k l3 true))))))))) else (some false))
theorem modcertlaw24_VersionOrder.mono_l : ∀ k, (∀ y0 y1, LeO (modcertlaw24_VersionOrder.j0 k y0 y1) (modcertlaw24_VersionOrder.j0 (k + 1) y0 y1)) ∧ (∀ y0 y1 y2 y3 y4 y5 y6, LeO (modcertlaw24_VersionOrder.l0 k y0 y1 y2 y3 y4 y5 y6) (modcertlaw24_VersionOrder.l0 (k + 1) y0 y1 y2 y3 y4 y5 y6))
  | 0 => ⟨fun _ _ r h => by simp [modcertlaw24_VersionOrder.j0] at h, fun _ _ _ _ _ _ _ r h => by simp [modcertlaw24_VersionOrder.l0] at h⟩
  | k + 1 => by
    obtain ⟨ih0, ih1⟩ := modcertlaw24_VersionOrder.mono_l k
    refine ⟨?_, ?_⟩
    · intro y0 y1
      unfold modcertlaw24_VersionOrder.j0
      repeat' first
      | (with_reducible exact ih0 _ _)
      | (with_reducible exact ih1 _ _ _ _ _ _ _)
      | (with_reducible exact LeO.refl _)
      | (with_reducible exact LeO.none _)
      | (with_reducible refine LeO.ite ?_ ?_)
      | (with_reducible refine LeO.bind ?_ (fun _ => ?_))
      | exact ih0 _ _
      | exact ih1 _ _ _ _ _ _ _
      | exact LeO.none _
      | refine LeO.ite ?_ ?_
      | refine LeO.bind ?_ (fun _ => ?_)
    · intro y0 y1 y2 y3 y4 y5 y6
      unfold modcertlaw24_VersionOrder.l0
      repeat' first
      | (with_reducible exact ih0 _ _)
      | (with_reducible exact ih1 _ _ _ _ _ _ _)
      | (with_reducible exact LeO.refl _)
      | (with_reducible exact LeO.none _)
      | (with_reducible refine LeO.ite ?_ ?_)
      | (with_reducible refine LeO.bind ?_ (fun _ => ?_))
      | exact ih0 _ _
      | exact ih1 _ _ _ _ _ _ _
      | exact LeO.none _
      | refine LeO.ite ?_ ?_
      | refine LeO.bind ?_ (fun _ => ?_)
theorem modcertlaw24_VersionOrder.mono : ∀ a0 a1 a2 a3 a4 a5 a6 a7 a8 a9 k, LeO (modcertlaw24_VersionOrder.f k a0 a1 a2 a3 a4 a5 a6 a7 a8 a9) (modcertlaw24_VersionOrder.f (k + 1) a0 a1 a2 a3 a4 a5 a6 a7 a8 a9) := by
  intro a0 a1 a2 a3 a4 a5 a6 a7 a8 a9 k
  obtain ⟨ih0, ih1⟩ := modcertlaw24_VersionOrder.mono_l k
  unfold modcertlaw24_VersionOrder.f
  repeat' first
      | (with_reducible exact ih0 _ _)
      | (with_reducible exact ih1 _ _ _ _ _ _ _)
      | (with_reducible exact LeO.refl _)
      | (with_reducible exact LeO.none _)
      | (with_reducible refine LeO.ite ?_ ?_)
      | (with_reducible refine LeO.bind ?_ (fun _ => ?_))
      | exact ih0 _ _
      | exact ih1 _ _ _ _ _ _ _
      | exact LeO.none _
      | refine LeO.ite ?_ ?_
      | refine LeO.bind ?_ (fun _ => ?_)
def modcertlaw24_VersionOrder.T5 : Bool × List (List Nat × List Nat) := (true, [([], []), ([], []), ([0, 1], [0, 1]), ([], []), ([], []), ([3, 4, 2], [3, 4]), ([], []), ([], []), ([6, 7, 5], [6, 7]), ([2, 8, 0, 1, 2], [2]), ([5, 9, 0, 1, 2, 3, 4, 5, 9], [5]), ([8, 10, 0, 1, 2, 3, 4, 5, 6, 7, 8, 9, 10], [8])])
def modcertlaw24_VersionOrder.B5 : List Nat := [0, 0, 3, 0, 0, 31, 0, 0, 255, 511, 1023, 2047]
theorem modcertlaw24_VersionOrder.tab5 : rtab .any (opsOf Tryd.f5 5) = modcertlaw24_VersionOrder.T5 := by kernel_rfl
theorem modcertlaw24_VersionOrder.bits5 : waitsOk modcertlaw24_VersionOrder.T5.2 modcertlaw24_VersionOrder.B5 = true := by kernel_rfl
set_option maxHeartbeats 8000000 in
set_option maxRecDepth 100000 in
theorem modcertlaw24_VersionOrder.calls (k : Nat) (a0_0 : Int) (a0_1 : Int) (a0_2 : Int) (a1_0 : Int) (a1_1 : Int) (a1_2 : Int) (a2_0 : Int) (a2_1 : Int) (a2_2 : Int) (A3 : Option Addr) (c3 : Nat) (l3 : List (S23)) (r : Bool) (w : World) (hr3 : Kd.C k23 w A3 l3.length l3) (hc3 : l3.length ≤ c3) (h : modcertlaw24_VersionOrder.f k a0_0 a0_1 a0_2 a1_0 a1_1 a1_2 a2_0 a2_1 a2_2 l3 = some r) (hG : Gd w) (hr : r = true)  :
    Calls Tryd.prog 5 #[.agg #[.int .i64 a0_0, .int .i64 a0_1, .int .i64 a0_2], .agg #[.int .i64 a1_0, .int .i64 a1_1, .int .i64 a1_2], .agg #[.int .i64 a2_0, .int .i64 a2_1, .int .i64 a2_2], .slice A3 l3.length c3] w fun e w' => e = .returned (.bool r) ∧ Below w.heap.size w w' := by
  have HG := Aside0.mk hG
  clear hG
  have HR := Aside0.mk hr
  clear hr
  have hu23 := Tryd.underlying23
  have HR3 := Aside0.mk hr3
  have HC3 := Aside0.mk hc3
  clear hr3 hc3
  have HB := Aside0.mk (Below.refl w.heap.size w)
  have H : ((modcertlaw24_awake.f).bind fun t241 => (if t241 = true then (if (l3.length : Int) > 40 then (some true) else ((version_Compare.f a0_0 a0_1 a0_2 a1_0 a1_1 a1_2).bind fun t242 => ((version_Compare.f a1_0 a1_1 a1_2 a2_0 a2_1 a2_2).bind fun t243 => ((version_Compare.f a0_0 a0_1 a0_2 a2_0 a2_1 a2_2).bind fun t244 => (if t242 < (-1) then (modcertlaw24_VersionOrder.j0 k l3 true) else (if t242 > 1 then (modcertlaw24_VersionOrder.j0 k l3 true) else ((version_Compare.f a1_0 a1_1 a1_2 a0_0 a0_1 a0_2).bind fun t245 => (if t245 = (wrap64 (-t242)) then (if ((t242 == 0) != (a0_0 == a1_0 && (a0_1 == a1_1 && (a0_2 == a1_2)))) = true then (modcertlaw24_VersionOrder.j0 k l3 true) else (if t242 ≤ 0 then (if t243 ≤ 0 then (if t244 > 0 then (modcertlaw24_VersionOrder.j0 k l3 true) else (if t242 ≥ 0 then (if t243 ≥ 0 then (modcertlaw24_VersionOrder.j0 k l3 (decide (t244 < 0))) else (modcertlaw24_VersionOrder.j0 k l3 false)) else (modcertlaw24_VersionOrder.j0 k l3 false))) else (if t242 ≥ 0 then (if t243 ≥ 0 then (modcertlaw24_VersionOrder.j0 k l3 (decide (t244 < 0))) else (modcertlaw24_VersionOrder.j0 k l3 false)) else (modcertlaw24_VersionOrder.j0 k l3 false))) else (if t242 ≥ 0 then (if t243 ≥ 0 then (modcertlaw24_VersionOrder.j0 k l3 (decide (t244 < 0))) else (modcertlaw24_VersionOrder.j0 k l3 false)) else (modcertlaw24_VersionOrder.j0 k l3 false)))) else (modcertlaw24_VersionOrder.j0 k l3 true))))))))) else (some false))) = some r := h
  clear h
  replace H := Option.bind_eq_some_iff.mp H
  obtain ⟨t241, A50, H⟩ := H
  replace H : (if t241 = true then (if (l3.length : Int) > 40 then (some true) else ((version_Compare.f a0_0 a0_1 a0_2 a1_0 a1_1 a1_2).bind fun t242 => ((version_Compare.f a1_0 a1_1 a1_2 a2_0 a2_1 a2_2).bind fun t243 => ((version_Compare.f a0_0 a0_1 a0_2 a2_0 a2_1 a2_2).bind fun t244 => (if t242 < (-1) then (modcertlaw24_VersionOrder.j0 k l3 true) else (if t242 > 1 then (modcertlaw24_VersionOrder.j0 k l3 true) else ((version_Compare.f a1_0 a1_1 a1_2 a0_0 a0_1 a0_2).bind fun t245 => (if t245 = (wrap64 (-t242)) then (if ((t242 == 0) != (a0_0 == a1_0 && (a0_1 == a1_1 && (a0_2 == a1_2)))) = true then (modcertlaw24_VersionOrder.j0 k l3 true) else (if t242 ≤ 0 then (if t243 ≤ 0 then (if t244 > 0 then (modcertlaw24_VersionOrder.j0 k l3 true) else (if t242 ≥ 0 then (if t243 ≥ 0 then (modcertlaw24_VersionOrder.j0 k l3 (decide (t244 < 0))) else (modcertlaw24_VersionOrder.j0 k l3 false)) else (modcertlaw24_VersionOrder.j0 k l3 false))) else (if t242 ≥ 0 then (if t243 ≥ 0 then (modcertlaw24_VersionOrder.j0 k l3 (decide (t244 < 0))) else (modcertlaw24_VersionOrder.j0 k l3 false)) else (modcertlaw24_VersionOrder.j0 k l3 false))) else (if t242 ≥ 0 then (if t243 ≥ 0 then (modcertlaw24_VersionOrder.j0 k l3 (decide (t244 < 0))) else (modcertlaw24_VersionOrder.j0 k l3 false)) else (modcertlaw24_VersionOrder.j0 k l3 false)))) else (modcertlaw24_VersionOrder.j0 k l3 true))))))))) else (some false)) = some r := H
  have A5 := Aside0.mk A50
  clear A50
  by_cases c6 : t241 = true
  · subst c6
    have H1 : (if (l3.length : Int) > 40 then (some true) else ((version_Compare.f a0_0 a0_1 a0_2 a1_0 a1_1 a1_2).bind fun t242 => ((version_Compare.f a1_0 a1_1 a1_2 a2_0 a2_1 a2_2).bind fun t243 => ((version_Compare.f a0_0 a0_1 a0_2 a2_0 a2_1 a2_2).bind fun t244 => (if t242 < (-1) then (modcertlaw24_VersionOrder.j0 k l3 true) else (if t242 > 1 then (modcertlaw24_VersionOrder.j0 k l3 true) else ((version_Compare.f a1_0 a1_1 a1_2 a0_0 a0_1 a0_2).bind fun t245 => (if t245 = (wrap64 (-t242)) then (if ((t242 == 0) != (a0_0 == a1_0 && (a0_1 == a1_1 && (a0_2 == a1_2)))) = true then (modcertlaw24_VersionOrder.j0 k l3 true) else (if t242 ≤ 0 then (if t243 ≤ 0 then (if t244 > 0 then (modcertlaw24_VersionOrder.j0 k l3 true) else (if t242 ≥ 0 then (if t243 ≥ 0 then (modcertlaw24_VersionOrder.j0 k l3 (decide (t244 < 0))) else (modcertlaw24_VersionOrder.j0 k l3 false)) else (modcertlaw24_VersionOrder.j0 k l3 false))) else (if t242 ≥ 0 then (if t243 ≥ 0 then (modcertlaw24_VersionOrder.j0 k l3 (decide (t244 < 0))) else (modcertlaw24_VersionOrder.j0 k l3 false)) else (modcertlaw24_VersionOrder.j0 k l3 false))) else (if t242 ≥ 0 then (if t243 ≥ 0 then (modcertlaw24_VersionOrder.j0 k l3 (decide (t244 < 0))) else (modcertlaw24_VersionOrder.j0 k l3 false)) else (modcertlaw24_VersionOrder.j0 k l3 false)))) else (modcertlaw24_VersionOrder.j0 k l3 true))))))))) = some r := by rw [if_pos rfl] at H; exact H
    clear H
    have H := H1
    clear H1
    by_cases c7 : (l3.length : Int) > 40
    · rw [if_pos c7] at H
      have c7b0 : decide (40 < (l3.length : Int)) = true := decide_eq_true c7
      have c7b1 : decide (40 < l3.length) = true := decide_eq_true (by omega)
      clear c7
      obtain rfl := Option.some.inj H
      go_enter Tryd.func5, Tryd.ntmps5
      go_wp2_with (first | ((with_reducible refine gate_dst (N := 4) rfl ?_); refine box_event ?hg (N := 4) ?hd (cs := #[.int .i64 a0_0, .int .i64 a0_1, .int .i64 a0_2]) (t := 23) ?hr ?_; (case hd => rfl); (case hg => rfl); (case hr => first | (go_simp; done) | (go_simp; rfl)); intro gb238 hg w8 hbox hb; have n0_ := Aside0.mk (below_step (by repeat (first | (with_reducible first | exact HB.out | apply below_alloc | apply pw_below_drewN | apply below_drew1) | exact HB.out)) hb); have n1_ := Aside0.mk (hbox); have n2_ := Aside0.mk ((by rw [hg]; exact (below_size (by repeat (first | (with_reducible first | exact HB.out | apply below_alloc | apply pw_below_drewN | apply below_drew1) | exact HB.out))) : w.heap.size ≤ gb238)); have n3_ := Aside0.mk ((by rw [hg]; exact (below_size (by repeat (first | (with_reducible first | exact HB.out | apply below_alloc | apply pw_below_drewN | apply below_drew1) | exact HB.out))) : w.heap.size ≤ gb238)); clear HB; have HB := n0_; have BK238 := n1_; have GW238 := n2_; have GE238 := n3_; clear n0_ n1_ n2_ n3_; clear hb hbox hg) | ((with_reducible refine gate_dst (N := 5) rfl ?_); refine box_event ?hg (N := 5) ?hd (cs := #[.int .i64 a1_0, .int .i64 a1_1, .int .i64 a1_2]) (t := 23) ?hr ?_; (case hd => rfl); (case hg => rfl); (case hr => first | (go_simp; done) | (go_simp; rfl)); intro gb239 hg w9 hbox hb; have n0_ := Aside0.mk (blk_below (g := gb238) (o := .cells #[.int .i64 a0_0, .int .i64 a0_1, .int .i64 a0_2] 23 (0, 0)) (by (with_reducible repeat (first | refine blk_drewN ?_ _ | refine blk_drew ?_ | refine blk_alloc ?_ _)); exact BK238.out) hb); have n1_ := Aside0.mk (below_step (by repeat (first | (with_reducible first | exact HB.out | apply below_alloc | apply pw_below_drewN | apply below_drew1 | refine below_set ?_ GE238.out) | exact HB.out)) hb); have n2_ := Aside0.mk (hbox); have n3_ := Aside0.mk ((by rw [hg]; exact (below_size (by repeat (first | (with_reducible first | exact HB.out | apply below_alloc | apply pw_below_drewN | apply below_drew1 | refine below_set ?_ GE238.out) | exact HB.out))) : w.heap.size ≤ gb239)); have n4_ := Aside0.mk ((by rw [hg]; exact (below_size (by repeat (first | (with_reducible first | exact HB.out | apply below_alloc | apply pw_below_drewN | apply below_drew1 | refine below_set ?_ GE238.out) | exact HB.out))) : w.heap.size ≤ gb239)); have n5_ := Aside0.mk ((by rw [hg]; exact Nat.ne_of_lt (blk_lt (g := gb238) (o := .cells #[.int .i64 a0_0, .int .i64 a0_1, .int .i64 a0_2] 23 (0, 0)) (by (with_reducible repeat (first | refine blk_drewN ?_ _ | refine blk_drew ?_ | refine blk_alloc ?_ _)); exact BK238.out)) : gb238 ≠ gb239)); have n6_ := Aside0.mk ((by rw [hg]; exact Nat.ne_of_gt (blk_lt (g := gb238) (o := .cells #[.int .i64 a0_0, .int .i64 a0_1, .int .i64 a0_2] 23 (0, 0)) (by (with_reducible repeat (first | refine blk_drewN ?_ _ | refine blk_drew ?_ | refine blk_alloc ?_ _)); exact BK238.out)) : gb239 ≠ gb238)); clear BK238; clear HB; have BK238 := n0_; have HB := n1_; have BK239 := n2_; have GW239 := n3_; have GE239 := n4_; have NB238_239 := n5_; have NB239_238 := n6_; clear n0_ n1_ n2_ n3_ n4_ n5_ n6_; clear hb hbox hg) | ((with_reducible refine gate_dst (N := 6) rfl ?_); refine box_event ?hg (N := 6) ?hd (cs := #[.int .i64 a2_0, .int .i64 a2_1, .int .i64 a2_2]) (t := 23) ?hr ?_; (case hd => rfl); (case hg => rfl); (case hr => first | (go_simp; done) | (go_simp; rfl)); intro gb240 hg w10 hbox hb; have n0_ := Aside0.mk (blk_below (g := gb238) (o := .cells #[.int .i64 a0_0, .int .i64 a0_1, .int .i64 a0_2] 23 (0, 0)) (by (with_reducible repeat (first | refine blk_drewN ?_ _ | refine blk_drew ?_ | refine blk_alloc ?_ _)); exact BK238.out) hb); have n1_ := Aside0.mk (blk_below (g := gb239) (o := .cells #[.int .i64 a1_0, .int .i64 a1_1, .int .i64 a1_2] 23 (0, 0)) (by (with_reducible repeat (first | refine blk_drewN ?_ _ | refine blk_drew ?_ | refine blk_alloc ?_ _)); exact BK239.out) hb); have n2_ := Aside0.mk (below_step (by repeat (first | (with_reducible first | exact HB.out | apply below_alloc | apply pw_below_drewN | apply below_drew1 | refine below_set ?_ GE238.out | refine below_set ?_ GE239.out) | exact HB.out)) hb); have n3_ := Aside0.mk (hbox); have n4_ := Aside0.mk ((by rw [hg]; exact (below_size (by repeat (first | (with_reducible first | exact HB.out | apply below_alloc | apply pw_below_drewN | apply below_drew1 | refine below_set ?_ GE238.out | refine below_set ?_ GE239.out) | exact HB.out))) : w.heap.size ≤ gb240)); have n5_ := Aside0.mk ((by rw [hg]; exact (below_size (by repeat (first | (with_reducible first | exact HB.out | apply below_alloc | apply pw_below_drewN | apply below_drew1 | refine below_set ?_ GE238.out | refine below_set ?_ GE239.out) | exact HB.out))) : w.heap.size ≤ gb240)); have n6_ := Aside0.mk ((by rw [hg]; exact Nat.ne_of_lt (blk_lt (g := gb238) (o := .cells #[.int .i64 a0_0, .int .i64 a0_1, .int .i64 a0_2] 23 (0, 0)) (by (with_reducible repeat (first | refine blk_drewN ?_ _ | refine blk_drew ?_ | refine blk_alloc ?_ _)); exact BK238.out)) : gb238 ≠ gb240)); have n7_ := Aside0.mk ((by rw [hg]; exact Nat.ne_of_gt (blk_lt (g := gb238) (o := .cells #[.int .i64 a0_0, .int .i64 a0_1, .int .i64 a0_2] 23 (0, 0)) (by (with_reducible repeat (first | refine blk_drewN ?_ _ | refine blk_drew ?_ | refine blk_alloc ?_ _)); exact BK238.out)) : gb240 ≠ gb238)); have n8_ := Aside0.mk ((by rw [hg]; exact Nat.ne_of_lt (blk_lt (g := gb239) (o := .cells #[.int .i64 a1_0, .int .i64 a1_1, .int .i64 a1_2] 23 (0, 0)) (by (with_reducible repeat (first | refine blk_drewN ?_ _ | refine blk_drew ?_ | refine blk_alloc ?_ _)); exact BK239.out)) : gb239 ≠ gb240)); have n9_ := Aside0.mk ((by rw [hg]; exact Nat.ne_of_gt (blk_lt (g := gb239) (o := .cells #[.int .i64 a1_0, .int .i64 a1_1, .int .i64 a1_2] 23 (0, 0)) (by (with_reducible repeat (first | refine blk_drewN ?_ _ | refine blk_drew ?_ | refine blk_alloc ?_ _)); exact BK239.out)) : gb240 ≠ gb239)); clear BK238; clear BK239; clear HB; have BK238 := n0_; have BK239 := n1_; have HB := n2_; have BK240 := n3_; have GW240 := n4_; have GE240 := n5_; have NB238_240 := n6_; have NB240_238 := n7_; have NB239_240 := n8_; have NB240_239 := n9_; clear n0_ n1_ n2_ n3_ n4_ n5_ n6_ n7_ n8_ n9_; clear hb hbox hg) | ((with_reducible refine gate_callee (f := 8) rfl ?_); refine goesL_ (some 17) rfl rfl Tryd.func8 (by kernel_rfl) rfl #[] rfl (by (try simp only [List.map_toArray, List.map_cons, List.map_nil]); first | done | rfl | (simp only [List.length_drop, List.length_take]; rfl)) ?_; (with_reducible refine (modcertlaw24_awake.calls  true _ A5.out ?gd_).mono ?_); (case gd_ => first | exact HG.out | exact Gd.below HG.out (by repeat (first | (with_reducible first | exact Below.refl _ _ | exact HB.out | apply below_alloc | apply pw_below_drewN | apply below_drew1) | exact HB.out)) | exact Gd.below HG.out (by first | exact HB | (refine Below.trans ?_ ?_ <;> first | exact HB.out))); rintro e w11 ⟨rfl, hb⟩; refine ⟨_, rfl, ?_⟩; have n0_ := Aside0.mk (blk_below (g := gb238) (o := .cells #[.int .i64 a0_0, .int .i64 a0_1, .int .i64 a0_2] 23 (0, 0)) (by (with_reducible repeat (first | refine blk_drewN ?_ _ | refine blk_drew ?_ | refine blk_alloc ?_ _)); exact BK238.out) hb); have n1_ := Aside0.mk (blk_below (g := gb239) (o := .cells #[.int .i64 a1_0, .int .i64 a1_1, .int .i64 a1_2] 23 (0, 0)) (by (with_reducible repeat (first | refine blk_drewN ?_ _ | refine blk_drew ?_ | refine blk_alloc ?_ _)); exact BK239.out) hb); have n2_ := Aside0.mk (blk_below (g := gb240) (o := .cells #[.int .i64 a2_0, .int .i64 a2_1, .int .i64 a2_2] 23 (0, 0)) (by (with_reducible repeat (first | refine blk_drewN ?_ _ | refine blk_drew ?_ | refine blk_alloc ?_ _)); exact BK240.out) hb); have n3_ := Aside0.mk (below_step (by repeat (first | (with_reducible first | exact HB.out | apply below_alloc | apply pw_below_drewN | apply below_drew1 | refine below_set ?_ GE238.out | refine below_set ?_ GE239.out | refine below_set ?_ GE240.out) | exact HB.out)) hb); clear BK238; clear BK239; clear BK240; clear HB; have BK238 := n0_; have BK239 := n1_; have BK240 := n2_; have HB := n3_; clear n0_ n1_ n2_ n3_; (try clear hb); (try clear hb2); (try clear hk); (try clear hi)))
      go_ret
      exact ⟨by first | rfl | (simp [errW_none, errW_some] <;> rfl) | (simp [*, errW_none, errW_some] <;> rfl), by repeat (first | (with_reducible first | exact HB.out | apply below_alloc | apply pw_below_drewN | apply below_drew1 | refine below_set ?_ GE238.out | refine below_set ?_ GE239.out | refine below_set ?_ GE240.out) | exact HB.out)⟩
    · rw [if_neg c7] at H
      have c7b0 : decide (40 < (l3.length : Int)) = false := decide_eq_false c7
      have c7b1 : decide (40 < l3.length) = false := decide_eq_false (by omega)
      clear c7
      replace H := Option.bind_eq_some_iff.mp H
      obtain ⟨t242, A120, H⟩ := H
      replace H : ((version_Compare.f a1_0 a1_1 a1_2 a2_0 a2_1 a2_2).bind fun t243 => ((version_Compare.f a0_0 a0_1 a0_2 a2_0 a2_1 a2_2).bind fun t244 => (if t242 < (-1) then (modcertlaw24_VersionOrder.j0 k l3 true) else (if t242 > 1 then (modcertlaw24_VersionOrder.j0 k l3 true) else ((version_Compare.f a1_0 a1_1 a1_2 a0_0 a0_1 a0_2).bind fun t245 => (if t245 = (wrap64 (-t242)) then (if ((t242 == 0) != (a0_0 == a1_0 && (a0_1 == a1_1 && (a0_2 == a1_2)))) = true then (modcertlaw24_VersionOrder.j0 k l3 true) else (if t242 ≤ 0 then (if t243 ≤ 0 then (if t244 > 0 then (modcertlaw24_VersionOrder.j0 k l3 true) else (if t242 ≥ 0 then (if t243 ≥ 0 then (modcertlaw24_VersionOrder.j0 k l3 (decide (t244 < 0))) else (modcertlaw24_VersionOrder.j0 k l3 false)) else (modcertlaw24_VersionOrder.j0 k l3 false))) else (if t242 ≥ 0 then (if t243 ≥ 0 then (modcertlaw24_VersionOrder.j0 k l3 (decide (t244 < 0))) else (modcertlaw24_VersionOrder.j0 k l3 false)) else (modcertlaw24_VersionOrder.j0 k l3 false))) else (if t242 ≥ 0 then (if t243 ≥ 0 then (modcertlaw24_VersionOrder.j0 k l3 (decide (t244 < 0))) else (modcertlaw24_VersionOrder.j0 k l3 false)) else (modcertlaw24_VersionOrder.j0 k l3 false)))) else (modcertlaw24_VersionOrder.j0 k l3 true))))))) = some r := H
      have A12 := Aside0.mk A120
      clear A120
      replace H := Option.bind_eq_some_iff.mp H
      obtain ⟨t243, A130, H⟩ := H
      replace H : ((version_Compare.f a0_0 a0_1 a0_2 a2_0 a2_1 a2_2).bind fun t244 => (if t242 < (-1) then (modcertlaw24_VersionOrder.j0 k l3 true) else (if t242 > 1 then (modcertlaw24_VersionOrder.j0 k l3 true) else ((version_Compare.f a1_0 a1_1 a1_2 a0_0 a0_1 a0_2).bind fun t245 => (if t245 = (wrap64 (-t242)) then (if ((t242 == 0) != (a0_0 == a1_0 && (a0_1 == a1_1 && (a0_2 == a1_2)))) = true then (modcertlaw24_VersionOrder.j0 k l3 true) else (if t242 ≤ 0 then (if t243 ≤ 0 then (if t244 > 0 then (modcertlaw24_VersionOrder.j0 k l3 true) else (if t242 ≥ 0 then (if t243 ≥ 0 then (modcertlaw24_VersionOrder.j0 k l3 (decide (t244 < 0))) else (modcertlaw24_VersionOrder.j0 k l3 false)) else (modcertlaw24_VersionOrder.j0 k l3 false))) else (if t242 ≥ 0 then (if t243 ≥ 0 then (modcertlaw24_VersionOrder.j0 k l3 (decide (t244 < 0))) else (modcertlaw24_VersionOrder.j0 k l3 false)) else (modcertlaw24_VersionOrder.j0 k l3 false))) else (if t242 ≥ 0 then (if t243 ≥ 0 then (modcertlaw24_VersionOrder.j0 k l3 (decide (t244 < 0))) else (modcertlaw24_VersionOrder.j0 k l3 false)) else (modcertlaw24_VersionOrder.j0 k l3 false)))) else (modcertlaw24_VersionOrder.j0 k l3 true)))))) = some r := H
      have A13 := Aside0.mk A130
      clear A130
      replace H := Option.bind_eq_some_iff.mp H
      obtain ⟨t244, A140, H⟩ := H
      replace H : (if t242 < (-1) then (modcertlaw24_VersionOrder.j0 k l3 true) else (if t242 > 1 then (modcertlaw24_VersionOrder.j0 k l3 true) else ((version_Compare.f a1_0 a1_1 a1_2 a0_0 a0_1 a0_2).bind fun t245 => (if t245 = (wrap64 (-t242)) then (if ((t242 == 0) != (a0_0 == a1_0 && (a0_1 == a1_1 && (a0_2 == a1_2)))) = true then (modcertlaw24_VersionOrder.j0 k l3 true) else (if t242 ≤ 0 then (if t243 ≤ 0 then (if t244 > 0 then (modcertlaw24_VersionOrder.j0 k l3 true) else (if t242 ≥ 0 then (if t243 ≥ 0 then (modcertlaw24_VersionOrder.j0 k l3 (decide (t244 < 0))) else (modcertlaw24_VersionOrder.j0 k l3 false)) else (modcertlaw24_VersionOrder.j0 k l3 false))) else (if t242 ≥ 0 then (if t243 ≥ 0 then (modcertlaw24_VersionOrder.j0 k l3 (decide (t244 < 0))) else (modcertlaw24_VersionOrder.j0 k l3 false)) else (modcertlaw24_VersionOrder.j0 k l3 false))) else (if t242 ≥ 0 then (if t243 ≥ 0 then (modcertlaw24_VersionOrder.j0 k l3 (decide (t244 < 0))) else (modcertlaw24_VersionOrder.j0 k l3 false)) else (modcertlaw24_VersionOrder.j0 k l3 false)))) else (modcertlaw24_VersionOrder.j0 k l3 true))))) = some r := H
      have A14 := Aside0.mk A140
      clear A140
      have HC15 := Aside0.mk H
      clear H
      go_enter Tryd.func5, Tryd.ntmps5
      try go_wp2_with (first | ((with_reducible refine gate_dst (N := 4) rfl ?_); refine box_event ?hg (N := 4) ?hd (cs := #[.int .i64 a0_0, .int .i64 a0_1, .int .i64 a0_2]) (t := 23) ?hr ?_; (case hd => rfl); (case hg => rfl); (case hr => first | (go_simp; done) | (go_simp; rfl)); intro gb238 hg w16 hbox hb; have n0_ := Aside0.mk (below_step (by repeat (first | (with_reducible first | exact HB.out | apply below_alloc | apply pw_below_drewN | apply below_drew1) | exact HB.out)) hb); have n1_ := Aside0.mk (hbox); have n2_ := Aside0.mk ((by rw [hg]; exact (below_size (by repeat (first | (with_reducible first | exact HB.out | apply below_alloc | apply pw_below_drewN | apply below_drew1) | exact HB.out))) : w.heap.size ≤ gb238)); have n3_ := Aside0.mk ((by rw [hg]; exact (below_size (by repeat (first | (with_reducible first | exact HB.out | apply below_alloc | apply pw_below_drewN | apply below_drew1) | exact HB.out))) : w.heap.size ≤ gb238)); clear HB; have HB := n0_; have BK238 := n1_; have GW238 := n2_; have GE238 := n3_; clear n0_ n1_ n2_ n3_; clear hb hbox hg) | ((with_reducible refine gate_dst (N := 5) rfl ?_); refine box_event ?hg (N := 5) ?hd (cs := #[.int .i64 a1_0, .int .i64 a1_1, .int .i64 a1_2]) (t := 23) ?hr ?_; (case hd => rfl); (case hg => rfl); (case hr => first | (go_simp; done) | (go_simp; rfl)); intro gb239 hg w17 hbox hb; have n0_ := Aside0.mk (blk_below (g := gb238) (o := .cells #[.int .i64 a0_0, .int .i64 a0_1, .int .i64 a0_2] 23 (0, 0)) (by (with_reducible repeat (first | refine blk_drewN ?_ _ | refine blk_drew ?_ | refine blk_alloc ?_ _)); exact BK238.out) hb); have n1_ := Aside0.mk (below_step (by repeat (first | (with_reducible first | exact HB.out | apply below_alloc | apply pw_below_drewN | apply below_drew1 | refine below_set ?_ GE238.out) | exact HB.out)) hb); have n2_ := Aside0.mk (hbox); have n3_ := Aside0.mk ((by rw [hg]; exact (below_size (by repeat (first | (with_reducible first | exact HB.out | apply below_alloc | apply pw_below_drewN | apply below_drew1 | refine below_set ?_ GE238.out) | exact HB.out))) : w.heap.size ≤ gb239)); have n4_ := Aside0.mk ((by rw [hg]; exact (below_size (by repeat (first | (with_reducible first | exact HB.out | apply below_alloc | apply pw_below_drewN | apply below_drew1 | refine below_set ?_ GE238.out) | exact HB.out))) : w.heap.size ≤ gb239)); have n5_ := Aside0.mk ((by rw [hg]; exact Nat.ne_of_lt (blk_lt (g := gb238) (o := .cells #[.int .i64 a0_0, .int .i64 a0_1, .int .i64 a0_2] 23 (0, 0)) (by (with_reducible repeat (first | refine blk_drewN ?_ _ | refine blk_drew ?_ | refine blk_alloc ?_ _)); exact BK238.out)) : gb238 ≠ gb239)); have n6_ := Aside0.mk ((by rw [hg]; exact Nat.ne_of_gt (blk_lt (g := gb238) (o := .cells #[.int .i64 a0_0, .int .i64 a0_1, .int .i64 a0_2] 23 (0, 0)) (by (with_reducible repeat (first | refine blk_drewN ?_ _ | refine blk_drew ?_ | refine blk_alloc ?_ _)); exact BK238.out)) : gb239 ≠ gb238)); clear BK238; clear HB; have BK238 := n0_; have HB := n1_; have BK239 := n2_; have GW239 := n3_; have GE239 := n4_; have NB238_239 := n5_; have NB239_238 := n6_; clear n0_ n1_ n2_ n3_ n4_ n5_ n6_; clear hb hbox hg) | ((with_reducible refine gate_dst (N := 6) rfl ?_); refine box_event ?hg (N := 6) ?hd (cs := #[.int .i64 a2_0, .int .i64 a2_1, .int .i64 a2_2]) (t := 23) ?hr ?_; (case hd => rfl); (case hg => rfl); (case hr => first | (go_simp; done) | (go_simp; rfl)); intro gb240 hg w18 hbox hb; have n0_ := Aside0.mk (blk_below (g := gb238) (o := .cells #[.int .i64 a0_0, .int .i64 a0_1, .int .i64 a0_2] 23 (0, 0)) (by (with_reducible repeat (first | refine blk_drewN ?_ _ | refine blk_drew ?_ | refine blk_alloc ?_ _)); exact BK238.out) hb); have n1_ := Aside0.mk (blk_below (g := gb239) (o := .cells #[.int .i64 a1_0, .int .i64 a1_1, .int .i64 a1_2] 23 (0, 0)) (by (with_reducible repeat (first | refine blk_drewN ?_ _ | refine blk_drew ?_ | refine blk_alloc ?_ _)); exact BK239.out) hb); have n2_ := Aside0.mk (below_step (by repeat (first | (with_reducible first | exact HB.out | apply below_alloc | apply pw_below_drewN | apply below_drew1 | refine below_set ?_ GE238.out | refine below_set ?_ GE239.out) | exact HB.out)) hb); have n3_ := Aside0.mk (hbox); have n4_ := Aside0.mk ((by rw [hg]; exact (below_size (by repeat (first | (with_reducible first | exact HB.out | apply below_alloc | apply pw_below_drewN | apply below_drew1 | refine below_set ?_ GE238.out | refine below_set ?_ GE239.out) | exact HB.out))) : w.heap.size ≤ gb240)); have n5_ := Aside0.mk ((by rw [hg]; exact (below_size (by repeat (first | (with_reducible first | exact HB.out | apply below_alloc | apply pw_below_drewN | apply below_drew1 | refine below_set ?_ GE238.out | refine below_set ?_ GE239.out) | exact HB.out))) : w.heap.size ≤ gb240)); have n6_ := Aside0.mk ((by rw [hg]; exact Nat.ne_of_lt (blk_lt (g := gb238) (o := .cells #[.int .i64 a0_0, .int .i64 a0_1, .int .i64 a0_2] 23 (0, 0)) (by (with_reducible repeat (first | refine blk_drewN ?_ _ | refine blk_drew ?_ | refine blk_alloc ?_ _)); exact BK238.out)) : gb238 ≠ gb240)); have n7_ := Aside0.mk ((by rw [hg]; exact Nat.ne_of_gt (blk_lt (g := gb238) (o := .cells #[.int .i64 a0_0, .int .i64 a0_1, .int .i64 a0_2] 23 (0, 0)) (by (with_reducible repeat (first | refine blk_drewN ?_ _ | refine blk_drew ?_ | refine blk_alloc ?_ _)); exact BK238.out)) : gb240 ≠ gb238)); have n8_ := Aside0.mk ((by rw [hg]; exact Nat.ne_of_lt (blk_lt (g := gb239) (o := .cells #[.int .i64 a1_0, .int .i64 a1_1, .int .i64 a1_2] 23 (0, 0)) (by (with_reducible repeat (first | refine blk_drewN ?_ _ | refine blk_drew ?_ | refine blk_alloc ?_ _)); exact BK239.out)) : gb239 ≠ gb240)); have n9_ := Aside0.mk ((by rw [hg]; exact Nat.ne_of_gt (blk_lt (g := gb239) (o := .cells #[.int .i64 a1_0, .int .i64 a1_1, .int .i64 a1_2] 23 (0, 0)) (by (with_reducible repeat (first | refine blk_drewN ?_ _ | refine blk_drew ?_ | refine blk_alloc ?_ _)); exact BK239.out)) : gb240 ≠ gb239)); clear BK238; clear BK239; clear HB; have BK238 := n0_; have BK239 := n1_; have HB := n2_; have BK240 := n3_; have GW240 := n4_; have GE240 := n5_; have NB238_240 := n6_; have NB240_238 := n7_; have NB239_240 := n8_; have NB240_239 := n9_; clear n0_ n1_ n2_ n3_ n4_ n5_ n6_ n7_ n8_ n9_; clear hb hbox hg) | ((with_reducible refine gate_callee (f := 8) rfl ?_); refine goesL_ (some 17) rfl rfl Tryd.func8 (by kernel_rfl) rfl #[] rfl (by (try simp only [List.map_toArray, List.map_cons, List.map_nil]); first | done | rfl | (simp only [List.length_drop, List.length_take]; rfl)) ?_; (with_reducible refine (modcertlaw24_awake.calls  true _ A5.out ?gd_).mono ?_); (case gd_ => first | exact HG.out | exact Gd.below HG.out (by repeat (first | (with_reducible first | exact Below.refl _ _ | exact HB.out | apply below_alloc | apply pw_below_drewN | apply below_drew1) | exact HB.out)) | exact Gd.below HG.out (by first | exact HB | (refine Below.trans ?_ ?_ <;> first | exact HB.out))); rintro e w19 ⟨rfl, hb⟩; refine ⟨_, rfl, ?_⟩; have n0_ := Aside0.mk (blk_below (g := gb238) (o := .cells #[.int .i64 a0_0, .int .i64 a0_1, .int .i64 a0_2] 23 (0, 0)) (by (with_reducible repeat (first | refine blk_drewN ?_ _ | refine blk_drew ?_ | refine blk_alloc ?_ _)); exact BK238.out) hb); have n1_ := Aside0.mk (blk_below (g := gb239) (o := .cells #[.int .i64 a1_0, .int .i64 a1_1, .int .i64 a1_2] 23 (0, 0)) (by (with_reducible repeat (first | refine blk_drewN ?_ _ | refine blk_drew ?_ | refine blk_alloc ?_ _)); exact BK239.out) hb); have n2_ := Aside0.mk (blk_below (g := gb240) (o := .cells #[.int .i64 a2_0, .int .i64 a2_1, .int .i64 a2_2] 23 (0, 0)) (by (with_reducible repeat (first | refine blk_drewN ?_ _ | refine blk_drew ?_ | refine blk_alloc ?_ _)); exact BK240.out) hb); have n3_ := Aside0.mk (below_step (by repeat (first | (with_reducible first | exact HB.out | apply below_alloc | apply pw_below_drewN | apply below_drew1 | refine below_set ?_ GE238.out | refine below_set ?_ GE239.out | refine below_set ?_ GE240.out) | exact HB.out)) hb); clear BK238; clear BK239; clear BK240; clear HB; have BK238 := n0_; have BK239 := n1_; have BK240 := n2_; have HB := n3_; clear n0_ n1_ n2_ n3_; (try clear hb); (try clear hb2); (try clear hk); (try clear hi)))
      have n0_ := Aside0.mk (blk_drew BK238.out)
      have n1_ := Aside0.mk (blk_drew BK239.out)
      have n2_ := Aside0.mk (blk_drew BK240.out)
      have n3_ := Aside0.mk (below_drew1 HB.out)
      clear BK238
      clear BK239
      clear BK240
      clear HB
      have BK238 := n0_
      have BK239 := n1_
      have BK240 := n2_
      have HB := n3_
      clear n0_ n1_ n2_ n3_
      refine start_ (n := 12) (S := fun w' => w'.cell? ⟨gb238, 0, none⟩ = some (.int .i64 a0_0) ∧ w'.cell? ⟨gb238, 1, none⟩ = some (.int .i64 a0_1) ∧ w'.cell? ⟨gb238, 2, none⟩ = some (.int .i64 a0_2) ∧ w'.cell? ⟨gb239, 0, none⟩ = some (.int .i64 a1_0) ∧ w'.cell? ⟨gb239, 1, none⟩ = some (.int .i64 a1_1) ∧ w'.cell? ⟨gb239, 2, none⟩ = some (.int .i64 a1_2) ∧ w'.cell? ⟨gb240, 0, none⟩ = some (.int .i64 a2_0) ∧ w'.cell? ⟨gb240, 1, none⟩ = some (.int .i64 a2_1) ∧ w'.cell? ⟨gb240, 2, none⟩ = some (.int .i64 a2_2)) (ds := []) #[false, false, false, false, false, false, false, false, false, false, false, false] (by kernel_rfl) rfl rfl ⟨(blk_cell BK238.out 0).trans rfl, (blk_cell BK238.out 1).trans rfl, (blk_cell BK238.out 2).trans rfl, (blk_cell BK239.out 0).trans rfl, (blk_cell BK239.out 1).trans rfl, (blk_cell BK239.out 2).trans rfl, (blk_cell BK240.out 0).trans rfl, (blk_cell BK240.out 1).trans rfl, (blk_cell BK240.out 2).trans rfl⟩ (fun hHeld => ?_); refine with_tabW modcertlaw24_VersionOrder.tab5 modcertlaw24_VersionOrder.bits5 (fun HT_ HW_ => ?_)
      generalize w19.drew = w20 at BK238 BK239 BK240 HB hHeld ⊢
      refine take_ (i := 0) (N := some 22) (v := ?_) (a' := ?_) #[true, false, false, false, false, false, false, false, false, false, false, false] rfl rfl (take_ofW HT_.out HW_.out (by kernel_rfl)) (fun _ _ _ h => h) (Or.inl ⟨by rfl, ?_⟩) hHeld ?_ ?_
      rotate_left
      · rintro w' ⟨s0, s1, s2, s3, s4, s5, s6, s7, s8⟩
        go_simp
        with_reducible rfl
      rotate_left
      · simp only [Act.put, List.setIfInBounds_toArray, List.set_cons_zero, List.set_cons_succ, i64_w, i32_w]
        rfl
      refine take_ (i := 1) (N := some 23) (v := ?_) (a' := ?_) #[true, true, false, false, false, false, false, false, false, false, false, false] rfl rfl (take_ofW HT_.out HW_.out (by kernel_rfl)) (fun _ _ _ h => h) (Or.inl ⟨by rfl, ?_⟩) hHeld ?_ ?_
      rotate_left
      · rintro w' ⟨s0, s1, s2, s3, s4, s5, s6, s7, s8⟩
        go_simp
        with_reducible rfl
      rotate_left
      · simp only [Act.put, List.setIfInBounds_toArray, List.set_cons_zero, List.set_cons_succ, i64_w, i32_w]
        rfl
      refine take_ (i := 3) (N := some 25) (v := ?_) (a' := ?_) #[true, true, false, true, false, false, false, false, false, false, false, false] rfl rfl (take_ofW HT_.out HW_.out (by kernel_rfl)) (fun _ _ _ h => h) (Or.inl ⟨by rfl, ?_⟩) hHeld ?_ ?_
      rotate_left
      · rintro w' ⟨s0, s1, s2, s3, s4, s5, s6, s7, s8⟩
        go_simp
        with_reducible rfl
      rotate_left
      · simp only [Act.put, List.setIfInBounds_toArray, List.set_cons_zero, List.set_cons_succ, i64_w, i32_w]
        rfl
      refine take_ (i := 4) (N := some 26) (v := ?_) (a' := ?_) #[true, true, false, true, true, false, false, false, false, false, false, false] rfl rfl (take_ofW HT_.out HW_.out (by kernel_rfl)) (fun _ _ _ h => h) (Or.inl ⟨by rfl, ?_⟩) hHeld ?_ ?_
      rotate_left
      · rintro w' ⟨s0, s1, s2, s3, s4, s5, s6, s7, s8⟩
        go_simp
        with_reducible rfl
      rotate_left
      · simp only [Act.put, List.setIfInBounds_toArray, List.set_cons_zero, List.set_cons_succ, i64_w, i32_w]
        rfl
      refine take_ (i := 6) (N := some 28) (v := ?_) (a' := ?_) #[true, true, false, true, true, false, true, false, false, false, false, false] rfl rfl (take_ofW HT_.out HW_.out (by kernel_rfl)) (fun _ _ _ h => h) (Or.inl ⟨by rfl, ?_⟩) hHeld ?_ ?_
      rotate_left
      · rintro w' ⟨s0, s1, s2, s3, s4, s5, s6, s7, s8⟩
        go_simp
        with_reducible rfl
      rotate_left
      · simp only [Act.put, List.setIfInBounds_toArray, List.set_cons_zero, List.set_cons_succ, i64_w, i32_w]
        rfl
      refine take_ (i := 7) (N := some 29) (v := ?_) (a' := ?_) #[true, true, false, true, true, false, true, true, false, false, false, false] rfl rfl (take_ofW HT_.out HW_.out (by kernel_rfl)) (fun _ _ _ h => h) (Or.inl ⟨by rfl, ?_⟩) hHeld ?_ ?_
      rotate_left
      · rintro w' ⟨s0, s1, s2, s3, s4, s5, s6, s7, s8⟩
        go_simp
        with_reducible rfl
      rotate_left
      · simp only [Act.put, List.setIfInBounds_toArray, List.set_cons_zero, List.set_cons_succ, i64_w, i32_w]
        rfl
      refine one_ (i := 2) (N := some 24) #[true, true, true, true, true, false, true, true, false, false, false, false] rfl rfl (one_of HT_.out (by kernel_rfl)) (by decide) (fun K hK => ?_)
      refine goes_ Tryd.func17 (by kernel_rfl) rfl #[.agg #[.int .i64 a0_0, .int .i64 a0_1, .int .i64 a0_2], .agg #[.int .i64 a1_0, .int .i64 a1_1, .int .i64 a1_2]] (by rfl) rfl rfl (by (try simp only [List.map_toArray, List.map_cons, List.map_nil]); first | done | rfl | (simp only [List.length_drop, List.length_take]; rfl)) ?_
      with_reducible refine (version_Compare.calls a0_0 a0_1 a0_2 a1_0 a1_1 a1_2 t242 _ A12.out).mono ?_
      rintro e w21 ⟨rfl, hb⟩
      refine ⟨_, rfl, ?_⟩
      have n0_ := Aside0.mk (blk_below (g := gb238) (o := .cells #[.int .i64 a0_0, .int .i64 a0_1, .int .i64 a0_2] 23 (0, 0)) (by (with_reducible repeat (first | refine blk_drewN ?_ _ | refine blk_drew ?_ | refine blk_alloc ?_ _)); exact BK238.out) hb)
      have n1_ := Aside0.mk (blk_below (g := gb239) (o := .cells #[.int .i64 a1_0, .int .i64 a1_1, .int .i64 a1_2] 23 (0, 0)) (by (with_reducible repeat (first | refine blk_drewN ?_ _ | refine blk_drew ?_ | refine blk_alloc ?_ _)); exact BK239.out) hb)
      have n2_ := Aside0.mk (blk_below (g := gb240) (o := .cells #[.int .i64 a2_0, .int .i64 a2_1, .int .i64 a2_2] 23 (0, 0)) (by (with_reducible repeat (first | refine blk_drewN ?_ _ | refine blk_drew ?_ | refine blk_alloc ?_ _)); exact BK240.out) hb)
      have n3_ := Aside0.mk (below_step (by repeat (first | (with_reducible first | exact HB.out | apply below_alloc | apply pw_below_drewN | apply below_drew1 | refine below_set ?_ GE238.out | refine below_set ?_ GE239.out | refine below_set ?_ GE240.out) | exact HB.out)) hb)
      clear BK238
      clear BK239
      clear BK240
      clear HB
      have BK238 := n0_
      have BK239 := n1_
      have BK240 := n2_
      have HB := n3_
      clear n0_ n1_ n2_ n3_
      (try clear hb)
      (try clear hb2)
      (try clear hk)
      (try clear hi)
      refine hK.out _ _ ⟨(blk_cell BK238.out 0).trans rfl, (blk_cell BK238.out 1).trans rfl, (blk_cell BK238.out 2).trans rfl, (blk_cell BK239.out 0).trans rfl, (blk_cell BK239.out 1).trans rfl, (blk_cell BK239.out 2).trans rfl, (blk_cell BK240.out 0).trans rfl, (blk_cell BK240.out 1).trans rfl, (blk_cell BK240.out 2).trans rfl⟩ (fun hHeld => ?_)
      clear hK K
      refine norm_ (a' := ?_) ?_ ?_
      rotate_left
      · show Act.put _ (some 24) _ = _
        simp only [Act.put, List.setIfInBounds_toArray, List.set_cons_zero, List.set_cons_succ, i64_w, i32_w]
        rfl
      refine one_ (i := 5) (N := some 27) #[true, true, true, true, true, true, true, true, false, false, false, false] rfl rfl (one_of HT_.out (by kernel_rfl)) (by decide) (fun K hK => ?_)
      refine goes_ Tryd.func17 (by kernel_rfl) rfl #[.agg #[.int .i64 a1_0, .int .i64 a1_1, .int .i64 a1_2], .agg #[.int .i64 a2_0, .int .i64 a2_1, .int .i64 a2_2]] (by rfl) rfl rfl (by (try simp only [List.map_toArray, List.map_cons, List.map_nil]); first | done | rfl | (simp only [List.length_drop, List.length_take]; rfl)) ?_
      with_reducible refine (version_Compare.calls a1_0 a1_1 a1_2 a2_0 a2_1 a2_2 t243 _ A13.out).mono ?_
      rintro e w22 ⟨rfl, hb⟩
      refine ⟨_, rfl, ?_⟩
      have n0_ := Aside0.mk (blk_below (g := gb238) (o := .cells #[.int .i64 a0_0, .int .i64 a0_1, .int .i64 a0_2] 23 (0, 0)) (by (with_reducible repeat (first | refine blk_drewN ?_ _ | refine blk_drew ?_ | refine blk_alloc ?_ _)); exact BK238.out) hb)
      have n1_ := Aside0.mk (blk_below (g := gb239) (o := .cells #[.int .i64 a1_0, .int .i64 a1_1, .int .i64 a1_2] 23 (0, 0)) (by (with_reducible repeat (first | refine blk_drewN ?_ _ | refine blk_drew ?_ | refine blk_alloc ?_ _)); exact BK239.out) hb)
      have n2_ := Aside0.mk (blk_below (g := gb240) (o := .cells #[.int .i64 a2_0, .int .i64 a2_1, .int .i64 a2_2] 23 (0, 0)) (by (with_reducible repeat (first | refine blk_drewN ?_ _ | refine blk_drew ?_ | refine blk_alloc ?_ _)); exact BK240.out) hb)
      have n3_ := Aside0.mk (below_step (by repeat (first | (with_reducible first | exact HB.out | apply below_alloc | apply pw_below_drewN | apply below_drew1 | refine below_set ?_ GE238.out | refine below_set ?_ GE239.out | refine below_set ?_ GE240.out) | exact HB.out)) hb)
      clear BK238
      clear BK239
      clear BK240
      clear HB
      have BK238 := n0_
      have BK239 := n1_
      have BK240 := n2_
      have HB := n3_
      clear n0_ n1_ n2_ n3_
      (try clear hb)
      (try clear hb2)
      (try clear hk)
      (try clear hi)
      refine hK.out _ _ ⟨(blk_cell BK238.out 0).trans rfl, (blk_cell BK238.out 1).trans rfl, (blk_cell BK238.out 2).trans rfl, (blk_cell BK239.out 0).trans rfl, (blk_cell BK239.out 1).trans rfl, (blk_cell BK239.out 2).trans rfl, (blk_cell BK240.out 0).trans rfl, (blk_cell BK240.out 1).trans rfl, (blk_cell BK240.out 2).trans rfl⟩ (fun hHeld => ?_)
      clear hK K
      refine norm_ (a' := ?_) ?_ ?_
      rotate_left
      · show Act.put _ (some 27) _ = _
        simp only [Act.put, List.setIfInBounds_toArray, List.set_cons_zero, List.set_cons_succ, i64_w, i32_w]
        rfl
      refine one_ (i := 8) (N := some 30) #[true, true, true, true, true, true, true, true, true, false, false, false] rfl rfl (one_of HT_.out (by kernel_rfl)) (by decide) (fun K hK => ?_)
      refine goes_ Tryd.func17 (by kernel_rfl) rfl #[.agg #[.int .i64 a0_0, .int .i64 a0_1, .int .i64 a0_2], .agg #[.int .i64 a2_0, .int .i64 a2_1, .int .i64 a2_2]] (by rfl) rfl rfl (by (try simp only [List.map_toArray, List.map_cons, List.map_nil]); first | done | rfl | (simp only [List.length_drop, List.length_take]; rfl)) ?_
      with_reducible refine (version_Compare.calls a0_0 a0_1 a0_2 a2_0 a2_1 a2_2 t244 _ A14.out).mono ?_
      rintro e w23 ⟨rfl, hb⟩
      refine ⟨_, rfl, ?_⟩
      have n0_ := Aside0.mk (blk_below (g := gb238) (o := .cells #[.int .i64 a0_0, .int .i64 a0_1, .int .i64 a0_2] 23 (0, 0)) (by (with_reducible repeat (first | refine blk_drewN ?_ _ | refine blk_drew ?_ | refine blk_alloc ?_ _)); exact BK238.out) hb)
      have n1_ := Aside0.mk (blk_below (g := gb239) (o := .cells #[.int .i64 a1_0, .int .i64 a1_1, .int .i64 a1_2] 23 (0, 0)) (by (with_reducible repeat (first | refine blk_drewN ?_ _ | refine blk_drew ?_ | refine blk_alloc ?_ _)); exact BK239.out) hb)
      have n2_ := Aside0.mk (blk_below (g := gb240) (o := .cells #[.int .i64 a2_0, .int .i64 a2_1, .int .i64 a2_2] 23 (0, 0)) (by (with_reducible repeat (first | refine blk_drewN ?_ _ | refine blk_drew ?_ | refine blk_alloc ?_ _)); exact BK240.out) hb)
      have n3_ := Aside0.mk (below_step (by repeat (first | (with_reducible first | exact HB.out | apply below_alloc | apply pw_below_drewN | apply below_drew1 | refine below_set ?_ GE238.out | refine below_set ?_ GE239.out | refine below_set ?_ GE240.out) | exact HB.out)) hb)
      clear BK238
      clear BK239
      clear BK240
      clear HB
      have BK238 := n0_
      have BK239 := n1_
      have BK240 := n2_
      have HB := n3_
      clear n0_ n1_ n2_ n3_
      (try clear hb)
      (try clear hb2)
      (try clear hk)
      (try clear hi)
      refine hK.out _ _ ⟨(blk_cell BK238.out 0).trans rfl, (blk_cell BK238.out 1).trans rfl, (blk_cell BK238.out 2).trans rfl, (blk_cell BK239.out 0).trans rfl, (blk_cell BK239.out 1).trans rfl, (blk_cell BK239.out 2).trans rfl, (blk_cell BK240.out 0).trans rfl, (blk_cell BK240.out 1).trans rfl, (blk_cell BK240.out 2).trans rfl⟩ (fun hHeld => ?_)
      clear hK K
      refine norm_ (a' := ?_) ?_ ?_
      rotate_left
      · show Act.put _ (some 30) _ = _
        simp only [Act.put, List.setIfInBounds_toArray, List.set_cons_zero, List.set_cons_succ, i64_w, i32_w]
        rfl
      refine pure_ (i := 9) (N := some 9) (v := ?_) (a' := ?_) #[true, true, true, true, true, true, true, true, true, true, false, false] rfl rfl (any_of HT_.out (by kernel_rfl)) (fun _ _ _ h => h) (Or.inl ⟨by rfl, ?_⟩) ?_ ?_
      rotate_left
      · intro w'
        go_simp
        with_reducible rfl
      rotate_left
      · simp only [Act.put, List.setIfInBounds_toArray, List.set_cons_zero, List.set_cons_succ, i64_w, i32_w]
        rfl
      refine pure_ (i := 10) (N := some 10) (v := ?_) (a' := ?_) #[true, true, true, true, true, true, true, true, true, true, true, false] rfl rfl (any_of HT_.out (by kernel_rfl)) (fun _ _ _ h => h) (Or.inl ⟨by rfl, ?_⟩) ?_ ?_
      rotate_left
      · intro w'
        go_simp
        with_reducible rfl
      rotate_left
      · simp only [Act.put, List.setIfInBounds_toArray, List.set_cons_zero, List.set_cons_succ, i64_w, i32_w]
        rfl
      refine pure_ (i := 11) (N := some 11) (v := ?_) (a' := ?_) #[true, true, true, true, true, true, true, true, true, true, true, true] rfl rfl (any_of HT_.out (by kernel_rfl)) (fun _ _ _ h => h) (Or.inl ⟨by rfl, ?_⟩) ?_ ?_
      rotate_left
      · intro w'
        go_simp
        with_reducible rfl
      rotate_left
      · simp only [Act.put, List.setIfInBounds_toArray, List.set_cons_zero, List.set_cons_succ, i64_w, i32_w]
        rfl
      refine done_ (done_of HT_.out (by kernel_rfl)) ?_
      go_upto_region 6 with (fail)
      go_cut [76] (fun v76 wc => ∃ (kq : Nat) (x76_14 : Bool), v76 = .bool x76_14 ∧ Aside0 (modcertlaw24_VersionOrder.j0 kq l3 x76_14 = some r) ∧ Aside0 (kq ≤ k) ∧ Aside0 (wc.heap[gb238]? = some (.cells #[.int .i64 a0_0, .int .i64 a0_1, .int .i64 a0_2] 23 (0, 0))) ∧ Aside0 (wc.heap[gb239]? = some (.cells #[.int .i64 a1_0, .int .i64 a1_1, .int .i64 a1_2] 23 (0, 0))) ∧ Aside0 (wc.heap[gb240]? = some (.cells #[.int .i64 a2_0, .int .i64 a2_1, .int .i64 a2_2] 23 (0, 0))) ∧ Aside0 (Below w.heap.size w wc))
      case first =>
        have H := HC15.out
        clear HC15
        by_cases c24 : t242 < (-1)
        · rw [if_pos c24] at H
          have c24b0 : decide (t242 < (-1)) = true := decide_eq_true c24
          clear c24
          (first | rw [c24b0] | (simp only [i64_w, i32_w]; rw [c24b0]) | skip)
          have H' := Aside0.mk H
          clear H
          go_wp2
          go_meet
          case rel => exact ⟨_, (true), (by first | rfl | (simp; done) | (simp [*]; done)), H', ⟨by first | omega | exact Nat.le_refl _⟩, ⟨by (with_reducible repeat (first | refine blk_drewN ?_ _ | refine blk_drew ?_ | refine blk_alloc ?_ _)); exact BK238.out⟩, ⟨by (with_reducible repeat (first | refine blk_drewN ?_ _ | refine blk_drew ?_ | refine blk_alloc ?_ _)); exact BK239.out⟩, ⟨by (with_reducible repeat (first | refine blk_drewN ?_ _ | refine blk_drew ?_ | refine blk_alloc ?_ _)); exact BK240.out⟩, ⟨by repeat (first | (with_reducible first | exact HB.out | apply below_alloc | apply pw_below_drewN | apply below_drew1 | refine below_set ?_ GE238.out | refine below_set ?_ GE239.out | refine below_set ?_ GE240.out) | exact HB.out)⟩⟩
        · rw [if_neg c24] at H
          have c24b0 : decide (t242 < (-1)) = false := decide_eq_false c24
          clear c24
          (first | rw [c24b0] | (simp only [i64_w, i32_w]; rw [c24b0]) | skip)
          by_cases c25 : t242 > 1
          · rw [if_pos c25] at H
            have c25b0 : decide (1 < t242) = true := decide_eq_true c25
            clear c25
            have H' := Aside0.mk H
            clear H
            go_wp2
            go_meet
            case rel => exact ⟨_, (true), (by first | rfl | (simp; done) | (simp [*]; done)), H', ⟨by first | omega | exact Nat.le_refl _⟩, ⟨by (with_reducible repeat (first | refine blk_drewN ?_ _ | refine blk_drew ?_ | refine blk_alloc ?_ _)); exact BK238.out⟩, ⟨by (with_reducible repeat (first | refine blk_drewN ?_ _ | refine blk_drew ?_ | refine blk_alloc ?_ _)); exact BK239.out⟩, ⟨by (with_reducible repeat (first | refine blk_drewN ?_ _ | refine blk_drew ?_ | refine blk_alloc ?_ _)); exact BK240.out⟩, ⟨by repeat (first | (with_reducible first | exact HB.out | apply below_alloc | apply pw_below_drewN | apply below_drew1 | refine below_set ?_ GE238.out | refine below_set ?_ GE239.out | refine below_set ?_ GE240.out) | exact HB.out)⟩⟩
          · rw [if_neg c25] at H
            have c25b0 : decide (1 < t242) = false := decide_eq_false c25
            clear c25
            replace H := Option.bind_eq_some_iff.mp H
            obtain ⟨t245, A260, H⟩ := H
            replace H : (if t245 = (wrap64 (-t242)) then (if ((t242 == 0) != (a0_0 == a1_0 && (a0_1 == a1_1 && (a0_2 == a1_2)))) = true then (modcertlaw24_VersionOrder.j0 k l3 true) else (if t242 ≤ 0 then (if t243 ≤ 0 then (if t244 > 0 then (modcertlaw24_VersionOrder.j0 k l3 true) else (if t242 ≥ 0 then (if t243 ≥ 0 then (modcertlaw24_VersionOrder.j0 k l3 (decide (t244 < 0))) else (modcertlaw24_VersionOrder.j0 k l3 false)) else (modcertlaw24_VersionOrder.j0 k l3 false))) else (if t242 ≥ 0 then (if t243 ≥ 0 then (modcertlaw24_VersionOrder.j0 k l3 (decide (t244 < 0))) else (modcertlaw24_VersionOrder.j0 k l3 false)) else (modcertlaw24_VersionOrder.j0 k l3 false))) else (if t242 ≥ 0 then (if t243 ≥ 0 then (modcertlaw24_VersionOrder.j0 k l3 (decide (t244 < 0))) else (modcertlaw24_VersionOrder.j0 k l3 false)) else (modcertlaw24_VersionOrder.j0 k l3 false)))) else (modcertlaw24_VersionOrder.j0 k l3 true)) = some r := H
            have A26 := Aside0.mk A260
            clear A260
            by_cases c27 : t245 = (wrap64 (-t242))
            · rw [if_pos c27] at H
              have c27b0 : (t245 == (wrap64 (-t242))) = true := beq_iff_eq.mpr c27
              have c27b1 : (t245 != (wrap64 (-t242))) = false := bne_eq_false_iff_eq.mpr c27
              clear c27
              by_cases c28 : ((t242 == 0) != (a0_0 == a1_0 && (a0_1 == a1_1 && (a0_2 == a1_2)))) = true
              · rw [if_pos c28] at H
                have c28b0 : ((t242 == 0) != (a0_0 == a1_0 && (a0_1 == a1_1 && (a0_2 == a1_2)))) = true := c28
                (try (have c28b1 : decide ((t242 == 0) = (a0_0 == a1_0 && (a0_1 == a1_1 && (a0_2 == a1_2)))) = false := by simpa using c28))
                (try (have c28b2 : ((t242 == 0) == (a0_0 == a1_0 && (a0_1 == a1_1 && (a0_2 == a1_2)))) = false := by simpa using c28))
                (try (have c28b3 : ¬ ((t242 == 0) = (a0_0 == a1_0 && (a0_1 == a1_1 && (a0_2 == a1_2)))) := by simpa using c28))
                clear c28
                have H' := Aside0.mk H
                clear H
                have hnb29 := NB239_238.out
                have hnc29 := NB238_239.out
                have hnb30 := NB239_240.out
                have hnc30 := NB240_239.out
                have hcz31_0 : w23.cell? ⟨gb239, 0, none⟩ = some (.int .i64 a1_0) := (blk_cell BK239.out 0).trans rfl
                have hcz31_1 : w23.cell? ⟨gb239, 1, none⟩ = some (.int .i64 a1_1) := (blk_cell BK239.out 1).trans rfl
                have hcz31_2 : w23.cell? ⟨gb239, 2, none⟩ = some (.int .i64 a1_2) := (blk_cell BK239.out 2).trans rfl
                have hfz31_0 := blk_frozen BK239.out 0
                have hfz31_1 := blk_frozen BK239.out 1
                have hfz31_2 := blk_frozen BK239.out 2
                have hnb32 := NB238_240.out
                have hnc32 := NB240_238.out
                have hcz33_0 : w23.cell? ⟨gb238, 0, none⟩ = some (.int .i64 a0_0) := (blk_cell BK238.out 0).trans rfl
                have hcz33_1 : w23.cell? ⟨gb238, 1, none⟩ = some (.int .i64 a0_1) := (blk_cell BK238.out 1).trans rfl
                have hcz33_2 : w23.cell? ⟨gb238, 2, none⟩ = some (.int .i64 a0_2) := (blk_cell BK238.out 2).trans rfl
                have hfz33_0 := blk_frozen BK238.out 0
                have hfz33_1 := blk_frozen BK238.out 1
                have hfz33_2 := blk_frozen BK238.out 2
                go_wp2_with (first | (go_at_call 17; (with_reducible refine (version_Compare.calls a1_0 a1_1 a1_2 a0_0 a0_1 a0_2 t245 _ A26.out).mono ?_); rintro e w34 ⟨rfl, hb⟩; have n0_ := Aside0.mk (blk_below (g := gb238) (o := .cells #[.int .i64 a0_0, .int .i64 a0_1, .int .i64 a0_2] 23 (0, 0)) (by (with_reducible repeat (first | refine blk_drewN ?_ _ | refine blk_drew ?_ | refine blk_alloc ?_ _)); exact BK238.out) hb); have n1_ := Aside0.mk (blk_below (g := gb239) (o := .cells #[.int .i64 a1_0, .int .i64 a1_1, .int .i64 a1_2] 23 (0, 0)) (by (with_reducible repeat (first | refine blk_drewN ?_ _ | refine blk_drew ?_ | refine blk_alloc ?_ _)); exact BK239.out) hb); have n2_ := Aside0.mk (blk_below (g := gb240) (o := .cells #[.int .i64 a2_0, .int .i64 a2_1, .int .i64 a2_2] 23 (0, 0)) (by (with_reducible repeat (first | refine blk_drewN ?_ _ | refine blk_drew ?_ | refine blk_alloc ?_ _)); exact BK240.out) hb); have n3_ := Aside0.mk (below_step (by repeat (first | (with_reducible first | exact HB.out | apply below_alloc | apply pw_below_drewN | apply below_drew1 | refine below_set ?_ GE238.out | refine below_set ?_ GE239.out | refine below_set ?_ GE240.out) | exact HB.out)) hb); clear BK238; clear BK239; clear BK240; clear HB; have BK238 := n0_; have BK239 := n1_; have BK240 := n2_; have HB := n3_; clear n0_ n1_ n2_ n3_; (try clear hb); (try clear hb2); (try clear hk); (try clear hi); have hcz35_0 : w34.cell? ⟨gb238, 0, none⟩ = some (.int .i64 a0_0) := (blk_cell BK238.out 0).trans rfl; have hcz35_1 : w34.cell? ⟨gb238, 1, none⟩ = some (.int .i64 a0_1) := (blk_cell BK238.out 1).trans rfl; have hcz35_2 : w34.cell? ⟨gb238, 2, none⟩ = some (.int .i64 a0_2) := (blk_cell BK238.out 2).trans rfl; have hfz35_0 := blk_frozen BK238.out 0; have hfz35_1 := blk_frozen BK238.out 1; have hfz35_2 := blk_frozen BK238.out 2; have hcz36_0 : w34.cell? ⟨gb239, 0, none⟩ = some (.int .i64 a1_0) := (blk_cell BK239.out 0).trans rfl; have hcz36_1 : w34.cell? ⟨gb239, 1, none⟩ = some (.int .i64 a1_1) := (blk_cell BK239.out 1).trans rfl; have hcz36_2 : w34.cell? ⟨gb239, 2, none⟩ = some (.int .i64 a1_2) := (blk_cell BK239.out 2).trans rfl; have hfz36_0 := blk_frozen BK239.out 0; have hfz36_1 := blk_frozen BK239.out 1; have hfz36_2 := blk_frozen BK239.out 2))
                go_meet
                case rel => exact ⟨_, (true), (by first | rfl | (simp; done) | (simp [*]; done)), H', ⟨by first | omega | exact Nat.le_refl _⟩, ⟨by (with_reducible repeat (first | refine blk_drewN ?_ _ | refine blk_drew ?_ | refine blk_alloc ?_ _)); exact BK238.out⟩, ⟨by (with_reducible repeat (first | refine blk_drewN ?_ _ | refine blk_drew ?_ | refine blk_alloc ?_ _)); exact BK239.out⟩, ⟨by (with_reducible repeat (first | refine blk_drewN ?_ _ | refine blk_drew ?_ | refine blk_alloc ?_ _)); exact BK240.out⟩, ⟨by repeat (first | (with_reducible first | exact HB.out | apply below_alloc | apply pw_below_drewN | apply below_drew1 | refine below_set ?_ GE238.out | refine below_set ?_ GE239.out | refine below_set ?_ GE240.out) | exact HB.out)⟩⟩
              · rw [if_neg c28] at H
                have c28b0 : ((t242 == 0) != (a0_0 == a1_0 && (a0_1 == a1_1 && (a0_2 == a1_2)))) = false := by simpa using c28
                (try (have c28b1 : decide ((t242 == 0) = (a0_0 == a1_0 && (a0_1 == a1_1 && (a0_2 == a1_2)))) = true := by simpa using c28))
                (try (have c28b2 : ((t242 == 0) == (a0_0 == a1_0 && (a0_1 == a1_1 && (a0_2 == a1_2)))) = true := by simpa using c28))
                clear c28
                by_cases c37 : t242 ≤ 0
                · rw [if_pos c37] at H
                  have c37b0 : decide (t242 ≤ 0) = true := decide_eq_true c37
                  clear c37
                  by_cases c38 : t243 ≤ 0
                  · rw [if_pos c38] at H
                    have c38b0 : decide (t243 ≤ 0) = true := decide_eq_true c38
                    clear c38
                    by_cases c39 : t244 > 0
                    · rw [if_pos c39] at H
                      have c39b0 : decide (0 < t244) = true := decide_eq_true c39
                      clear c39
                      have H' := Aside0.mk H
                      clear H
                      have hnb40 := NB239_238.out
                      have hnc40 := NB238_239.out
                      have hnb41 := NB239_240.out
                      have hnc41 := NB240_239.out
                      have hcz42_0 : w23.cell? ⟨gb239, 0, none⟩ = some (.int .i64 a1_0) := (blk_cell BK239.out 0).trans rfl
                      have hcz42_1 : w23.cell? ⟨gb239, 1, none⟩ = some (.int .i64 a1_1) := (blk_cell BK239.out 1).trans rfl
                      have hcz42_2 : w23.cell? ⟨gb239, 2, none⟩ = some (.int .i64 a1_2) := (blk_cell BK239.out 2).trans rfl
                      have hfz42_0 := blk_frozen BK239.out 0
                      have hfz42_1 := blk_frozen BK239.out 1
                      have hfz42_2 := blk_frozen BK239.out 2
                      have hnb43 := NB238_240.out
                      have hnc43 := NB240_238.out
                      have hcz44_0 : w23.cell? ⟨gb238, 0, none⟩ = some (.int .i64 a0_0) := (blk_cell BK238.out 0).trans rfl
                      have hcz44_1 : w23.cell? ⟨gb238, 1, none⟩ = some (.int .i64 a0_1) := (blk_cell BK238.out 1).trans rfl
                      have hcz44_2 : w23.cell? ⟨gb238, 2, none⟩ = some (.int .i64 a0_2) := (blk_cell BK238.out 2).trans rfl
                      have hfz44_0 := blk_frozen BK238.out 0
                      have hfz44_1 := blk_frozen BK238.out 1
                      have hfz44_2 := blk_frozen BK238.out 2
                      go_wp2_with (first | (go_at_call 17; (with_reducible refine (version_Compare.calls a1_0 a1_1 a1_2 a0_0 a0_1 a0_2 t245 _ A26.out).mono ?_); rintro e w45 ⟨rfl, hb⟩; have n0_ := Aside0.mk (blk_below (g := gb238) (o := .cells #[.int .i64 a0_0, .int .i64 a0_1, .int .i64 a0_2] 23 (0, 0)) (by (with_reducible repeat (first | refine blk_drewN ?_ _ | refine blk_drew ?_ | refine blk_alloc ?_ _)); exact BK238.out) hb); have n1_ := Aside0.mk (blk_below (g := gb239) (o := .cells #[.int .i64 a1_0, .int .i64 a1_1, .int .i64 a1_2] 23 (0, 0)) (by (with_reducible repeat (first | refine blk_drewN ?_ _ | refine blk_drew ?_ | refine blk_alloc ?_ _)); exact BK239.out) hb); have n2_ := Aside0.mk (blk_below (g := gb240) (o := .cells #[.int .i64 a2_0, .int .i64 a2_1, .int .i64 a2_2] 23 (0, 0)) (by (with_reducible repeat (first | refine blk_drewN ?_ _ | refine blk_drew ?_ | refine blk_alloc ?_ _)); exact BK240.out) hb); have n3_ := Aside0.mk (below_step (by repeat (first | (with_reducible first | exact HB.out | apply below_alloc | apply pw_below_drewN | apply below_drew1 | refine below_set ?_ GE238.out | refine below_set ?_ GE239.out | refine below_set ?_ GE240.out) | exact HB.out)) hb); clear BK238; clear BK239; clear BK240; clear HB; have BK238 := n0_; have BK239 := n1_; have BK240 := n2_; have HB := n3_; clear n0_ n1_ n2_ n3_; (try clear hb); (try clear hb2); (try clear hk); (try clear hi); have hcz46_0 : w45.cell? ⟨gb238, 0, none⟩ = some (.int .i64 a0_0) := (blk_cell BK238.out 0).trans rfl; have hcz46_1 : w45.cell? ⟨gb238, 1, none⟩ = some (.int .i64 a0_1) := (blk_cell BK238.out 1).trans rfl; have hcz46_2 : w45.cell? ⟨gb238, 2, none⟩ = some (.int .i64 a0_2) := (blk_cell BK238.out 2).trans rfl; have hfz46_0 := blk_frozen BK238.out 0; have hfz46_1 := blk_frozen BK238.out 1; have hfz46_2 := blk_frozen BK238.out 2; have hcz47_0 : w45.cell? ⟨gb239, 0, none⟩ = some (.int .i64 a1_0) := (blk_cell BK239.out 0).trans rfl; have hcz47_1 : w45.cell? ⟨gb239, 1, none⟩ = some (.int .i64 a1_1) := (blk_cell BK239.out 1).trans rfl; have hcz47_2 : w45.cell? ⟨gb239, 2, none⟩ = some (.int .i64 a1_2) := (blk_cell BK239.out 2).trans rfl; have hfz47_0 := blk_frozen BK239.out 0; have hfz47_1 := blk_frozen BK239.out 1; have hfz47_2 := blk_frozen BK239.out 2))
                      go_meet
                      case rel => exact ⟨_, (true), (by first | rfl | (simp; done) | (simp [*]; done)), H', ⟨by first | omega | exact Nat.le_refl _⟩, ⟨by (with_reducible repeat (first | refine blk_drewN ?_ _ | refine blk_drew ?_ | refine blk_alloc ?_ _)); exact BK238.out⟩, ⟨by (with_reducible repeat (first | refine blk_drewN ?_ _ | refine blk_drew ?_ | refine blk_alloc ?_ _)); exact BK239.out⟩, ⟨by (with_reducible repeat (first | refine blk_drewN ?_ _ | refine blk_drew ?_ | refine blk_alloc ?_ _)); exact BK240.out⟩, ⟨by repeat (first | (with_reducible first | exact HB.out | apply below_alloc | apply pw_below_drewN | apply below_drew1 | refine below_set ?_ GE238.out | refine below_set ?_ GE239.out | refine below_set ?_ GE240.out) | exact HB.out)⟩⟩
                    · rw [if_neg c39] at H
                      have c39b0 : decide (0 < t244) = false := decide_eq_false c39
                      clear c39
                      by_cases c48 : t242 ≥ 0
                      · rw [if_pos c48] at H
                        have c48b0 : decide (0 ≤ t242) = true := decide_eq_true c48
                        clear c48
                        by_cases c49 : t243 ≥ 0
                        · rw [if_pos c49] at H
                          have c49b0 : decide (0 ≤ t243) = true := decide_eq_true c49
                          clear c49
                          have H' := Aside0.mk H
                          clear H
                          have hnb50 := NB239_238.out
                          have hnc50 := NB238_239.out
                          have hnb51 := NB239_240.out
                          have hnc51 := NB240_239.out
                          have hcz52_0 : w23.cell? ⟨gb239, 0, none⟩ = some (.int .i64 a1_0) := (blk_cell BK239.out 0).trans rfl
                          have hcz52_1 : w23.cell? ⟨gb239, 1, none⟩ = some (.int .i64 a1_1) := (blk_cell BK239.out 1).trans rfl
                          have hcz52_2 : w23.cell? ⟨gb239, 2, none⟩ = some (.int .i64 a1_2) := (blk_cell BK239.out 2).trans rfl
                          have hfz52_0 := blk_frozen BK239.out 0
                          have hfz52_1 := blk_frozen BK239.out 1
                          have hfz52_2 := blk_frozen BK239.out 2
                          have hnb53 := NB238_240.out
                          have hnc53 := NB240_238.out
                          have hcz54_0 : w23.cell? ⟨gb238, 0, none⟩ = some (.int .i64 a0_0) := (blk_cell BK238.out 0).trans rfl
                          have hcz54_1 : w23.cell? ⟨gb238, 1, none⟩ = some (.int .i64 a0_1) := (blk_cell BK238.out 1).trans rfl
                          have hcz54_2 : w23.cell? ⟨gb238, 2, none⟩ = some (.int .i64 a0_2) := (blk_cell BK238.out 2).trans rfl
                          have hfz54_0 := blk_frozen BK238.out 0
                          have hfz54_1 := blk_frozen BK238.out 1
                          have hfz54_2 := blk_frozen BK238.out 2
                          go_wp2_with (first | (go_at_call 17; (with_reducible refine (version_Compare.calls a1_0 a1_1 a1_2 a0_0 a0_1 a0_2 t245 _ A26.out).mono ?_); rintro e w55 ⟨rfl, hb⟩; have n0_ := Aside0.mk (blk_below (g := gb238) (o := .cells #[.int .i64 a0_0, .int .i64 a0_1, .int .i64 a0_2] 23 (0, 0)) (by (with_reducible repeat (first | refine blk_drewN ?_ _ | refine blk_drew ?_ | refine blk_alloc ?_ _)); exact BK238.out) hb); have n1_ := Aside0.mk (blk_below (g := gb239) (o := .cells #[.int .i64 a1_0, .int .i64 a1_1, .int .i64 a1_2] 23 (0, 0)) (by (with_reducible repeat (first | refine blk_drewN ?_ _ | refine blk_drew ?_ | refine blk_alloc ?_ _)); exact BK239.out) hb); have n2_ := Aside0.mk (blk_below (g := gb240) (o := .cells #[.int .i64 a2_0, .int .i64 a2_1, .int .i64 a2_2] 23 (0, 0)) (by (with_reducible repeat (first | refine blk_drewN ?_ _ | refine blk_drew ?_ | refine blk_alloc ?_ _)); exact BK240.out) hb); have n3_ := Aside0.mk (below_step (by repeat (first | (with_reducible first | exact HB.out | apply below_alloc | apply pw_below_drewN | apply below_drew1 | refine below_set ?_ GE238.out | refine below_set ?_ GE239.out | refine below_set ?_ GE240.out) | exact HB.out)) hb); clear BK238; clear BK239; clear BK240; clear HB; have BK238 := n0_; have BK239 := n1_; have BK240 := n2_; have HB := n3_; clear n0_ n1_ n2_ n3_; (try clear hb); (try clear hb2); (try clear hk); (try clear hi); have hcz56_0 : w55.cell? ⟨gb238, 0, none⟩ = some (.int .i64 a0_0) := (blk_cell BK238.out 0).trans rfl; have hcz56_1 : w55.cell? ⟨gb238, 1, none⟩ = some (.int .i64 a0_1) := (blk_cell BK238.out 1).trans rfl; have hcz56_2 : w55.cell? ⟨gb238, 2, none⟩ = some (.int .i64 a0_2) := (blk_cell BK238.out 2).trans rfl; have hfz56_0 := blk_frozen BK238.out 0; have hfz56_1 := blk_frozen BK238.out 1; have hfz56_2 := blk_frozen BK238.out 2; have hcz57_0 : w55.cell? ⟨gb239, 0, none⟩ = some (.int .i64 a1_0) := (blk_cell BK239.out 0).trans rfl; have hcz57_1 : w55.cell? ⟨gb239, 1, none⟩ = some (.int .i64 a1_1) := (blk_cell BK239.out 1).trans rfl; have hcz57_2 : w55.cell? ⟨gb239, 2, none⟩ = some (.int .i64 a1_2) := (blk_cell BK239.out 2).trans rfl; have hfz57_0 := blk_frozen BK239.out 0; have hfz57_1 := blk_frozen BK239.out 1; have hfz57_2 := blk_frozen BK239.out 2))
                          go_meet
                          case rel => exact ⟨_, (decide (t244 < 0)), (by first | rfl | (simp; done) | (simp [*]; done)), H', ⟨by first | omega | exact Nat.le_refl _⟩, ⟨by (with_reducible repeat (first | refine blk_drewN ?_ _ | refine blk_drew ?_ | refine blk_alloc ?_ _)); exact BK238.out⟩, ⟨by (with_reducible repeat (first | refine blk_drewN ?_ _ | refine blk_drew ?_ | refine blk_alloc ?_ _)); exact BK239.out⟩, ⟨by (with_reducible repeat (first | refine blk_drewN ?_ _ | refine blk_drew ?_ | refine blk_alloc ?_ _)); exact BK240.out⟩, ⟨by repeat (first | (with_reducible first | exact HB.out | apply below_alloc | apply pw_below_drewN | apply below_drew1 | refine below_set ?_ GE238.out | refine below_set ?_ GE239.out | refine below_set ?_ GE240.out) | exact HB.out)⟩⟩
                        · rw [if_neg c49] at H
                          have c49b0 : decide (0 ≤ t243) = false := decide_eq_false c49
                          clear c49
                          have H' := Aside0.mk H
                          clear H
                          have hnb58 := NB239_238.out
                          have hnc58 := NB238_239.out
                          have hnb59 := NB239_240.out
                          have hnc59 := NB240_239.out
                          have hcz60_0 : w23.cell? ⟨gb239, 0, none⟩ = some (.int .i64 a1_0) := (blk_cell BK239.out 0).trans rfl
                          have hcz60_1 : w23.cell? ⟨gb239, 1, none⟩ = some (.int .i64 a1_1) := (blk_cell BK239.out 1).trans rfl
                          have hcz60_2 : w23.cell? ⟨gb239, 2, none⟩ = some (.int .i64 a1_2) := (blk_cell BK239.out 2).trans rfl
                          have hfz60_0 := blk_frozen BK239.out 0
                          have hfz60_1 := blk_frozen BK239.out 1
                          have hfz60_2 := blk_frozen BK239.out 2
                          have hnb61 := NB238_240.out
                          have hnc61 := NB240_238.out
                          have hcz62_0 : w23.cell? ⟨gb238, 0, none⟩ = some (.int .i64 a0_0) := (blk_cell BK238.out 0).trans rfl
                          have hcz62_1 : w23.cell? ⟨gb238, 1, none⟩ = some (.int .i64 a0_1) := (blk_cell BK238.out 1).trans rfl
                          have hcz62_2 : w23.cell? ⟨gb238, 2, none⟩ = some (.int .i64 a0_2) := (blk_cell BK238.out 2).trans rfl
                          have hfz62_0 := blk_frozen BK238.out 0
                          have hfz62_1 := blk_frozen BK238.out 1
                          have hfz62_2 := blk_frozen BK238.out 2
                          go_wp2_with (first | (go_at_call 17; (with_reducible refine (version_Compare.calls a1_0 a1_1 a1_2 a0_0 a0_1 a0_2 t245 _ A26.out).mono ?_); rintro e w63 ⟨rfl, hb⟩; have n0_ := Aside0.mk (blk_below (g := gb238) (o := .cells #[.int .i64 a0_0, .int .i64 a0_1, .int .i64 a0_2] 23 (0, 0)) (by (with_reducible repeat (first | refine blk_drewN ?_ _ | refine blk_drew ?_ | refine blk_alloc ?_ _)); exact BK238.out) hb); have n1_ := Aside0.mk (blk_below (g := gb239) (o := .cells #[.int .i64 a1_0, .int .i64 a1_1, .int .i64 a1_2] 23 (0, 0)) (by (with_reducible repeat (first | refine blk_drewN ?_ _ | refine blk_drew ?_ | refine blk_alloc ?_ _)); exact BK239.out) hb); have n2_ := Aside0.mk (blk_below (g := gb240) (o := .cells #[.int .i64 a2_0, .int .i64 a2_1, .int .i64 a2_2] 23 (0, 0)) (by (with_reducible repeat (first | refine blk_drewN ?_ _ | refine blk_drew ?_ | refine blk_alloc ?_ _)); exact BK240.out) hb); have n3_ := Aside0.mk (below_step (by repeat (first | (with_reducible first | exact HB.out | apply below_alloc | apply pw_below_drewN | apply below_drew1 | refine below_set ?_ GE238.out | refine below_set ?_ GE239.out | refine below_set ?_ GE240.out) | exact HB.out)) hb); clear BK238; clear BK239; clear BK240; clear HB; have BK238 := n0_; have BK239 := n1_; have BK240 := n2_; have HB := n3_; clear n0_ n1_ n2_ n3_; (try clear hb); (try clear hb2); (try clear hk); (try clear hi); have hcz64_0 : w63.cell? ⟨gb238, 0, none⟩ = some (.int .i64 a0_0) := (blk_cell BK238.out 0).trans rfl; have hcz64_1 : w63.cell? ⟨gb238, 1, none⟩ = some (.int .i64 a0_1) := (blk_cell BK238.out 1).trans rfl; have hcz64_2 : w63.cell? ⟨gb238, 2, none⟩ = some (.int .i64 a0_2) := (blk_cell BK238.out 2).trans rfl; have hfz64_0 := blk_frozen BK238.out 0; have hfz64_1 := blk_frozen BK238.out 1; have hfz64_2 := blk_frozen BK238.out 2; have hcz65_0 : w63.cell? ⟨gb239, 0, none⟩ = some (.int .i64 a1_0) := (blk_cell BK239.out 0).trans rfl; have hcz65_1 : w63.cell? ⟨gb239, 1, none⟩ = some (.int .i64 a1_1) := (blk_cell BK239.out 1).trans rfl; have hcz65_2 : w63.cell? ⟨gb239, 2, none⟩ = some (.int .i64 a1_2) := (blk_cell BK239.out 2).trans rfl; have hfz65_0 := blk_frozen BK239.out 0; have hfz65_1 := blk_frozen BK239.out 1; have hfz65_2 := blk_frozen BK239.out 2))
                          go_meet
                          case rel => exact ⟨_, (false), (by first | rfl | (simp; done) | (simp [*]; done)), H', ⟨by first | omega | exact Nat.le_refl _⟩, ⟨by (with_reducible repeat (first | refine blk_drewN ?_ _ | refine blk_drew ?_ | refine blk_alloc ?_ _)); exact BK238.out⟩, ⟨by (with_reducible repeat (first | refine blk_drewN ?_ _ | refine blk_drew ?_ | refine blk_alloc ?_ _)); exact BK239.out⟩, ⟨by (with_reducible repeat (first | refine blk_drewN ?_ _ | refine blk_drew ?_ | refine blk_alloc ?_ _)); exact BK240.out⟩, ⟨by repeat (first | (with_reducible first | exact HB.out | apply below_alloc | apply pw_below_drewN | apply below_drew1 | refine below_set ?_ GE238.out | refine below_set ?_ GE239.out | refine below_set ?_ GE240.out) | exact HB.out)⟩⟩
                      · rw [if_neg c48] at H
                        have c48b0 : decide (0 ≤ t242) = false := decide_eq_false c48
                        clear c48
                        have H' := Aside0.mk H
                        clear H
                        have hnb66 := NB239_238.out
                        have hnc66 := NB238_239.out
                        have hnb67 := NB239_240.out
                        have hnc67 := NB240_239.out
                        have hcz68_0 : w23.cell? ⟨gb239, 0, none⟩ = some (.int .i64 a1_0) := (blk_cell BK239.out 0).trans rfl
                        have hcz68_1 : w23.cell? ⟨gb239, 1, none⟩ = some (.int .i64 a1_1) := (blk_cell BK239.out 1).trans rfl
                        have hcz68_2 : w23.cell? ⟨gb239, 2, none⟩ = some (.int .i64 a1_2) := (blk_cell BK239.out 2).trans rfl
                        have hfz68_0 := blk_frozen BK239.out 0
                        have hfz68_1 := blk_frozen BK239.out 1
                        have hfz68_2 := blk_frozen BK239.out 2
                        have hnb69 := NB238_240.out
                        have hnc69 := NB240_238.out
                        have hcz70_0 : w23.cell? ⟨gb238, 0, none⟩ = some (.int .i64 a0_0) := (blk_cell BK238.out 0).trans rfl
                        have hcz70_1 : w23.cell? ⟨gb238, 1, none⟩ = some (.int .i64 a0_1) := (blk_cell BK238.out 1).trans rfl
                        have hcz70_2 : w23.cell? ⟨gb238, 2, none⟩ = some (.int .i64 a0_2) := (blk_cell BK238.out 2).trans rfl
                        have hfz70_0 := blk_frozen BK238.out 0
                        have hfz70_1 := blk_frozen BK238.out 1
                        have hfz70_2 := blk_frozen BK238.out 2
                        go_wp2_with (first | (go_at_call 17; (with_reducible refine (version_Compare.calls a1_0 a1_1 a1_2 a0_0 a0_1 a0_2 t245 _ A26.out).mono ?_); rintro e w71 ⟨rfl, hb⟩; have n0_ := Aside0.mk (blk_below (g := gb238) (o := .cells #[.int .i64 a0_0, .int .i64 a0_1, .int .i64 a0_2] 23 (0, 0)) (by (with_reducible repeat (first | refine blk_drewN ?_ _ | refine blk_drew ?_ | refine blk_alloc ?_ _)); exact BK238.out) hb); have n1_ := Aside0.mk (blk_below (g := gb239) (o := .cells #[.int .i64 a1_0, .int .i64 a1_1, .int .i64 a1_2] 23 (0, 0)) (by (with_reducible repeat (first | refine blk_drewN ?_ _ | refine blk_drew ?_ | refine blk_alloc ?_ _)); exact BK239.out) hb); have n2_ := Aside0.mk (blk_below (g := gb240) (o := .cells #[.int .i64 a2_0, .int .i64 a2_1, .int .i64 a2_2] 23 (0, 0)) (by (with_reducible repeat (first | refine blk_drewN ?_ _ | refine blk_drew ?_ | refine blk_alloc ?_ _)); exact BK240.out) hb); have n3_ := Aside0.mk (below_step (by repeat (first | (with_reducible first | exact HB.out | apply below_alloc | apply pw_below_drewN | apply below_drew1 | refine below_set ?_ GE238.out | refine below_set ?_ GE239.out | refine below_set ?_ GE240.out) | exact HB.out)) hb); clear BK238; clear BK239; clear BK240; clear HB; have BK238 := n0_; have BK239 := n1_; have BK240 := n2_; have HB := n3_; clear n0_ n1_ n2_ n3_; (try clear hb); (try clear hb2); (try clear hk); (try clear hi); have hcz72_0 : w71.cell? ⟨gb238, 0, none⟩ = some (.int .i64 a0_0) := (blk_cell BK238.out 0).trans rfl; have hcz72_1 : w71.cell? ⟨gb238, 1, none⟩ = some (.int .i64 a0_1) := (blk_cell BK238.out 1).trans rfl; have hcz72_2 : w71.cell? ⟨gb238, 2, none⟩ = some (.int .i64 a0_2) := (blk_cell BK238.out 2).trans rfl; have hfz72_0 := blk_frozen BK238.out 0; have hfz72_1 := blk_frozen BK238.out 1; have hfz72_2 := blk_frozen BK238.out 2; have hcz73_0 : w71.cell? ⟨gb239, 0, none⟩ = some (.int .i64 a1_0) := (blk_cell BK239.out 0).trans rfl; have hcz73_1 : w71.cell? ⟨gb239, 1, none⟩ = some (.int .i64 a1_1) := (blk_cell BK239.out 1).trans rfl; have hcz73_2 : w71.cell? ⟨gb239, 2, none⟩ = some (.int .i64 a1_2) := (blk_cell BK239.out 2).trans rfl; have hfz73_0 := blk_frozen BK239.out 0; have hfz73_1 := blk_frozen BK239.out 1; have hfz73_2 := blk_frozen BK239.out 2))
                        go_meet
                        case rel => exact ⟨_, (false), (by first | rfl | (simp; done) | (simp [*]; done)), H', ⟨by first | omega | exact Nat.le_refl _⟩, ⟨by (with_reducible repeat (first | refine blk_drewN ?_ _ | refine blk_drew ?_ | refine blk_alloc ?_ _)); exact BK238.out⟩, ⟨by (with_reducible repeat (first | refine blk_drewN ?_ _ | refine blk_drew ?_ | refine blk_alloc ?_ _)); exact BK239.out⟩, ⟨by (with_reducible repeat (first | refine blk_drewN ?_ _ | refine blk_drew ?_ | refine blk_alloc ?_ _)); exact BK240.out⟩, ⟨by repeat (first | (with_reducible first | exact HB.out | apply below_alloc | apply pw_below_drewN | apply below_drew1 | refine below_set ?_ GE238.out | refine below_set ?_ GE239.out | refine below_set ?_ GE240.out) | exact HB.out)⟩⟩
                  · rw [if_neg c38] at H
                    have c38b0 : decide (t243 ≤ 0) = false := decide_eq_false c38
                    clear c38
                    by_cases c74 : t242 ≥ 0
                    · rw [if_pos c74] at H
                      have c74b0 : decide (0 ≤ t242) = true := decide_eq_true c74
                      clear c74
                      by_cases c75 : t243 ≥ 0
                      · rw [if_pos c75] at H
                        have c75b0 : decide (0 ≤ t243) = true := decide_eq_true c75
                        clear c75
                        have H' := Aside0.mk H
                        clear H
                        have hnb76 := NB239_238.out
                        have hnc76 := NB238_239.out
                        have hnb77 := NB239_240.out
                        have hnc77 := NB240_239.out
                        have hcz78_0 : w23.cell? ⟨gb239, 0, none⟩ = some (.int .i64 a1_0) := (blk_cell BK239.out 0).trans rfl
                        have hcz78_1 : w23.cell? ⟨gb239, 1, none⟩ = some (.int .i64 a1_1) := (blk_cell BK239.out 1).trans rfl
                        have hcz78_2 : w23.cell? ⟨gb239, 2, none⟩ = some (.int .i64 a1_2) := (blk_cell BK239.out 2).trans rfl
                        have hfz78_0 := blk_frozen BK239.out 0
                        have hfz78_1 := blk_frozen BK239.out 1
                        have hfz78_2 := blk_frozen BK239.out 2
                        have hnb79 := NB238_240.out
                        have hnc79 := NB240_238.out
                        have hcz80_0 : w23.cell? ⟨gb238, 0, none⟩ = some (.int .i64 a0_0) := (blk_cell BK238.out 0).trans rfl
                        have hcz80_1 : w23.cell? ⟨gb238, 1, none⟩ = some (.int .i64 a0_1) := (blk_cell BK238.out 1).trans rfl
                        have hcz80_2 : w23.cell? ⟨gb238, 2, none⟩ = some (.int .i64 a0_2) := (blk_cell BK238.out 2).trans rfl
                        have hfz80_0 := blk_frozen BK238.out 0
                        have hfz80_1 := blk_frozen BK238.out 1
                        have hfz80_2 := blk_frozen BK238.out 2
                        go_wp2_with (first | (go_at_call 17; (with_reducible refine (version_Compare.calls a1_0 a1_1 a1_2 a0_0 a0_1 a0_2 t245 _ A26.out).mono ?_); rintro e w81 ⟨rfl, hb⟩; have n0_ := Aside0.mk (blk_below (g := gb238) (o := .cells #[.int .i64 a0_0, .int .i64 a0_1, .int .i64 a0_2] 23 (0, 0)) (by (with_reducible repeat (first | refine blk_drewN ?_ _ | refine blk_drew ?_ | refine blk_alloc ?_ _)); exact BK238.out) hb); have n1_ := Aside0.mk (blk_below (g := gb239) (o := .cells #[.int .i64 a1_0, .int .i64 a1_1, .int .i64 a1_2] 23 (0, 0)) (by (with_reducible repeat (first | refine blk_drewN ?_ _ | refine blk_drew ?_ | refine blk_alloc ?_ _)); exact BK239.out) hb); have n2_ := Aside0.mk (blk_below (g := gb240) (o := .cells #[.int .i64 a2_0, .int .i64 a2_1, .int .i64 a2_2] 23 (0, 0)) (by (with_reducible repeat (first | refine blk_drewN ?_ _ | refine blk_drew ?_ | refine blk_alloc ?_ _)); exact BK240.out) hb); have n3_ := Aside0.mk (below_step (by repeat (first | (with_reducible first | exact HB.out | apply below_alloc | apply pw_below_drewN | apply below_drew1 | refine below_set ?_ GE238.out | refine below_set ?_ GE239.out | refine below_set ?_ GE240.out) | exact HB.out)) hb); clear BK238; clear BK239; clear BK240; clear HB; have BK238 := n0_; have BK239 := n1_; have BK240 := n2_; have HB := n3_; clear n0_ n1_ n2_ n3_; (try clear hb); (try clear hb2); (try clear hk); (try clear hi); have hcz82_0 : w81.cell? ⟨gb238, 0, none⟩ = some (.int .i64 a0_0) := (blk_cell BK238.out 0).trans rfl; have hcz82_1 : w81.cell? ⟨gb238, 1, none⟩ = some (.int .i64 a0_1) := (blk_cell BK238.out 1).trans rfl; have hcz82_2 : w81.cell? ⟨gb238, 2, none⟩ = some (.int .i64 a0_2) := (blk_cell BK238.out 2).trans rfl; have hfz82_0 := blk_frozen BK238.out 0; have hfz82_1 := blk_frozen BK238.out 1; have hfz82_2 := blk_frozen BK238.out 2; have hcz83_0 : w81.cell? ⟨gb239, 0, none⟩ = some (.int .i64 a1_0) := (blk_cell BK239.out 0).trans rfl; have hcz83_1 : w81.cell? ⟨gb239, 1, none⟩ = some (.int .i64 a1_1) := (blk_cell BK239.out 1).trans rfl; have hcz83_2 : w81.cell? ⟨gb239, 2, none⟩ = some (.int .i64 a1_2) := (blk_cell BK239.out 2).trans rfl; have hfz83_0 := blk_frozen BK239.out 0; have hfz83_1 := blk_frozen BK239.out 1; have hfz83_2 := blk_frozen BK239.out 2))
                        go_meet
                        case rel => exact ⟨_, (decide (t244 < 0)), (by first | rfl | (simp; done) | (simp [*]; done)), H', ⟨by first | omega | exact Nat.le_refl _⟩, ⟨by (with_reducible repeat (first | refine blk_drewN ?_ _ | refine blk_drew ?_ | refine blk_alloc ?_ _)); exact BK238.out⟩, ⟨by (with_reducible repeat (first | refine blk_drewN ?_ _ | refine blk_drew ?_ | refine blk_alloc ?_ _)); exact BK239.out⟩, ⟨by (with_reducible repeat (first | refine blk_drewN ?_ _ | refine blk_drew ?_ | refine blk_alloc ?_ _)); exact BK240.out⟩, ⟨by repeat (first | (with_reducible first | exact HB.out | apply below_alloc | apply pw_below_drewN | apply below_drew1 | refine below_set ?_ GE238.out | refine below_set ?_ GE239.out | refine below_set ?_ GE240.out) | exact HB.out)⟩⟩
                      · rw [if_neg c75] at H
                        have c75b0 : decide (0 ≤ t243) = false := decide_eq_false c75
                        clear c75
                        have H' := Aside0.mk H
                        clear H
                        have hnb84 := NB239_238.out
                        have hnc84 := NB238_239.out
                        have hnb85 := NB239_240.out
                        have hnc85 := NB240_239.out
                        have hcz86_0 : w23.cell? ⟨gb239, 0, none⟩ = some (.int .i64 a1_0) := (blk_cell BK239.out 0).trans rfl
                        have hcz86_1 : w23.cell? ⟨gb239, 1, none⟩ = some (.int .i64 a1_1) := (blk_cell BK239.out 1).trans rfl
                        have hcz86_2 : w23.cell? ⟨gb239, 2, none⟩ = some (.int .i64 a1_2) := (blk_cell BK239.out 2).trans rfl
                        have hfz86_0 := blk_frozen BK239.out 0
                        have hfz86_1 := blk_frozen BK239.out 1
                        have hfz86_2 := blk_frozen BK239.out 2
                        have hnb87 := NB238_240.out
                        have hnc87 := NB240_238.out
                        have hcz88_0 : w23.cell? ⟨gb238, 0, none⟩ = some (.int .i64 a0_0) := (blk_cell BK238.out 0).trans rfl
                        have hcz88_1 : w23.cell? ⟨gb238, 1, none⟩ = some (.int .i64 a0_1) := (blk_cell BK238.out 1).trans rfl
                        have hcz88_2 : w23.cell? ⟨gb238, 2, none⟩ = some (.int .i64 a0_2) := (blk_cell BK238.out 2).trans rfl
                        have hfz88_0 := blk_frozen BK238.out 0
                        have hfz88_1 := blk_frozen BK238.out 1
                        have hfz88_2 := blk_frozen BK238.out 2
                        go_wp2_with (first | (go_at_call 17; (with_reducible refine (version_Compare.calls a1_0 a1_1 a1_2 a0_0 a0_1 a0_2 t245 _ A26.out).mono ?_); rintro e w89 ⟨rfl, hb⟩; have n0_ := Aside0.mk (blk_below (g := gb238) (o := .cells #[.int .i64 a0_0, .int .i64 a0_1, .int .i64 a0_2] 23 (0, 0)) (by (with_reducible repeat (first | refine blk_drewN ?_ _ | refine blk_drew ?_ | refine blk_alloc ?_ _)); exact BK238.out) hb); have n1_ := Aside0.mk (blk_below (g := gb239) (o := .cells #[.int .i64 a1_0, .int .i64 a1_1, .int .i64 a1_2] 23 (0, 0)) (by (with_reducible repeat (first | refine blk_drewN ?_ _ | refine blk_drew ?_ | refine blk_alloc ?_ _)); exact BK239.out) hb); have n2_ := Aside0.mk (blk_below (g := gb240) (o := .cells #[.int .i64 a2_0, .int .i64 a2_1, .int .i64 a2_2] 23 (0, 0)) (by (with_reducible repeat (first | refine blk_drewN ?_ _ | refine blk_drew ?_ | refine blk_alloc ?_ _)); exact BK240.out) hb); have n3_ := Aside0.mk (below_step (by repeat (first | (with_reducible first | exact HB.out | apply below_alloc | apply pw_below_drewN | apply below_drew1 | refine below_set ?_ GE238.out | refine below_set ?_ GE239.out | refine below_set ?_ GE240.out) | exact HB.out)) hb); clear BK238; clear BK239; clear BK240; clear HB; have BK238 := n0_; have BK239 := n1_; have BK240 := n2_; have HB := n3_; clear n0_ n1_ n2_ n3_; (try clear hb); (try clear hb2); (try clear hk); (try clear hi); have hcz90_0 : w89.cell? ⟨gb238, 0, none⟩ = some (.int .i64 a0_0) := (blk_cell BK238.out 0).trans rfl; have hcz90_1 : w89.cell? ⟨gb238, 1, none⟩ = some (.int .i64 a0_1) := (blk_cell BK238.out 1).trans rfl; have hcz90_2 : w89.cell? ⟨gb238, 2, none⟩ = some (.int .i64 a0_2) := (blk_cell BK238.out 2).trans rfl; have hfz90_0 := blk_frozen BK238.out 0; have hfz90_1 := blk_frozen BK238.out 1; have hfz90_2 := blk_frozen BK238.out 2; have hcz91_0 : w89.cell? ⟨gb239, 0, none⟩ = some (.int .i64 a1_0) := (blk_cell BK239.out 0).trans rfl; have hcz91_1 : w89.cell? ⟨gb239, 1, none⟩ = some (.int .i64 a1_1) := (blk_cell BK239.out 1).trans rfl; have hcz91_2 : w89.cell? ⟨gb239, 2, none⟩ = some (.int .i64 a1_2) := (blk_cell BK239.out 2).trans rfl; have hfz91_0 := blk_frozen BK239.out 0; have hfz91_1 := blk_frozen BK239.out 1; have hfz91_2 := blk_frozen BK239.out 2))
                        go_meet
                        case rel => exact ⟨_, (false), (by first | rfl | (simp; done) | (simp [*]; done)), H', ⟨by first | omega | exact Nat.le_refl _⟩, ⟨by (with_reducible repeat (first | refine blk_drewN ?_ _ | refine blk_drew ?_ | refine blk_alloc ?_ _)); exact BK238.out⟩, ⟨by (with_reducible repeat (first | refine blk_drewN ?_ _ | refine blk_drew ?_ | refine blk_alloc ?_ _)); exact BK239.out⟩, ⟨by (with_reducible repeat (first | refine blk_drewN ?_ _ | refine blk_drew ?_ | refine blk_alloc ?_ _)); exact BK240.out⟩, ⟨by repeat (first | (with_reducible first | exact HB.out | apply below_alloc | apply pw_below_drewN | apply below_drew1 | refine below_set ?_ GE238.out | refine below_set ?_ GE239.out | refine below_set ?_ GE240.out) | exact HB.out)⟩⟩
                    · rw [if_neg c74] at H
                      have c74b0 : decide (0 ≤ t242) = false := decide_eq_false c74
                      clear c74
                      have H' := Aside0.mk H
                      clear H
                      have hnb92 := NB239_238.out
                      have hnc92 := NB238_239.out
                      have hnb93 := NB239_240.out
                      have hnc93 := NB240_239.out
                      have hcz94_0 : w23.cell? ⟨gb239, 0, none⟩ = some (.int .i64 a1_0) := (blk_cell BK239.out 0).trans rfl
                      have hcz94_1 : w23.cell? ⟨gb239, 1, none⟩ = some (.int .i64 a1_1) := (blk_cell BK239.out 1).trans rfl
                      have hcz94_2 : w23.cell? ⟨gb239, 2, none⟩ = some (.int .i64 a1_2) := (blk_cell BK239.out 2).trans rfl
                      have hfz94_0 := blk_frozen BK239.out 0
                      have hfz94_1 := blk_frozen BK239.out 1
                      have hfz94_2 := blk_frozen BK239.out 2
                      have hnb95 := NB238_240.out
                      have hnc95 := NB240_238.out
                      have hcz96_0 : w23.cell? ⟨gb238, 0, none⟩ = some (.int .i64 a0_0) := (blk_cell BK238.out 0).trans rfl
                      have hcz96_1 : w23.cell? ⟨gb238, 1, none⟩ = some (.int .i64 a0_1) := (blk_cell BK238.out 1).trans rfl
                      have hcz96_2 : w23.cell? ⟨gb238, 2, none⟩ = some (.int .i64 a0_2) := (blk_cell BK238.out 2).trans rfl
                      have hfz96_0 := blk_frozen BK238.out 0
                      have hfz96_1 := blk_frozen BK238.out 1
                      have hfz96_2 := blk_frozen BK238.out 2
                      go_wp2_with (first | (go_at_call 17; (with_reducible refine (version_Compare.calls a1_0 a1_1 a1_2 a0_0 a0_1 a0_2 t245 _ A26.out).mono ?_); rintro e w97 ⟨rfl, hb⟩; have n0_ := Aside0.mk (blk_below (g := gb238) (o := .cells #[.int .i64 a0_0, .int .i64 a0_1, .int .i64 a0_2] 23 (0, 0)) (by (with_reducible repeat (first | refine blk_drewN ?_ _ | refine blk_drew ?_ | refine blk_alloc ?_ _)); exact BK238.out) hb); have n1_ := Aside0.mk (blk_below (g := gb239) (o := .cells #[.int .i64 a1_0, .int .i64 a1_1, .int .i64 a1_2] 23 (0, 0)) (by (with_reducible repeat (first | refine blk_drewN ?_ _ | refine blk_drew ?_ | refine blk_alloc ?_ _)); exact BK239.out) hb); have n2_ := Aside0.mk (blk_below (g := gb240) (o := .cells #[.int .i64 a2_0, .int .i64 a2_1, .int .i64 a2_2] 23 (0, 0)) (by (with_reducible repeat (first | refine blk_drewN ?_ _ | refine blk_drew ?_ | refine blk_alloc ?_ _)); exact BK240.out) hb); have n3_ := Aside0.mk (below_step (by repeat (first | (with_reducible first | exact HB.out | apply below_alloc | apply pw_below_drewN | apply below_drew1 | refine below_set ?_ GE238.out | refine below_set ?_ GE239.out | refine below_set ?_ GE240.out) | exact HB.out)) hb); clear BK238; clear BK239; clear BK240; clear HB; have BK238 := n0_; have BK239 := n1_; have BK240 := n2_; have HB := n3_; clear n0_ n1_ n2_ n3_; (try clear hb); (try clear hb2); (try clear hk); (try clear hi); have hcz98_0 : w97.cell? ⟨gb238, 0, none⟩ = some (.int .i64 a0_0) := (blk_cell BK238.out 0).trans rfl; have hcz98_1 : w97.cell? ⟨gb238, 1, none⟩ = some (.int .i64 a0_1) := (blk_cell BK238.out 1).trans rfl; have hcz98_2 : w97.cell? ⟨gb238, 2, none⟩ = some (.int .i64 a0_2) := (blk_cell BK238.out 2).trans rfl; have hfz98_0 := blk_frozen BK238.out 0; have hfz98_1 := blk_frozen BK238.out 1; have hfz98_2 := blk_frozen BK238.out 2; have hcz99_0 : w97.cell? ⟨gb239, 0, none⟩ = some (.int .i64 a1_0) := (blk_cell BK239.out 0).trans rfl; have hcz99_1 : w97.cell? ⟨gb239, 1, none⟩ = some (.int .i64 a1_1) := (blk_cell BK239.out 1).trans rfl; have hcz99_2 : w97.cell? ⟨gb239, 2, none⟩ = some (.int .i64 a1_2) := (blk_cell BK239.out 2).trans rfl; have hfz99_0 := blk_frozen BK239.out 0; have hfz99_1 := blk_frozen BK239.out 1; have hfz99_2 := blk_frozen BK239.out 2))
                      go_meet
                      case rel => exact ⟨_, (false), (by first | rfl | (simp; done) | (simp [*]; done)), H', ⟨by first | omega | exact Nat.le_refl _⟩, ⟨by (with_reducible repeat (first | refine blk_drewN ?_ _ | refine blk_drew ?_ | refine blk_alloc ?_ _)); exact BK238.out⟩, ⟨by (with_reducible repeat (first | refine blk_drewN ?_ _ | refine blk_drew ?_ | refine blk_alloc ?_ _)); exact BK239.out⟩, ⟨by (with_reducible repeat (first | refine blk_drewN ?_ _ | refine blk_drew ?_ | refine blk_alloc ?_ _)); exact BK240.out⟩, ⟨by repeat (first | (with_reducible first | exact HB.out | apply below_alloc | apply pw_below_drewN | apply below_drew1 | refine below_set ?_ GE238.out | refine below_set ?_ GE239.out | refine below_set ?_ GE240.out) | exact HB.out)⟩⟩
                · rw [if_neg c37] at H
                  have c37b0 : decide (t242 ≤ 0) = false := decide_eq_false c37
                  clear c37
                  by_cases c100 : t242 ≥ 0
                  · rw [if_pos c100] at H
                    have c100b0 : decide (0 ≤ t242) = true := decide_eq_true c100
                    clear c100
                    by_cases c101 : t243 ≥ 0
                    · rw [if_pos c101] at H
                      have c101b0 : decide (0 ≤ t243) = true := decide_eq_true c101
                      clear c101
                      have H' := Aside0.mk H
                      clear H
                      have hnb102 := NB239_238.out
                      have hnc102 := NB238_239.out
                      have hnb103 := NB239_240.out
                      have hnc103 := NB240_239.out
                      have hcz104_0 : w23.cell? ⟨gb239, 0, none⟩ = some (.int .i64 a1_0) := (blk_cell BK239.out 0).trans rfl
                      have hcz104_1 : w23.cell? ⟨gb239, 1, none⟩ = some (.int .i64 a1_1) := (blk_cell BK239.out 1).trans rfl
                      have hcz104_2 : w23.cell? ⟨gb239, 2, none⟩ = some (.int .i64 a1_2) := (blk_cell BK239.out 2).trans rfl
                      have hfz104_0 := blk_frozen BK239.out 0
                      have hfz104_1 := blk_frozen BK239.out 1
                      have hfz104_2 := blk_frozen BK239.out 2
                      have hnb105 := NB238_240.out
                      have hnc105 := NB240_238.out
                      have hcz106_0 : w23.cell? ⟨gb238, 0, none⟩ = some (.int .i64 a0_0) := (blk_cell BK238.out 0).trans rfl
                      have hcz106_1 : w23.cell? ⟨gb238, 1, none⟩ = some (.int .i64 a0_1) := (blk_cell BK238.out 1).trans rfl
                      have hcz106_2 : w23.cell? ⟨gb238, 2, none⟩ = some (.int .i64 a0_2) := (blk_cell BK238.out 2).trans rfl
                      have hfz106_0 := blk_frozen BK238.out 0
                      have hfz106_1 := blk_frozen BK238.out 1
                      have hfz106_2 := blk_frozen BK238.out 2
                      go_wp2_with (first | (go_at_call 17; (with_reducible refine (version_Compare.calls a1_0 a1_1 a1_2 a0_0 a0_1 a0_2 t245 _ A26.out).mono ?_); rintro e w107 ⟨rfl, hb⟩; have n0_ := Aside0.mk (blk_below (g := gb238) (o := .cells #[.int .i64 a0_0, .int .i64 a0_1, .int .i64 a0_2] 23 (0, 0)) (by (with_reducible repeat (first | refine blk_drewN ?_ _ | refine blk_drew ?_ | refine blk_alloc ?_ _)); exact BK238.out) hb); have n1_ := Aside0.mk (blk_below (g := gb239) (o := .cells #[.int .i64 a1_0, .int .i64 a1_1, .int .i64 a1_2] 23 (0, 0)) (by (with_reducible repeat (first | refine blk_drewN ?_ _ | refine blk_drew ?_ | refine blk_alloc ?_ _)); exact BK239.out) hb); have n2_ := Aside0.mk (blk_below (g := gb240) (o := .cells #[.int .i64 a2_0, .int .i64 a2_1, .int .i64 a2_2] 23 (0, 0)) (by (with_reducible repeat (first | refine blk_drewN ?_ _ | refine blk_drew ?_ | refine blk_alloc ?_ _)); exact BK240.out) hb); have n3_ := Aside0.mk (below_step (by repeat (first | (with_reducible first | exact HB.out | apply below_alloc | apply pw_below_drewN | apply below_drew1 | refine below_set ?_ GE238.out | refine below_set ?_ GE239.out | refine below_set ?_ GE240.out) | exact HB.out)) hb); clear BK238; clear BK239; clear BK240; clear HB; have BK238 := n0_; have BK239 := n1_; have BK240 := n2_; have HB := n3_; clear n0_ n1_ n2_ n3_; (try clear hb); (try clear hb2); (try clear hk); (try clear hi); have hcz108_0 : w107.cell? ⟨gb238, 0, none⟩ = some (.int .i64 a0_0) := (blk_cell BK238.out 0).trans rfl; have hcz108_1 : w107.cell? ⟨gb238, 1, none⟩ = some (.int .i64 a0_1) := (blk_cell BK238.out 1).trans rfl; have hcz108_2 : w107.cell? ⟨gb238, 2, none⟩ = some (.int .i64 a0_2) := (blk_cell BK238.out 2).trans rfl; have hfz108_0 := blk_frozen BK238.out 0; have hfz108_1 := blk_frozen BK238.out 1; have hfz108_2 := blk_frozen BK238.out 2; have hcz109_0 : w107.cell? ⟨gb239, 0, none⟩ = some (.int .i64 a1_0) := (blk_cell BK239.out 0).trans rfl; have hcz109_1 : w107.cell? ⟨gb239, 1, none⟩ = some (.int .i64 a1_1) := (blk_cell BK239.out 1).trans rfl; have hcz109_2 : w107.cell? ⟨gb239, 2, none⟩ = some (.int .i64 a1_2) := (blk_cell BK239.out 2).trans rfl; have hfz109_0 := blk_frozen BK239.out 0; have hfz109_1 := blk_frozen BK239.out 1; have hfz109_2 := blk_frozen BK239.out 2))
                      go_meet
                      case rel => exact ⟨_, (decide (t244 < 0)), (by first | rfl | (simp; done) | (simp [*]; done)), H', ⟨by first | omega | exact Nat.le_refl _⟩, ⟨by (with_reducible repeat (first | refine blk_drewN ?_ _ | refine blk_drew ?_ | refine blk_alloc ?_ _)); exact BK238.out⟩, ⟨by (with_reducible repeat (first | refine blk_drewN ?_ _ | refine blk_drew ?_ | refine blk_alloc ?_ _)); exact BK239.out⟩, ⟨by (with_reducible repeat (first | refine blk_drewN ?_ _ | refine blk_drew ?_ | refine blk_alloc ?_ _)); exact BK240.out⟩, ⟨by repeat (first | (with_reducible first | exact HB.out | apply below_alloc | apply pw_below_drewN | apply below_drew1 | refine below_set ?_ GE238.out | refine below_set ?_ GE239.out | refine below_set ?_ GE240.out) | exact HB.out)⟩⟩
                    · rw [if_neg c101] at H
                      have c101b0 : decide (0 ≤ t243) = false := decide_eq_false c101
                      clear c101
                      have H' := Aside0.mk H
                      clear H
                      have hnb110 := NB239_238.out
                      have hnc110 := NB238_239.out
                      have hnb111 := NB239_240.out
                      have hnc111 := NB240_239.out
                      have hcz112_0 : w23.cell? ⟨gb239, 0, none⟩ = some (.int .i64 a1_0) := (blk_cell BK239.out 0).trans rfl
                      have hcz112_1 : w23.cell? ⟨gb239, 1, none⟩ = some (.int .i64 a1_1) := (blk_cell BK239.out 1).trans rfl
                      have hcz112_2 : w23.cell? ⟨gb239, 2, none⟩ = some (.int .i64 a1_2) := (blk_cell BK239.out 2).trans rfl
                      have hfz112_0 := blk_frozen BK239.out 0
                      have hfz112_1 := blk_frozen BK239.out 1
                      have hfz112_2 := blk_frozen BK239.out 2
                      have hnb113 := NB238_240.out
                      have hnc113 := NB240_238.out
                      have hcz114_0 : w23.cell? ⟨gb238, 0, none⟩ = some (.int .i64 a0_0) := (blk_cell BK238.out 0).trans rfl
                      have hcz114_1 : w23.cell? ⟨gb238, 1, none⟩ = some (.int .i64 a0_1) := (blk_cell BK238.out 1).trans rfl
                      have hcz114_2 : w23.cell? ⟨gb238, 2, none⟩ = some (.int .i64 a0_2) := (blk_cell BK238.out 2).trans rfl
                      have hfz114_0 := blk_frozen BK238.out 0
                      have hfz114_1 := blk_frozen BK238.out 1
                      have hfz114_2 := blk_frozen BK238.out 2
                      go_wp2_with (first | (go_at_call 17; (with_reducible refine (version_Compare.calls a1_0 a1_1 a1_2 a0_0 a0_1 a0_2 t245 _ A26.out).mono ?_); rintro e w115 ⟨rfl, hb⟩; have n0_ := Aside0.mk (blk_below (g := gb238) (o := .cells #[.int .i64 a0_0, .int .i64 a0_1, .int .i64 a0_2] 23 (0, 0)) (by (with_reducible repeat (first | refine blk_drewN ?_ _ | refine blk_drew ?_ | refine blk_alloc ?_ _)); exact BK238.out) hb); have n1_ := Aside0.mk (blk_below (g := gb239) (o := .cells #[.int .i64 a1_0, .int .i64 a1_1, .int .i64 a1_2] 23 (0, 0)) (by (with_reducible repeat (first | refine blk_drewN ?_ _ | refine blk_drew ?_ | refine blk_alloc ?_ _)); exact BK239.out) hb); have n2_ := Aside0.mk (blk_below (g := gb240) (o := .cells #[.int .i64 a2_0, .int .i64 a2_1, .int .i64 a2_2] 23 (0, 0)) (by (with_reducible repeat (first | refine blk_drewN ?_ _ | refine blk_drew ?_ | refine blk_alloc ?_ _)); exact BK240.out) hb); have n3_ := Aside0.mk (below_step (by repeat (first | (with_reducible first | exact HB.out | apply below_alloc | apply pw_below_drewN | apply below_drew1 | refine below_set ?_ GE238.out | refine below_set ?_ GE239.out | refine below_set ?_ GE240.out) | exact HB.out)) hb); clear BK238; clear BK239; clear BK240; clear HB; have BK238 := n0_; have BK239 := n1_; have BK240 := n2_; have HB := n3_; clear n0_ n1_ n2_ n3_; (try clear hb); (try clear hb2); (try clear hk); (try clear hi); have hcz116_0 : w115.cell? ⟨gb238, 0, none⟩ = some (.int .i64 a0_0) := (blk_cell BK238.out 0).trans rfl; have hcz116_1 : w115.cell? ⟨gb238, 1, none⟩ = some (.int .i64 a0_1) := (blk_cell BK238.out 1).trans rfl; have hcz116_2 : w115.cell? ⟨gb238, 2, none⟩ = some (.int .i64 a0_2) := (blk_cell BK238.out 2).trans rfl; have hfz116_0 := blk_frozen BK238.out 0; have hfz116_1 := blk_frozen BK238.out 1; have hfz116_2 := blk_frozen BK238.out 2; have hcz117_0 : w115.cell? ⟨gb239, 0, none⟩ = some (.int .i64 a1_0) := (blk_cell BK239.out 0).trans rfl; have hcz117_1 : w115.cell? ⟨gb239, 1, none⟩ = some (.int .i64 a1_1) := (blk_cell BK239.out 1).trans rfl; have hcz117_2 : w115.cell? ⟨gb239, 2, none⟩ = some (.int .i64 a1_2) := (blk_cell BK239.out 2).trans rfl; have hfz117_0 := blk_frozen BK239.out 0; have hfz117_1 := blk_frozen BK239.out 1; have hfz117_2 := blk_frozen BK239.out 2))
                      go_meet
                      case rel => exact ⟨_, (false), (by first | rfl | (simp; done) | (simp [*]; done)), H', ⟨by first | omega | exact Nat.le_refl _⟩, ⟨by (with_reducible repeat (first | refine blk_drewN ?_ _ | refine blk_drew ?_ | refine blk_alloc ?_ _)); exact BK238.out⟩, ⟨by (with_reducible repeat (first | refine blk_drewN ?_ _ | refine blk_drew ?_ | refine blk_alloc ?_ _)); exact BK239.out⟩, ⟨by (with_reducible repeat (first | refine blk_drewN ?_ _ | refine blk_drew ?_ | refine blk_alloc ?_ _)); exact BK240.out⟩, ⟨by repeat (first | (with_reducible first | exact HB.out | apply below_alloc | apply pw_below_drewN | apply below_drew1 | refine below_set ?_ GE238.out | refine below_set ?_ GE239.out | refine below_set ?_ GE240.out) | exact HB.out)⟩⟩
                  · rw [if_neg c100] at H
                    have c100b0 : decide (0 ≤ t242) = false := decide_eq_false c100
                    clear c100
                    have H' := Aside0.mk H
                    clear H
                    have hnb118 := NB239_238.out
                    have hnc118 := NB238_239.out
                    have hnb119 := NB239_240.out
                    have hnc119 := NB240_239.out
                    have hcz120_0 : w23.cell? ⟨gb239, 0, none⟩ = some (.int .i64 a1_0) := (blk_cell BK239.out 0).trans rfl
                    have hcz120_1 : w23.cell? ⟨gb239, 1, none⟩ = some (.int .i64 a1_1) := (blk_cell BK239.out 1).trans rfl
                    have hcz120_2 : w23.cell? ⟨gb239, 2, none⟩ = some (.int .i64 a1_2) := (blk_cell BK239.out 2).trans rfl
                    have hfz120_0 := blk_frozen BK239.out 0
                    have hfz120_1 := blk_frozen BK239.out 1
                    have hfz120_2 := blk_frozen BK239.out 2
                    have hnb121 := NB238_240.out
                    have hnc121 := NB240_238.out
                    have hcz122_0 : w23.cell? ⟨gb238, 0, none⟩ = some (.int .i64 a0_0) := (blk_cell BK238.out 0).trans rfl
                    have hcz122_1 : w23.cell? ⟨gb238, 1, none⟩ = some (.int .i64 a0_1) := (blk_cell BK238.out 1).trans rfl
                    have hcz122_2 : w23.cell? ⟨gb238, 2, none⟩ = some (.int .i64 a0_2) := (blk_cell BK238.out 2).trans rfl
                    have hfz122_0 := blk_frozen BK238.out 0
                    have hfz122_1 := blk_frozen BK238.out 1
                    have hfz122_2 := blk_frozen BK238.out 2
                    go_wp2_with (first | (go_at_call 17; (with_reducible refine (version_Compare.calls a1_0 a1_1 a1_2 a0_0 a0_1 a0_2 t245 _ A26.out).mono ?_); rintro e w123 ⟨rfl, hb⟩; have n0_ := Aside0.mk (blk_below (g := gb238) (o := .cells #[.int .i64 a0_0, .int .i64 a0_1, .int .i64 a0_2] 23 (0, 0)) (by (with_reducible repeat (first | refine blk_drewN ?_ _ | refine blk_drew ?_ | refine blk_alloc ?_ _)); exact BK238.out) hb); have n1_ := Aside0.mk (blk_below (g := gb239) (o := .cells #[.int .i64 a1_0, .int .i64 a1_1, .int .i64 a1_2] 23 (0, 0)) (by (with_reducible repeat (first | refine blk_drewN ?_ _ | refine blk_drew ?_ | refine blk_alloc ?_ _)); exact BK239.out) hb); have n2_ := Aside0.mk (blk_below (g := gb240) (o := .cells #[.int .i64 a2_0, .int .i64 a2_1, .int .i64 a2_2] 23 (0, 0)) (by (with_reducible repeat (first | refine blk_drewN ?_ _ | refine blk_drew ?_ | refine blk_alloc ?_ _)); exact BK240.out) hb); have n3_ := Aside0.mk (below_step (by repeat (first | (with_reducible first | exact HB.out | apply below_alloc | apply pw_below_drewN | apply below_drew1 | refine below_set ?_ GE238.out | refine below_set ?_ GE239.out | refine below_set ?_ GE240.out) | exact HB.out)) hb); clear BK238; clear BK239; clear BK240; clear HB; have BK238 := n0_; have BK239 := n1_; have BK240 := n2_; have HB := n3_; clear n0_ n1_ n2_ n3_; (try clear hb); (try clear hb2); (try clear hk); (try clear hi); have hcz124_0 : w123.cell? ⟨gb238, 0, none⟩ = some (.int .i64 a0_0) := (blk_cell BK238.out 0).trans rfl; have hcz124_1 : w123.cell? ⟨gb238, 1, none⟩ = some (.int .i64 a0_1) := (blk_cell BK238.out 1).trans rfl; have hcz124_2 : w123.cell? ⟨gb238, 2, none⟩ = some (.int .i64 a0_2) := (blk_cell BK238.out 2).trans rfl; have hfz124_0 := blk_frozen BK238.out 0; have hfz124_1 := blk_frozen BK238.out 1; have hfz124_2 := blk_frozen BK238.out 2; have hcz125_0 : w123.cell? ⟨gb239, 0, none⟩ = some (.int .i64 a1_0) := (blk_cell BK239.out 0).trans rfl; have hcz125_1 : w123.cell? ⟨gb239, 1, none⟩ = some (.int .i64 a1_1) := (blk_cell BK239.out 1).trans rfl; have hcz125_2 : w123.cell? ⟨gb239, 2, none⟩ = some (.int .i64 a1_2) := (blk_cell BK239.out 2).trans rfl; have hfz125_0 := blk_frozen BK239.out 0; have hfz125_1 := blk_frozen BK239.out 1; have hfz125_2 := blk_frozen BK239.out 2))
                    go_meet
                    case rel => exact ⟨_, (false), (by first | rfl | (simp; done) | (simp [*]; done)), H', ⟨by first | omega | exact Nat.le_refl _⟩, ⟨by (with_reducible repeat (first | refine blk_drewN ?_ _ | refine blk_drew ?_ | refine blk_alloc ?_ _)); exact BK238.out⟩, ⟨by (with_reducible repeat (first | refine blk_drewN ?_ _ | refine blk_drew ?_ | refine blk_alloc ?_ _)); exact BK239.out⟩, ⟨by (with_reducible repeat (first | refine blk_drewN ?_ _ | refine blk_drew ?_ | refine blk_alloc ?_ _)); exact BK240.out⟩, ⟨by repeat (first | (with_reducible first | exact HB.out | apply below_alloc | apply pw_below_drewN | apply below_drew1 | refine below_set ?_ GE238.out | refine below_set ?_ GE239.out | refine below_set ?_ GE240.out) | exact HB.out)⟩⟩
            · rw [if_neg c27] at H
              have c27b0 : (t245 == (wrap64 (-t242))) = false := beq_eq_false_iff_ne.mpr c27
              have c27b1 : (t245 != (wrap64 (-t242))) = true := bne_iff_ne.mpr c27
              have H' := Aside0.mk H
              clear H
              have hnb126 := NB239_238.out
              have hnc126 := NB238_239.out
              have hnb127 := NB239_240.out
              have hnc127 := NB240_239.out
              have hcz128_0 : w23.cell? ⟨gb239, 0, none⟩ = some (.int .i64 a1_0) := (blk_cell BK239.out 0).trans rfl
              have hcz128_1 : w23.cell? ⟨gb239, 1, none⟩ = some (.int .i64 a1_1) := (blk_cell BK239.out 1).trans rfl
              have hcz128_2 : w23.cell? ⟨gb239, 2, none⟩ = some (.int .i64 a1_2) := (blk_cell BK239.out 2).trans rfl
              have hfz128_0 := blk_frozen BK239.out 0
              have hfz128_1 := blk_frozen BK239.out 1
              have hfz128_2 := blk_frozen BK239.out 2
              have hnb129 := NB238_240.out
              have hnc129 := NB240_238.out
              have hcz130_0 : w23.cell? ⟨gb238, 0, none⟩ = some (.int .i64 a0_0) := (blk_cell BK238.out 0).trans rfl
              have hcz130_1 : w23.cell? ⟨gb238, 1, none⟩ = some (.int .i64 a0_1) := (blk_cell BK238.out 1).trans rfl
              have hcz130_2 : w23.cell? ⟨gb238, 2, none⟩ = some (.int .i64 a0_2) := (blk_cell BK238.out 2).trans rfl
              have hfz130_0 := blk_frozen BK238.out 0
              have hfz130_1 := blk_frozen BK238.out 1
              have hfz130_2 := blk_frozen BK238.out 2
              go_wp2_with (first | (go_at_call 17; (with_reducible refine (version_Compare.calls a1_0 a1_1 a1_2 a0_0 a0_1 a0_2 t245 _ A26.out).mono ?_); rintro e w131 ⟨rfl, hb⟩; have n0_ := Aside0.mk (blk_below (g := gb238) (o := .cells #[.int .i64 a0_0, .int .i64 a0_1, .int .i64 a0_2] 23 (0, 0)) (by (with_reducible repeat (first | refine blk_drewN ?_ _ | refine blk_drew ?_ | refine blk_alloc ?_ _)); exact BK238.out) hb); have n1_ := Aside0.mk (blk_below (g := gb239) (o := .cells #[.int .i64 a1_0, .int .i64 a1_1, .int .i64 a1_2] 23 (0, 0)) (by (with_reducible repeat (first | refine blk_drewN ?_ _ | refine blk_drew ?_ | refine blk_alloc ?_ _)); exact BK239.out) hb); have n2_ := Aside0.mk (blk_below (g := gb240) (o := .cells #[.int .i64 a2_0, .int .i64 a2_1, .int .i64 a2_2] 23 (0, 0)) (by (with_reducible repeat (first | refine blk_drewN ?_ _ | refine blk_drew ?_ | refine blk_alloc ?_ _)); exact BK240.out) hb); have n3_ := Aside0.mk (below_step (by repeat (first | (with_reducible first | exact HB.out | apply below_alloc | apply pw_below_drewN | apply below_drew1 | refine below_set ?_ GE238.out | refine below_set ?_ GE239.out | refine below_set ?_ GE240.out) | exact HB.out)) hb); clear BK238; clear BK239; clear BK240; clear HB; have BK238 := n0_; have BK239 := n1_; have BK240 := n2_; have HB := n3_; clear n0_ n1_ n2_ n3_; (try clear hb); (try clear hb2); (try clear hk); (try clear hi)))
              go_meet
              case rel => exact ⟨_, (true), (by first | rfl | (simp; done) | (simp [*]; done)), H', ⟨by first | omega | exact Nat.le_refl _⟩, ⟨by (with_reducible repeat (first | refine blk_drewN ?_ _ | refine blk_drew ?_ | refine blk_alloc ?_ _)); exact BK238.out⟩, ⟨by (with_reducible repeat (first | refine blk_drewN ?_ _ | refine blk_drew ?_ | refine blk_alloc ?_ _)); exact BK239.out⟩, ⟨by (with_reducible repeat (first | refine blk_drewN ?_ _ | refine blk_drew ?_ | refine blk_alloc ?_ _)); exact BK240.out⟩, ⟨by repeat (first | (with_reducible first | exact HB.out | apply below_alloc | apply pw_below_drewN | apply below_drew1 | refine below_set ?_ GE238.out | refine below_set ?_ GE239.out | refine below_set ?_ GE240.out) | exact HB.out)⟩⟩
      case rest =>
        clear HC15
        try clear c1
        try clear c2
        try clear p2
        try clear c3
        try clear c4
        try clear c5
        try clear c6
        try clear p6
        try clear c7
        try clear c7b0
        try clear c7b1
        try clear c8
        try clear c9
        try clear c10
        try clear c11
        try clear c12
        try clear c17
        try clear c24
        try clear c24b0
        try clear c25
        try clear c25b0
        try clear c27
        try clear c27b0
        try clear c27b1
        try clear c28
        try clear c28b0
        try clear c28b1
        try clear c28b2
        try clear c29
        try clear c30
        try clear c32
        try clear c37
        try clear c37b0
        try clear c38
        try clear c38b0
        try clear c39
        try clear c39b0
        try clear c40
        try clear c41
        try clear c43
        try clear c48
        try clear c48b0
        try clear c49
        try clear c49b0
        try clear c50
        try clear c51
        try clear c53
        try clear c58
        try clear c59
        try clear c61
        try clear p64
        try clear c66
        try clear c67
        try clear c69
        try clear c74
        try clear c74b0
        try clear c75
        try clear c75b0
        try clear c76
        try clear c77
        try clear c79
        try clear c84
        try clear c85
        try clear c87
        try clear c92
        try clear c93
        try clear c95
        try clear c100
        try clear c100b0
        try clear c101
        try clear c101b0
        try clear c102
        try clear c103
        try clear c105
        try clear c110
        try clear c111
        try clear c113
        try clear c118
        try clear c119
        try clear c121
        try clear c126
        try clear c127
        try clear c129
        try clear hcz104_0
        try clear hcz104_1
        try clear hcz104_2
        try clear hcz106_0
        try clear hcz106_1
        try clear hcz106_2
        try clear hcz108_0
        try clear hcz108_1
        try clear hcz108_2
        try clear hcz109_0
        try clear hcz109_1
        try clear hcz109_2
        try clear hcz112_0
        try clear hcz112_1
        try clear hcz112_2
        try clear hcz114_0
        try clear hcz114_1
        try clear hcz114_2
        try clear hcz116_0
        try clear hcz116_1
        try clear hcz116_2
        try clear hcz117_0
        try clear hcz117_1
        try clear hcz117_2
        try clear hcz120_0
        try clear hcz120_1
        try clear hcz120_2
        try clear hcz122_0
        try clear hcz122_1
        try clear hcz122_2
        try clear hcz124_0
        try clear hcz124_1
        try clear hcz124_2
        try clear hcz125_0
        try clear hcz125_1
        try clear hcz125_2
        try clear hcz128_0
        try clear hcz128_1
        try clear hcz128_2
        try clear hcz130_0
        try clear hcz130_1
        try clear hcz130_2
        try clear hcz31_0
        try clear hcz31_1
        try clear hcz31_2
        try clear hcz33_0
        try clear hcz33_1
        try clear hcz33_2
        try clear hcz35_0
        try clear hcz35_1
        try clear hcz35_2
        try clear hcz36_0
        try clear hcz36_1
        try clear hcz36_2
        try clear hcz42_0
        try clear hcz42_1
        try clear hcz42_2
        try clear hcz44_0
        try clear hcz44_1
        try clear hcz44_2
        try clear hcz46_0
        try clear hcz46_1
        try clear hcz46_2
        try clear hcz47_0
        try clear hcz47_1
        try clear hcz47_2
        try clear hcz52_0
        try clear hcz52_1
        try clear hcz52_2
        try clear hcz54_0
        try clear hcz54_1
        try clear hcz54_2
        try clear hcz56_0
        try clear hcz56_1
        try clear hcz56_2
        try clear hcz57_0
        try clear hcz57_1
        try clear hcz57_2
        try clear hcz60_0
        try clear hcz60_1
        try clear hcz60_2
        try clear hcz62_0
        try clear hcz62_1
        try clear hcz62_2
        try clear hcz64_0
        try clear hcz64_1
        try clear hcz64_2
        try clear hcz65_0
        try clear hcz65_1
        try clear hcz65_2
        try clear hcz68_0
        try clear hcz68_1
        try clear hcz68_2
        try clear hcz70_0
        try clear hcz70_1
        try clear hcz70_2
        try clear hcz72_0
        try clear hcz72_1
        try clear hcz72_2
        try clear hcz73_0
        try clear hcz73_1
        try clear hcz73_2
        try clear hcz78_0
        try clear hcz78_1
        try clear hcz78_2
        try clear hcz80_0
        try clear hcz80_1
        try clear hcz80_2
        try clear hcz82_0
        try clear hcz82_1
        try clear hcz82_2
        try clear hcz83_0
        try clear hcz83_1
        try clear hcz83_2
        try clear hcz86_0
        try clear hcz86_1
        try clear hcz86_2
        try clear hcz88_0
        try clear hcz88_1
        try clear hcz88_2
        try clear hcz90_0
        try clear hcz90_1
        try clear hcz90_2
        try clear hcz91_0
        try clear hcz91_1
        try clear hcz91_2
        try clear hcz94_0
        try clear hcz94_1
        try clear hcz94_2
        try clear hcz96_0
        try clear hcz96_1
        try clear hcz96_2
        try clear hcz98_0
        try clear hcz98_1
        try clear hcz98_2
        try clear hcz99_0
        try clear hcz99_1
        try clear hcz99_2
        try clear hfz104_0
        try clear hfz104_1
        try clear hfz104_2
        try clear hfz106_0
        try clear hfz106_1
        try clear hfz106_2
        try clear hfz108_0
        try clear hfz108_1
        try clear hfz108_2
        try clear hfz109_0
        try clear hfz109_1
        try clear hfz109_2
        try clear hfz112_0
        try clear hfz112_1
        try clear hfz112_2
        try clear hfz114_0
        try clear hfz114_1
        try clear hfz114_2
        try clear hfz116_0
        try clear hfz116_1
        try clear hfz116_2
        try clear hfz117_0
        try clear hfz117_1
        try clear hfz117_2
        try clear hfz120_0
        try clear hfz120_1
        try clear hfz120_2
        try clear hfz122_0
        try clear hfz122_1
        try clear hfz122_2
        try clear hfz124_0
        try clear hfz124_1
        try clear hfz124_2
        try clear hfz125_0
        try clear hfz125_1
        try clear hfz125_2
        try clear hfz128_0
        try clear hfz128_1
        try clear hfz128_2
        try clear hfz130_0
        try clear hfz130_1
        try clear hfz130_2
        try clear hfz31_0
        try clear hfz31_1
        try clear hfz31_2
        try clear hfz33_0
        try clear hfz33_1
        try clear hfz33_2
        try clear hfz35_0
        try clear hfz35_1
        try clear hfz35_2
        try clear hfz36_0
        try clear hfz36_1
        try clear hfz36_2
        try clear hfz42_0
        try clear hfz42_1
        try clear hfz42_2
        try clear hfz44_0
        try clear hfz44_1
        try clear hfz44_2
        try clear hfz46_0
        try clear hfz46_1
        try clear hfz46_2
        try clear hfz47_0
        try clear hfz47_1
        try clear hfz47_2
        try clear hfz52_0
        try clear hfz52_1
        try clear hfz52_2
        try clear hfz54_0
        try clear hfz54_1
        try clear hfz54_2
        try clear hfz56_0
        try clear hfz56_1
        try clear hfz56_2
        try clear hfz57_0
        try clear hfz57_1
        try clear hfz57_2
        try clear hfz60_0
        try clear hfz60_1
        try clear hfz60_2
        try clear hfz62_0
        try clear hfz62_1
        try clear hfz62_2
        try clear hfz64_0
        try clear hfz64_1
        try clear hfz64_2
        try clear hfz65_0
        try clear hfz65_1
        try clear hfz65_2
        try clear hfz68_0
        try clear hfz68_1
        try clear hfz68_2
        try clear hfz70_0
        try clear hfz70_1
        try clear hfz70_2
        try clear hfz72_0
        try clear hfz72_1
        try clear hfz72_2
        try clear hfz73_0
        try clear hfz73_1
        try clear hfz73_2
        try clear hfz78_0
        try clear hfz78_1
        try clear hfz78_2
        try clear hfz80_0
        try clear hfz80_1
        try clear hfz80_2
        try clear hfz82_0
        try clear hfz82_1
        try clear hfz82_2
        try clear hfz83_0
        try clear hfz83_1
        try clear hfz83_2
        try clear hfz86_0
        try clear hfz86_1
        try clear hfz86_2
        try clear hfz88_0
        try clear hfz88_1
        try clear hfz88_2
        try clear hfz90_0
        try clear hfz90_1
        try clear hfz90_2
        try clear hfz91_0
        try clear hfz91_1
        try clear hfz91_2
        try clear hfz94_0
        try clear hfz94_1
        try clear hfz94_2
        try clear hfz96_0
        try clear hfz96_1
        try clear hfz96_2
        try clear hfz98_0
        try clear hfz98_1
        try clear hfz98_2
        try clear hfz99_0
        try clear hfz99_1
        try clear hfz99_2
        obtain ⟨kq, x76_14, rfl, HA, HJ14, BK238, BK239, BK240, HB⟩ := hcut
        cases kq with
        | zero => exact absurd HA.out (by simp [modcertlaw24_VersionOrder.j0])
        | succ kj14 =>
          have H := HA.out
          clear HA
          simp only [modcertlaw24_VersionOrder.j0] at H
          by_cases c132 : x76_14 = true
          · subst c132
            have H1 : (some false) = some r := by rw [if_pos rfl] at H; exact H
            clear H
            have H := H1
            clear H1
            exact absurd (Option.some.inj H) (by rw [HR.out]; decide)
          · replace c132 := Bool.eq_false_iff.mpr c132
            subst c132
            have H1 : ((version_Latest.f l3).bind fun bt246 => (if bt246.2.2.2 = true then (modcertlaw24_VersionOrder.l0 kj14 false l3 (l3.length : Int) 0 bt246.1 bt246.2.1 bt246.2.2.1) else (some ((l3.length : Int) == 0)))) = some r := by rw [if_neg (show ¬ (false = true) by decide)] at H; exact H
            clear H
            have H := H1
            clear H1
            replace H := Option.bind_eq_some_iff.mp H
            obtain ⟨⟨t246, t247, t248, t249⟩, A1330, H⟩ := H
            replace H : (if t249 = true then (modcertlaw24_VersionOrder.l0 kj14 false l3 (l3.length : Int) 0 t246 t247 t248) else (some ((l3.length : Int) == 0))) = some r := H
            have A133 := Aside0.mk A1330
            clear A1330
            by_cases c134 : t249 = true
            · subst c134
              have H1 : (modcertlaw24_VersionOrder.l0 kj14 false l3 (l3.length : Int) 0 t246 t247 t248) = some r := by rw [if_pos rfl] at H; exact H
              clear H
              have H := H1
              clear H1
              have H' := Aside0.mk H
              clear H
              go_wp2_with (first | ((with_reducible refine gate_callee (f := 18) rfl ?_); refine goesL_ (some 79) rfl rfl Tryd.func18 (by kernel_rfl) rfl #[.slice A3 l3.length c3] rfl (by (try simp only [List.map_toArray, List.map_cons, List.map_nil]); first | done | rfl | (simp only [List.length_drop, List.length_take]; rfl)) ?_; (with_reducible refine (version_Latest.calls _ _ l3 t246 t247 t248 true _ ?side1 ?side2 A133.out).mono ?_); (case side1 => repeat (first | exact (Kd.C_below HR3.out HB.out) | (with_reducible refine Kd.C_alloc ?_ _) | (with_reducible refine Kd.C_drewN ?_ _) | (with_reducible refine Kd.C_drew ?_))); (case side2 => exact HC3.out); rintro e w135 ⟨rfl, hb⟩; refine ⟨_, rfl, ?_⟩; have n0_ := Aside0.mk (blk_below (g := gb238) (o := .cells #[.int .i64 a0_0, .int .i64 a0_1, .int .i64 a0_2] 23 (0, 0)) (by (with_reducible repeat (first | refine blk_drewN ?_ _ | refine blk_drew ?_ | refine blk_alloc ?_ _)); exact BK238.out) hb); have n1_ := Aside0.mk (blk_below (g := gb239) (o := .cells #[.int .i64 a1_0, .int .i64 a1_1, .int .i64 a1_2] 23 (0, 0)) (by (with_reducible repeat (first | refine blk_drewN ?_ _ | refine blk_drew ?_ | refine blk_alloc ?_ _)); exact BK239.out) hb); have n2_ := Aside0.mk (blk_below (g := gb240) (o := .cells #[.int .i64 a2_0, .int .i64 a2_1, .int .i64 a2_2] 23 (0, 0)) (by (with_reducible repeat (first | refine blk_drewN ?_ _ | refine blk_drew ?_ | refine blk_alloc ?_ _)); exact BK240.out) hb); have n3_ := Aside0.mk (below_step (by repeat (first | (with_reducible first | exact HB.out | apply below_alloc | apply pw_below_drewN | apply below_drew1 | refine below_set ?_ GE238.out | refine below_set ?_ GE239.out | refine below_set ?_ GE240.out) | exact HB.out)) hb); clear BK238; clear BK239; clear BK240; clear HB; have BK238 := n0_; have BK239 := n1_; have BK240 := n2_; have HB := n3_; clear n0_ n1_ n2_ n3_; (try clear hb); (try clear hb2); (try clear hk); (try clear hi)) | ((with_reducible refine gate_dst (N := 12) rfl ?_); refine box_event ?hg (N := 12) ?hd (cs := #[.int .i64 0, .int .i64 0, .int .i64 0]) (t := 23) ?hr ?_; (case hd => rfl); (case hg => rfl); (case hr => first | (go_simp; done) | (go_simp; rfl)); intro gb250 hg w136 hbox hb; have n0_ := Aside0.mk (blk_below (g := gb238) (o := .cells #[.int .i64 a0_0, .int .i64 a0_1, .int .i64 a0_2] 23 (0, 0)) (by (with_reducible repeat (first | refine blk_drewN ?_ _ | refine blk_drew ?_ | refine blk_alloc ?_ _)); exact BK238.out) hb); have n1_ := Aside0.mk (blk_below (g := gb239) (o := .cells #[.int .i64 a1_0, .int .i64 a1_1, .int .i64 a1_2] 23 (0, 0)) (by (with_reducible repeat (first | refine blk_drewN ?_ _ | refine blk_drew ?_ | refine blk_alloc ?_ _)); exact BK239.out) hb); have n2_ := Aside0.mk (blk_below (g := gb240) (o := .cells #[.int .i64 a2_0, .int .i64 a2_1, .int .i64 a2_2] 23 (0, 0)) (by (with_reducible repeat (first | refine blk_drewN ?_ _ | refine blk_drew ?_ | refine blk_alloc ?_ _)); exact BK240.out) hb); have n3_ := Aside0.mk (below_step (by repeat (first | (with_reducible first | exact HB.out | apply below_alloc | apply pw_below_drewN | apply below_drew1 | refine below_set ?_ GE238.out | refine below_set ?_ GE239.out | refine below_set ?_ GE240.out) | exact HB.out)) hb); have n4_ := Aside0.mk (hbox); have n5_ := Aside0.mk ((by rw [hg]; exact (below_size (by repeat (first | (with_reducible first | exact HB.out | apply below_alloc | apply pw_below_drewN | apply below_drew1 | refine below_set ?_ GE238.out | refine below_set ?_ GE239.out | refine below_set ?_ GE240.out) | exact HB.out))) : w.heap.size ≤ gb250)); have n6_ := Aside0.mk ((by rw [hg]; exact (below_size (by repeat (first | (with_reducible first | exact HB.out | apply below_alloc | apply pw_below_drewN | apply below_drew1 | refine below_set ?_ GE238.out | refine below_set ?_ GE239.out | refine below_set ?_ GE240.out) | exact HB.out))) : w.heap.size ≤ gb250)); have n7_ := Aside0.mk ((by rw [hg]; exact Nat.ne_of_lt (blk_lt (g := gb238) (o := .cells #[.int .i64 a0_0, .int .i64 a0_1, .int .i64 a0_2] 23 (0, 0)) (by (with_reducible repeat (first | refine blk_drewN ?_ _ | refine blk_drew ?_ | refine blk_alloc ?_ _)); exact BK238.out)) : gb238 ≠ gb250)); have n8_ := Aside0.mk ((by rw [hg]; exact Nat.ne_of_gt (blk_lt (g := gb238) (o := .cells #[.int .i64 a0_0, .int .i64 a0_1, .int .i64 a0_2] 23 (0, 0)) (by (with_reducible repeat (first | refine blk_drewN ?_ _ | refine blk_drew ?_ | refine blk_alloc ?_ _)); exact BK238.out)) : gb250 ≠ gb238)); have n9_ := Aside0.mk ((by rw [hg]; exact Nat.ne_of_lt (blk_lt (g := gb239) (o := .cells #[.int .i64 a1_0, .int .i64 a1_1, .int .i64 a1_2] 23 (0, 0)) (by (with_reducible repeat (first | refine blk_drewN ?_ _ | refine blk_drew ?_ | refine blk_alloc ?_ _)); exact BK239.out)) : gb239 ≠ gb250)); have n10_ := Aside0.mk ((by rw [hg]; exact Nat.ne_of_gt (blk_lt (g := gb239) (o := .cells #[.int .i64 a1_0, .int .i64 a1_1, .int .i64 a1_2] 23 (0, 0)) (by (with_reducible repeat (first | refine blk_drewN ?_ _ | refine blk_drew ?_ | refine blk_alloc ?_ _)); exact BK239.out)) : gb250 ≠ gb239)); have n11_ := Aside0.mk ((by rw [hg]; exact Nat.ne_of_lt (blk_lt (g := gb240) (o := .cells #[.int .i64 a2_0, .int .i64 a2_1, .int .i64 a2_2] 23 (0, 0)) (by (with_reducible repeat (first | refine blk_drewN ?_ _ | refine blk_drew ?_ | refine blk_alloc ?_ _)); exact BK240.out)) : gb240 ≠ gb250)); have n12_ := Aside0.mk ((by rw [hg]; exact Nat.ne_of_gt (blk_lt (g := gb240) (o := .cells #[.int .i64 a2_0, .int .i64 a2_1, .int .i64 a2_2] 23 (0, 0)) (by (with_reducible repeat (first | refine blk_drewN ?_ _ | refine blk_drew ?_ | refine blk_alloc ?_ _)); exact BK240.out)) : gb250 ≠ gb240)); clear BK238; clear BK239; clear BK240; clear HB; have BK238 := n0_; have BK239 := n1_; have BK240 := n2_; have HB := n3_; have BK250 := n4_; have GW250 := n5_; have GE250 := n6_; have NB238_250 := n7_; have NB250_238 := n8_; have NB239_250 := n9_; have NB250_239 := n10_; have NB240_250 := n11_; have NB250_240 := n12_; clear n0_ n1_ n2_ n3_ n4_ n5_ n6_ n7_ n8_ n9_ n10_ n11_ n12_; clear hb hbox hg; have hnb137 := NB250_238.out; have hnc137 := NB238_250.out; have hnb138 := NB250_239.out; have hnc138 := NB239_250.out; have hnb139 := NB250_240.out; have hnc139 := NB240_250.out; have hcz140_0 : w136.cell? ⟨gb250, 0, none⟩ = some (.int .i64 0) := (blk_cell BK250.out 0).trans rfl; have hcz140_1 : w136.cell? ⟨gb250, 1, none⟩ = some (.int .i64 0) := (blk_cell BK250.out 1).trans rfl; have hcz140_2 : w136.cell? ⟨gb250, 2, none⟩ = some (.int .i64 0) := (blk_cell BK250.out 2).trans rfl; have hfz140_0 := blk_frozen BK250.out 0; have hfz140_1 := blk_frozen BK250.out 1; have hfz140_2 := blk_frozen BK250.out 2))
              go_loopg [14, 89] kj14 (fun kq v14 v89 w' => ∃ (x14_2 : Bool) (x89_2 : Int), v14 = .bool x14_2 ∧ v89 = .int .i64 x89_2 ∧ Aside0 (modcertlaw24_VersionOrder.l0 kq x14_2 l3 (l3.length : Int) x89_2 t246 t247 t248 = some r) ∧ Aside0 (kq ≤ kj14) ∧ Aside0 (w'.heap[gb238]? = some (.cells #[.int .i64 a0_0, .int .i64 a0_1, .int .i64 a0_2] 23 (0, 0))) ∧ Aside0 (w'.heap[gb239]? = some (.cells #[.int .i64 a1_0, .int .i64 a1_1, .int .i64 a1_2] 23 (0, 0))) ∧ Aside0 (w'.heap[gb240]? = some (.cells #[.int .i64 a2_0, .int .i64 a2_1, .int .i64 a2_2] 23 (0, 0))) ∧ Aside0 (w'.heap[gb250]? = some (.cells #[.int .i64 t246, .int .i64 t247, .int .i64 t248] 23 (0, 0))) ∧ Aside0 (Below w.heap.size w w'))
              case atStart => exact ⟨(false), (0), (by first | rfl | (simp; done) | (simp [*]; done)), (by first | rfl | (simp; done) | (simp [*]; done)), H', ⟨Nat.le_refl _⟩, ⟨by (with_reducible repeat (first | refine blk_drewN ?_ _ | refine blk_drew ?_ | refine blk_alloc ?_ _)); refine blk_far ?_ NB238_250.out _; (with_reducible repeat (first | refine blk_drewN ?_ _ | refine blk_drew ?_ | refine blk_alloc ?_ _)); refine blk_far ?_ NB238_250.out _; (with_reducible repeat (first | refine blk_drewN ?_ _ | refine blk_drew ?_ | refine blk_alloc ?_ _)); refine blk_far ?_ NB238_250.out _; (with_reducible repeat (first | refine blk_drewN ?_ _ | refine blk_drew ?_ | refine blk_alloc ?_ _)); exact BK238.out⟩, ⟨by (with_reducible repeat (first | refine blk_drewN ?_ _ | refine blk_drew ?_ | refine blk_alloc ?_ _)); refine blk_far ?_ NB239_250.out _; (with_reducible repeat (first | refine blk_drewN ?_ _ | refine blk_drew ?_ | refine blk_alloc ?_ _)); refine blk_far ?_ NB239_250.out _; (with_reducible repeat (first | refine blk_drewN ?_ _ | refine blk_drew ?_ | refine blk_alloc ?_ _)); refine blk_far ?_ NB239_250.out _; (with_reducible repeat (first | refine blk_drewN ?_ _ | refine blk_drew ?_ | refine blk_alloc ?_ _)); exact BK239.out⟩, ⟨by (with_reducible repeat (first | refine blk_drewN ?_ _ | refine blk_drew ?_ | refine blk_alloc ?_ _)); refine blk_far ?_ NB240_250.out _; (with_reducible repeat (first | refine blk_drewN ?_ _ | refine blk_drew ?_ | refine blk_alloc ?_ _)); refine blk_far ?_ NB240_250.out _; (with_reducible repeat (first | refine blk_drewN ?_ _ | refine blk_drew ?_ | refine blk_alloc ?_ _)); refine blk_far ?_ NB240_250.out _; (with_reducible repeat (first | refine blk_drewN ?_ _ | refine blk_drew ?_ | refine blk_alloc ?_ _)); exact BK240.out⟩, ⟨by (with_reducible repeat (first | refine blk_drewN ?_ _ | refine blk_drew ?_ | refine blk_alloc ?_ _)); refine blk_put (cs := #[.int .i64 t246, .int .i64 t247, .int .i64 0]) ?_ 2 _ rfl; (with_reducible repeat (first | refine blk_drewN ?_ _ | refine blk_drew ?_ | refine blk_alloc ?_ _)); refine blk_put (cs := #[.int .i64 t246, .int .i64 0, .int .i64 0]) ?_ 1 _ rfl; (with_reducible repeat (first | refine blk_drewN ?_ _ | refine blk_drew ?_ | refine blk_alloc ?_ _)); refine blk_put (cs := #[.int .i64 0, .int .i64 0, .int .i64 0]) ?_ 0 _ rfl; (with_reducible repeat (first | refine blk_drewN ?_ _ | refine blk_drew ?_ | refine blk_alloc ?_ _)); exact BK250.out⟩, ⟨by repeat (first | (with_reducible first | exact HB.out | apply below_alloc | apply pw_below_drewN | apply below_drew1 | refine below_set ?_ GE238.out | refine below_set ?_ GE239.out | refine below_set ?_ GE240.out | refine below_set ?_ GE250.out) | exact HB.out)⟩⟩
              case round =>
                clear H'
                try clear c1
                try clear c2
                try clear p2
                try clear c3
                try clear c4
                try clear c5
                try clear c6
                try clear p6
                try clear c7
                try clear c7b0
                try clear c7b1
                try clear c8
                try clear c9
                try clear c10
                try clear c11
                try clear c12
                try clear c13
                try clear c17
                try clear c18
                try clear c24
                try clear c24b0
                try clear c25
                try clear c25b0
                try clear c27
                try clear c27b0
                try clear c27b1
                try clear c28
                try clear c28b0
                try clear c28b1
                try clear c28b2
                try clear c29
                try clear c30
                try clear c32
                try clear c37
                try clear c37b0
                try clear c38
                try clear c38b0
                try clear c39
                try clear c39b0
                try clear c40
                try clear c41
                try clear c43
                try clear c48
                try clear c48b0
                try clear c49
                try clear c49b0
                try clear c50
                try clear c51
                try clear c53
                try clear c58
                try clear c59
                try clear c61
                try clear p64
                try clear c66
                try clear c67
                try clear c69
                try clear c74
                try clear c74b0
                try clear c75
                try clear c75b0
                try clear c76
                try clear c77
                try clear c79
                try clear c84
                try clear c85
                try clear c87
                try clear c92
                try clear c93
                try clear c95
                try clear c100
                try clear c100b0
                try clear c101
                try clear c101b0
                try clear c102
                try clear c103
                try clear c105
                try clear c110
                try clear c111
                try clear c113
                try clear c118
                try clear c119
                try clear c121
                try clear c126
                try clear c127
                try clear c129
                try clear c132
                try clear c134
                try clear c137
                try clear c138
                try clear c139
                try clear hcz104_0
                try clear hcz104_1
                try clear hcz104_2
                try clear hcz106_0
                try clear hcz106_1
                try clear hcz106_2
                try clear hcz108_0
                try clear hcz108_1
                try clear hcz108_2
                try clear hcz109_0
                try clear hcz109_1
                try clear hcz109_2
                try clear hcz112_0
                try clear hcz112_1
                try clear hcz112_2
                try clear hcz114_0
                try clear hcz114_1
                try clear hcz114_2
                try clear hcz116_0
                try clear hcz116_1
                try clear hcz116_2
                try clear hcz117_0
                try clear hcz117_1
                try clear hcz117_2
                try clear hcz120_0
                try clear hcz120_1
                try clear hcz120_2
                try clear hcz122_0
                try clear hcz122_1
                try clear hcz122_2
                try clear hcz124_0
                try clear hcz124_1
                try clear hcz124_2
                try clear hcz125_0
                try clear hcz125_1
                try clear hcz125_2
                try clear hcz128_0
                try clear hcz128_1
                try clear hcz128_2
                try clear hcz130_0
                try clear hcz130_1
                try clear hcz130_2
                try clear hcz140_0
                try clear hcz140_1
                try clear hcz140_2
                try clear hcz31_0
                try clear hcz31_1
                try clear hcz31_2
                try clear hcz33_0
                try clear hcz33_1
                try clear hcz33_2
                try clear hcz35_0
                try clear hcz35_1
                try clear hcz35_2
                try clear hcz36_0
                try clear hcz36_1
                try clear hcz36_2
                try clear hcz42_0
                try clear hcz42_1
                try clear hcz42_2
                try clear hcz44_0
                try clear hcz44_1
                try clear hcz44_2
                try clear hcz46_0
                try clear hcz46_1
                try clear hcz46_2
                try clear hcz47_0
                try clear hcz47_1
                try clear hcz47_2
                try clear hcz52_0
                try clear hcz52_1
                try clear hcz52_2
                try clear hcz54_0
                try clear hcz54_1
                try clear hcz54_2
                try clear hcz56_0
                try clear hcz56_1
                try clear hcz56_2
                try clear hcz57_0
                try clear hcz57_1
                try clear hcz57_2
                try clear hcz60_0
                try clear hcz60_1
                try clear hcz60_2
                try clear hcz62_0
                try clear hcz62_1
                try clear hcz62_2
                try clear hcz64_0
                try clear hcz64_1
                try clear hcz64_2
                try clear hcz65_0
                try clear hcz65_1
                try clear hcz65_2
                try clear hcz68_0
                try clear hcz68_1
                try clear hcz68_2
                try clear hcz70_0
                try clear hcz70_1
                try clear hcz70_2
                try clear hcz72_0
                try clear hcz72_1
                try clear hcz72_2
                try clear hcz73_0
                try clear hcz73_1
                try clear hcz73_2
                try clear hcz78_0
                try clear hcz78_1
                try clear hcz78_2
                try clear hcz80_0
                try clear hcz80_1
                try clear hcz80_2
                try clear hcz82_0
                try clear hcz82_1
                try clear hcz82_2
                try clear hcz83_0
                try clear hcz83_1
                try clear hcz83_2
                try clear hcz86_0
                try clear hcz86_1
                try clear hcz86_2
                try clear hcz88_0
                try clear hcz88_1
                try clear hcz88_2
                try clear hcz90_0
                try clear hcz90_1
                try clear hcz90_2
                try clear hcz91_0
                try clear hcz91_1
                try clear hcz91_2
                try clear hcz94_0
                try clear hcz94_1
                try clear hcz94_2
                try clear hcz96_0
                try clear hcz96_1
                try clear hcz96_2
                try clear hcz98_0
                try clear hcz98_1
                try clear hcz98_2
                try clear hcz99_0
                try clear hcz99_1
                try clear hcz99_2
                try clear hfz104_0
                try clear hfz104_1
                try clear hfz104_2
                try clear hfz106_0
                try clear hfz106_1
                try clear hfz106_2
                try clear hfz108_0
                try clear hfz108_1
                try clear hfz108_2
                try clear hfz109_0
                try clear hfz109_1
                try clear hfz109_2
                try clear hfz112_0
                try clear hfz112_1
                try clear hfz112_2
                try clear hfz114_0
                try clear hfz114_1
                try clear hfz114_2
                try clear hfz116_0
                try clear hfz116_1
                try clear hfz116_2
                try clear hfz117_0
                try clear hfz117_1
                try clear hfz117_2
                try clear hfz120_0
                try clear hfz120_1
                try clear hfz120_2
                try clear hfz122_0
                try clear hfz122_1
                try clear hfz122_2
                try clear hfz124_0
                try clear hfz124_1
                try clear hfz124_2
                try clear hfz125_0
                try clear hfz125_1
                try clear hfz125_2
                try clear hfz128_0
                try clear hfz128_1
                try clear hfz128_2
                try clear hfz130_0
                try clear hfz130_1
                try clear hfz130_2
                try clear hfz140_0
                try clear hfz140_1
                try clear hfz140_2
                try clear hfz31_0
                try clear hfz31_1
                try clear hfz31_2
                try clear hfz33_0
                try clear hfz33_1
                try clear hfz33_2
                try clear hfz35_0
                try clear hfz35_1
                try clear hfz35_2
                try clear hfz36_0
                try clear hfz36_1
                try clear hfz36_2
                try clear hfz42_0
                try clear hfz42_1
                try clear hfz42_2
                try clear hfz44_0
                try clear hfz44_1
                try clear hfz44_2
                try clear hfz46_0
                try clear hfz46_1
                try clear hfz46_2
                try clear hfz47_0
                try clear hfz47_1
                try clear hfz47_2
                try clear hfz52_0
                try clear hfz52_1
                try clear hfz52_2
                try clear hfz54_0
                try clear hfz54_1
                try clear hfz54_2
                try clear hfz56_0
                try clear hfz56_1
                try clear hfz56_2
                try clear hfz57_0
                try clear hfz57_1
                try clear hfz57_2
                try clear hfz60_0
                try clear hfz60_1
                try clear hfz60_2
                try clear hfz62_0
                try clear hfz62_1
                try clear hfz62_2
                try clear hfz64_0
                try clear hfz64_1
                try clear hfz64_2
                try clear hfz65_0
                try clear hfz65_1
                try clear hfz65_2
                try clear hfz68_0
                try clear hfz68_1
                try clear hfz68_2
                try clear hfz70_0
                try clear hfz70_1
                try clear hfz70_2
                try clear hfz72_0
                try clear hfz72_1
                try clear hfz72_2
                try clear hfz73_0
                try clear hfz73_1
                try clear hfz73_2
                try clear hfz78_0
                try clear hfz78_1
                try clear hfz78_2
                try clear hfz80_0
                try clear hfz80_1
                try clear hfz80_2
                try clear hfz82_0
                try clear hfz82_1
                try clear hfz82_2
                try clear hfz83_0
                try clear hfz83_1
                try clear hfz83_2
                try clear hfz86_0
                try clear hfz86_1
                try clear hfz86_2
                try clear hfz88_0
                try clear hfz88_1
                try clear hfz88_2
                try clear hfz90_0
                try clear hfz90_1
                try clear hfz90_2
                try clear hfz91_0
                try clear hfz91_1
                try clear hfz91_2
                try clear hfz94_0
                try clear hfz94_1
                try clear hfz94_2
                try clear hfz96_0
                try clear hfz96_1
                try clear hfz96_2
                try clear hfz98_0
                try clear hfz98_1
                try clear hfz98_2
                try clear hfz99_0
                try clear hfz99_1
                try clear hfz99_2
                try clear p2
                try clear p6
                try clear p64
                obtain ⟨x14_2, x89_2, rfl, rfl, HA, HK2, BK238, BK239, BK240, BK250, HB⟩ := hrel
                cases gk with
                | zero => exact absurd HA.out (by simp [modcertlaw24_VersionOrder.l0])
                | succ k2 =>
                  have H := HA.out
                  clear HA
                  simp only [modcertlaw24_VersionOrder.l0] at H
                  by_cases c141 : x89_2 < (l3.length : Int)
                  · rw [if_pos c141] at H
                    have c141b0 : decide (x89_2 < (l3.length : Int)) = true := decide_eq_true c141
                    clear c141
                    by_cases c142 : 0 ≤ x89_2
                    · rw [if_pos c142] at H
                      have c142b0 : decide (0 ≤ x89_2) = true := decide_eq_true c142
                      clear c142
                      by_cases c143 : x89_2 < (l3.length : Int)
                      · rw [if_pos c143] at H
                        have c143b0 : decide (x89_2 < (l3.length : Int)) = true := decide_eq_true c143
                        clear c143
                        by_cases c144 : x14_2 = true
                        · subst c144
                          have H1 : ((version_Compare.f ((rd_T23 l3 x89_2).f0) ((rd_T23 l3 x89_2).f1) ((rd_T23 l3 x89_2).f2) t246 t247 t248).bind fun t253 => (if t253 > 0 then (some false) else (modcertlaw24_VersionOrder.l0 k2 true l3 (l3.length : Int) (wrap64 (x89_2 + 1)) t246 t247 t248))) = some r := by rw [if_pos rfl] at H; exact H
                          clear H
                          have H := H1
                          clear H1
                          replace H := Option.bind_eq_some_iff.mp H
                          obtain ⟨t253, A1450, H⟩ := H
                          replace H : (if t253 > 0 then (some false) else (modcertlaw24_VersionOrder.l0 k2 true l3 (l3.length : Int) (wrap64 (x89_2 + 1)) t246 t247 t248)) = some r := H
                          have A145 := Aside0.mk A1450
                          clear A1450
                          by_cases c146 : t253 > 0
                          · rw [if_pos c146] at H
                            have c146b0 : decide (0 < t253) = true := decide_eq_true c146
                            clear c146
                            exact absurd (Option.some.inj H) (by rw [HR.out]; decide)
                          · rw [if_neg c146] at H
                            have c146b0 : decide (0 < t253) = false := decide_eq_false c146
                            clear c146
                            have H' := Aside0.mk H
                            clear H
                            have p251 : 0 ≤ (x89_2 : Int) := of_decide_eq_true (by first | (with_reducible assumption) | assumption)
                            have q251 : x89_2 < (l3.length : Int) := of_decide_eq_true (by first | (with_reducible assumption) | assumption)
                            obtain ⟨ad251, e251, hx251_0, hx251_1, hx251_2⟩ := at_T23 HR3.out x89_2 p251 q251
                            cases e251
                            replace hx251_0 := (HB.out.cell (World.block_lt_of_cell? w _ hx251_0)).trans hx251_0
                            replace hx251_1 := (HB.out.cell (World.block_lt_of_cell? w _ hx251_1)).trans hx251_1
                            replace hx251_2 := (HB.out.cell (World.block_lt_of_cell? w _ hx251_2)).trans hx251_2
                            replace p251 := eq_true p251
                            replace q251 := eq_true q251
                            go_wp2_with (first | ((with_reducible refine gate_dst (N := 16) rfl ?_); refine box_event ?hg (N := 16) ?hd (cs := #[.int .i64 0, .int .i64 0, .int .i64 0]) (t := 23) ?hr ?_; (case hd => rfl); (case hg => rfl); (case hr => first | (go_simp; done) | (go_simp; rfl)); intro gb252 hg w147 hbox hb; have n0_ := Aside0.mk (blk_below (g := gb238) (o := .cells #[.int .i64 a0_0, .int .i64 a0_1, .int .i64 a0_2] 23 (0, 0)) (by (with_reducible repeat (first | refine blk_drewN ?_ _ | refine blk_drew ?_ | refine blk_alloc ?_ _)); exact BK238.out) hb); have n1_ := Aside0.mk (blk_below (g := gb239) (o := .cells #[.int .i64 a1_0, .int .i64 a1_1, .int .i64 a1_2] 23 (0, 0)) (by (with_reducible repeat (first | refine blk_drewN ?_ _ | refine blk_drew ?_ | refine blk_alloc ?_ _)); exact BK239.out) hb); have n2_ := Aside0.mk (blk_below (g := gb240) (o := .cells #[.int .i64 a2_0, .int .i64 a2_1, .int .i64 a2_2] 23 (0, 0)) (by (with_reducible repeat (first | refine blk_drewN ?_ _ | refine blk_drew ?_ | refine blk_alloc ?_ _)); exact BK240.out) hb); have n3_ := Aside0.mk (blk_below (g := gb250) (o := .cells #[.int .i64 t246, .int .i64 t247, .int .i64 t248] 23 (0, 0)) (by (with_reducible repeat (first | refine blk_drewN ?_ _ | refine blk_drew ?_ | refine blk_alloc ?_ _)); exact BK250.out) hb); have n4_ := Aside0.mk (below_step (by repeat (first | (with_reducible first | exact HB.out | apply below_alloc | apply pw_below_drewN | apply below_drew1 | refine below_set ?_ GE238.out | refine below_set ?_ GE239.out | refine below_set ?_ GE240.out | refine below_set ?_ GE250.out) | exact HB.out)) hb); have n5_ := Aside0.mk (hbox); have n6_ := Aside0.mk ((by rw [hg]; exact (below_size (by repeat (first | (with_reducible first | exact HB.out | apply below_alloc | apply pw_below_drewN | apply below_drew1 | refine below_set ?_ GE238.out | refine below_set ?_ GE239.out | refine below_set ?_ GE240.out | refine below_set ?_ GE250.out) | exact HB.out))) : w.heap.size ≤ gb252)); have n7_ := Aside0.mk ((by rw [hg]; exact (below_size (by repeat (first | (with_reducible first | exact HB.out | apply below_alloc | apply pw_below_drewN | apply below_drew1 | refine below_set ?_ GE238.out | refine below_set ?_ GE239.out | refine below_set ?_ GE240.out | refine below_set ?_ GE250.out) | exact HB.out))) : w.heap.size ≤ gb252)); have n8_ := Aside0.mk ((by rw [hg]; exact Nat.ne_of_lt (blk_lt (g := gb238) (o := .cells #[.int .i64 a0_0, .int .i64 a0_1, .int .i64 a0_2] 23 (0, 0)) (by (with_reducible repeat (first | refine blk_drewN ?_ _ | refine blk_drew ?_ | refine blk_alloc ?_ _)); exact BK238.out)) : gb238 ≠ gb252)); have n9_ := Aside0.mk ((by rw [hg]; exact Nat.ne_of_gt (blk_lt (g := gb238) (o := .cells #[.int .i64 a0_0, .int .i64 a0_1, .int .i64 a0_2] 23 (0, 0)) (by (with_reducible repeat (first | refine blk_drewN ?_ _ | refine blk_drew ?_ | refine blk_alloc ?_ _)); exact BK238.out)) : gb252 ≠ gb238)); have n10_ := Aside0.mk ((by rw [hg]; exact Nat.ne_of_lt (blk_lt (g := gb239) (o := .cells #[.int .i64 a1_0, .int .i64 a1_1, .int .i64 a1_2] 23 (0, 0)) (by (with_reducible repeat (first | refine blk_drewN ?_ _ | refine blk_drew ?_ | refine blk_alloc ?_ _)); exact BK239.out)) : gb239 ≠ gb252)); have n11_ := Aside0.mk ((by rw [hg]; exact Nat.ne_of_gt (blk_lt (g := gb239) (o := .cells #[.int .i64 a1_0, .int .i64 a1_1, .int .i64 a1_2] 23 (0, 0)) (by (with_reducible repeat (first | refine blk_drewN ?_ _ | refine blk_drew ?_ | refine blk_alloc ?_ _)); exact BK239.out)) : gb252 ≠ gb239)); have n12_ := Aside0.mk ((by rw [hg]; exact Nat.ne_of_lt (blk_lt (g := gb240) (o := .cells #[.int .i64 a2_0, .int .i64 a2_1, .int .i64 a2_2] 23 (0, 0)) (by (with_reducible repeat (first | refine blk_drewN ?_ _ | refine blk_drew ?_ | refine blk_alloc ?_ _)); exact BK240.out)) : gb240 ≠ gb252)); have n13_ := Aside0.mk ((by rw [hg]; exact Nat.ne_of_gt (blk_lt (g := gb240) (o := .cells #[.int .i64 a2_0, .int .i64 a2_1, .int .i64 a2_2] 23 (0, 0)) (by (with_reducible repeat (first | refine blk_drewN ?_ _ | refine blk_drew ?_ | refine blk_alloc ?_ _)); exact BK240.out)) : gb252 ≠ gb240)); have n14_ := Aside0.mk ((by rw [hg]; exact Nat.ne_of_lt (blk_lt (g := gb250) (o := .cells #[.int .i64 t246, .int .i64 t247, .int .i64 t248] 23 (0, 0)) (by (with_reducible repeat (first | refine blk_drewN ?_ _ | refine blk_drew ?_ | refine blk_alloc ?_ _)); exact BK250.out)) : gb250 ≠ gb252)); have n15_ := Aside0.mk ((by rw [hg]; exact Nat.ne_of_gt (blk_lt (g := gb250) (o := .cells #[.int .i64 t246, .int .i64 t247, .int .i64 t248] 23 (0, 0)) (by (with_reducible repeat (first | refine blk_drewN ?_ _ | refine blk_drew ?_ | refine blk_alloc ?_ _)); exact BK250.out)) : gb252 ≠ gb250)); clear BK238; clear BK239; clear BK240; clear BK250; clear HB; have BK238 := n0_; have BK239 := n1_; have BK240 := n2_; have BK250 := n3_; have HB := n4_; have BK252 := n5_; have GW252 := n6_; have GE252 := n7_; have NB238_252 := n8_; have NB252_238 := n9_; have NB239_252 := n10_; have NB252_239 := n11_; have NB240_252 := n12_; have NB252_240 := n13_; have NB250_252 := n14_; have NB252_250 := n15_; clear n0_ n1_ n2_ n3_ n4_ n5_ n6_ n7_ n8_ n9_ n10_ n11_ n12_ n13_ n14_ n15_; clear hb hbox hg; have hnb148 := NB252_238.out; have hnc148 := NB238_252.out; have hnb149 := NB252_239.out; have hnc149 := NB239_252.out; have hnb150 := NB252_240.out; have hnc150 := NB240_252.out; have hnb151 := NB252_250.out; have hnc151 := NB250_252.out; have hcz152_0 : w147.cell? ⟨gb252, 0, none⟩ = some (.int .i64 0) := (blk_cell BK252.out 0).trans rfl; have hcz152_1 : w147.cell? ⟨gb252, 1, none⟩ = some (.int .i64 0) := (blk_cell BK252.out 1).trans rfl; have hcz152_2 : w147.cell? ⟨gb252, 2, none⟩ = some (.int .i64 0) := (blk_cell BK252.out 2).trans rfl; have hfz152_0 := blk_frozen BK252.out 0; have hfz152_1 := blk_frozen BK252.out 1; have hfz152_2 := blk_frozen BK252.out 2; have hnb153 := NB250_238.out; have hnc153 := NB238_250.out; have hnb154 := NB250_239.out; have hnc154 := NB239_250.out; have hnb155 := NB250_240.out; have hnc155 := NB240_250.out; have hcz156_0 : w147.cell? ⟨gb250, 0, none⟩ = some (.int .i64 t246) := (blk_cell BK250.out 0).trans rfl; have hcz156_1 : w147.cell? ⟨gb250, 1, none⟩ = some (.int .i64 t247) := (blk_cell BK250.out 1).trans rfl; have hcz156_2 : w147.cell? ⟨gb250, 2, none⟩ = some (.int .i64 t248) := (blk_cell BK250.out 2).trans rfl; have hfz156_0 := blk_frozen BK250.out 0; have hfz156_1 := blk_frozen BK250.out 1; have hfz156_2 := blk_frozen BK250.out 2) | ((with_reducible refine gate_callee (f := 17) rfl ?_); refine goesL_ (some 101) rfl rfl Tryd.func17 (by kernel_rfl) rfl #[.agg #[.int .i64 ((rd_T23 l3 x89_2).f0), .int .i64 ((rd_T23 l3 x89_2).f1), .int .i64 ((rd_T23 l3 x89_2).f2)], .agg #[.int .i64 t246, .int .i64 t247, .int .i64 t248]] rfl (by (try simp only [List.map_toArray, List.map_cons, List.map_nil]); first | done | rfl | (simp only [List.length_drop, List.length_take]; rfl)) ?_; (with_reducible refine (version_Compare.calls ((rd_T23 l3 x89_2).f0) ((rd_T23 l3 x89_2).f1) ((rd_T23 l3 x89_2).f2) t246 t247 t248 t253 _ A145.out).mono ?_); rintro e w157 ⟨rfl, hb⟩; refine ⟨_, rfl, ?_⟩; have n0_ := Aside0.mk (blk_below (g := gb238) (o := .cells #[.int .i64 a0_0, .int .i64 a0_1, .int .i64 a0_2] 23 (0, 0)) (by (with_reducible repeat (first | refine blk_drewN ?_ _ | refine blk_drew ?_ | refine blk_alloc ?_ _)); refine blk_far ?_ NB238_252.out _; (with_reducible repeat (first | refine blk_drewN ?_ _ | refine blk_drew ?_ | refine blk_alloc ?_ _)); refine blk_far ?_ NB238_252.out _; (with_reducible repeat (first | refine blk_drewN ?_ _ | refine blk_drew ?_ | refine blk_alloc ?_ _)); refine blk_far ?_ NB238_252.out _; (with_reducible repeat (first | refine blk_drewN ?_ _ | refine blk_drew ?_ | refine blk_alloc ?_ _)); exact BK238.out) hb); have n1_ := Aside0.mk (blk_below (g := gb239) (o := .cells #[.int .i64 a1_0, .int .i64 a1_1, .int .i64 a1_2] 23 (0, 0)) (by (with_reducible repeat (first | refine blk_drewN ?_ _ | refine blk_drew ?_ | refine blk_alloc ?_ _)); refine blk_far ?_ NB239_252.out _; (with_reducible repeat (first | refine blk_drewN ?_ _ | refine blk_drew ?_ | refine blk_alloc ?_ _)); refine blk_far ?_ NB239_252.out _; (with_reducible repeat (first | refine blk_drewN ?_ _ | refine blk_drew ?_ | refine blk_alloc ?_ _)); refine blk_far ?_ NB239_252.out _; (with_reducible repeat (first | refine blk_drewN ?_ _ | refine blk_drew ?_ | refine blk_alloc ?_ _)); exact BK239.out) hb); have n2_ := Aside0.mk (blk_below (g := gb240) (o := .cells #[.int .i64 a2_0, .int .i64 a2_1, .int .i64 a2_2] 23 (0, 0)) (by (with_reducible repeat (first | refine blk_drewN ?_ _ | refine blk_drew ?_ | refine blk_alloc ?_ _)); refine blk_far ?_ NB240_252.out _; (with_reducible repeat (first | refine blk_drewN ?_ _ | refine blk_drew ?_ | refine blk_alloc ?_ _)); refine blk_far ?_ NB240_252.out _; (with_reducible repeat (first | refine blk_drewN ?_ _ | refine blk_drew ?_ | refine blk_alloc ?_ _)); refine blk_far ?_ NB240_252.out _; (with_reducible repeat (first | refine blk_drewN ?_ _ | refine blk_drew ?_ | refine blk_alloc ?_ _)); exact BK240.out) hb); have n3_ := Aside0.mk (blk_below (g := gb250) (o := .cells #[.int .i64 t246, .int .i64 t247, .int .i64 t248] 23 (0, 0)) (by (with_reducible repeat (first | refine blk_drewN ?_ _ | refine blk_drew ?_ | refine blk_alloc ?_ _)); refine blk_far ?_ NB250_252.out _; (with_reducible repeat (first | refine blk_drewN ?_ _ | refine blk_drew ?_ | refine blk_alloc ?_ _)); refine blk_far ?_ NB250_252.out _; (with_reducible repeat (first | refine blk_drewN ?_ _ | refine blk_drew ?_ | refine blk_alloc ?_ _)); refine blk_far ?_ NB250_252.out _; (with_reducible repeat (first | refine blk_drewN ?_ _ | refine blk_drew ?_ | refine blk_alloc ?_ _)); exact BK250.out) hb); have n4_ := Aside0.mk (blk_below (g := gb252) (o := .cells #[.int .i64 ((rd_T23 l3 x89_2).f0), .int .i64 ((rd_T23 l3 x89_2).f1), .int .i64 ((rd_T23 l3 x89_2).f2)] 23 (0, 0)) (by (with_reducible repeat (first | refine blk_drewN ?_ _ | refine blk_drew ?_ | refine blk_alloc ?_ _)); refine blk_put (cs := #[.int .i64 ((rd_T23 l3 x89_2).f0), .int .i64 ((rd_T23 l3 x89_2).f1), .int .i64 0]) ?_ 2 _ rfl; (with_reducible repeat (first | refine blk_drewN ?_ _ | refine blk_drew ?_ | refine blk_alloc ?_ _)); refine blk_put (cs := #[.int .i64 ((rd_T23 l3 x89_2).f0), .int .i64 0, .int .i64 0]) ?_ 1 _ rfl; (with_reducible repeat (first | refine blk_drewN ?_ _ | refine blk_drew ?_ | refine blk_alloc ?_ _)); refine blk_put (cs := #[.int .i64 0, .int .i64 0, .int .i64 0]) ?_ 0 _ rfl; (with_reducible repeat (first | refine blk_drewN ?_ _ | refine blk_drew ?_ | refine blk_alloc ?_ _)); exact BK252.out) hb); have n5_ := Aside0.mk (below_step (by repeat (first | (with_reducible first | exact HB.out | apply below_alloc | apply pw_below_drewN | apply below_drew1 | refine below_set ?_ GE238.out | refine below_set ?_ GE239.out | refine below_set ?_ GE240.out | refine below_set ?_ GE250.out | refine below_set ?_ GE252.out) | exact HB.out)) hb); clear BK238; clear BK239; clear BK240; clear BK250; clear BK252; clear HB; have BK238 := n0_; have BK239 := n1_; have BK240 := n2_; have BK250 := n3_; have BK252 := n4_; have HB := n5_; clear n0_ n1_ n2_ n3_ n4_ n5_; (try clear hb); (try clear hb2); (try clear hk); (try clear hi)))
                            go_roundg k2
                            case measure => have := HJ14.out; have := HK2.out; omega
                            case rel => exact ⟨(true), (wrap64 (x89_2 + 1)), (by first | rfl | (simp; done) | (simp [*]; done)), (by first | rfl | (simp; done) | (simp [*]; done)), H', ⟨by have := HJ14.out; have := HK2.out; omega⟩, ⟨by (with_reducible repeat (first | refine blk_drewN ?_ _ | refine blk_drew ?_ | refine blk_alloc ?_ _)); exact BK238.out⟩, ⟨by (with_reducible repeat (first | refine blk_drewN ?_ _ | refine blk_drew ?_ | refine blk_alloc ?_ _)); exact BK239.out⟩, ⟨by (with_reducible repeat (first | refine blk_drewN ?_ _ | refine blk_drew ?_ | refine blk_alloc ?_ _)); exact BK240.out⟩, ⟨by (with_reducible repeat (first | refine blk_drewN ?_ _ | refine blk_drew ?_ | refine blk_alloc ?_ _)); exact BK250.out⟩, ⟨by repeat (first | (with_reducible first | exact HB.out | apply below_alloc | apply pw_below_drewN | apply below_drew1 | refine below_set ?_ GE238.out | refine below_set ?_ GE239.out | refine below_set ?_ GE240.out | refine below_set ?_ GE250.out | refine below_set ?_ GE252.out) | exact HB.out)⟩⟩
                        · replace c144 := Bool.eq_false_iff.mpr c144
                          subst c144
                          have H1 : ((version_Compare.f ((rd_T23 l3 x89_2).f0) ((rd_T23 l3 x89_2).f1) ((rd_T23 l3 x89_2).f2) t246 t247 t248).bind fun t254 => (if t254 > 0 then (some false) else (modcertlaw24_VersionOrder.l0 k2 (((rd_T23 l3 x89_2).f0) == t246 && (((rd_T23 l3 x89_2).f1) == t247 && (((rd_T23 l3 x89_2).f2) == t248))) l3 (l3.length : Int) (wrap64 (x89_2 + 1)) t246 t247 t248))) = some r := by rw [if_neg (show ¬ (false = true) by decide)] at H; exact H
                          clear H
                          have H := H1
                          clear H1
                          replace H := Option.bind_eq_some_iff.mp H
                          obtain ⟨t254, A1580, H⟩ := H
                          replace H : (if t254 > 0 then (some false) else (modcertlaw24_VersionOrder.l0 k2 (((rd_T23 l3 x89_2).f0) == t246 && (((rd_T23 l3 x89_2).f1) == t247 && (((rd_T23 l3 x89_2).f2) == t248))) l3 (l3.length : Int) (wrap64 (x89_2 + 1)) t246 t247 t248)) = some r := H
                          have A158 := Aside0.mk A1580
                          clear A1580
                          by_cases c159 : t254 > 0
                          · rw [if_pos c159] at H
                            have c159b0 : decide (0 < t254) = true := decide_eq_true c159
                            clear c159
                            exact absurd (Option.some.inj H) (by rw [HR.out]; decide)
                          · rw [if_neg c159] at H
                            have c159b0 : decide (0 < t254) = false := decide_eq_false c159
                            clear c159
                            have H' := Aside0.mk H
                            clear H
                            have p251 : 0 ≤ (x89_2 : Int) := of_decide_eq_true (by first | (with_reducible assumption) | assumption)
                            have q251 : x89_2 < (l3.length : Int) := of_decide_eq_true (by first | (with_reducible assumption) | assumption)
                            obtain ⟨ad251, e251, hx251_0, hx251_1, hx251_2⟩ := at_T23 HR3.out x89_2 p251 q251
                            cases e251
                            replace hx251_0 := (HB.out.cell (World.block_lt_of_cell? w _ hx251_0)).trans hx251_0
                            replace hx251_1 := (HB.out.cell (World.block_lt_of_cell? w _ hx251_1)).trans hx251_1
                            replace hx251_2 := (HB.out.cell (World.block_lt_of_cell? w _ hx251_2)).trans hx251_2
                            replace p251 := eq_true p251
                            replace q251 := eq_true q251
                            go_wp2_with (first | ((with_reducible refine gate_dst (N := 16) rfl ?_); refine box_event ?hg (N := 16) ?hd (cs := #[.int .i64 0, .int .i64 0, .int .i64 0]) (t := 23) ?hr ?_; (case hd => rfl); (case hg => rfl); (case hr => first | (go_simp; done) | (go_simp; rfl)); intro gb252 hg w160 hbox hb; have n0_ := Aside0.mk (blk_below (g := gb238) (o := .cells #[.int .i64 a0_0, .int .i64 a0_1, .int .i64 a0_2] 23 (0, 0)) (by (with_reducible repeat (first | refine blk_drewN ?_ _ | refine blk_drew ?_ | refine blk_alloc ?_ _)); exact BK238.out) hb); have n1_ := Aside0.mk (blk_below (g := gb239) (o := .cells #[.int .i64 a1_0, .int .i64 a1_1, .int .i64 a1_2] 23 (0, 0)) (by (with_reducible repeat (first | refine blk_drewN ?_ _ | refine blk_drew ?_ | refine blk_alloc ?_ _)); exact BK239.out) hb); have n2_ := Aside0.mk (blk_below (g := gb240) (o := .cells #[.int .i64 a2_0, .int .i64 a2_1, .int .i64 a2_2] 23 (0, 0)) (by (with_reducible repeat (first | refine blk_drewN ?_ _ | refine blk_drew ?_ | refine blk_alloc ?_ _)); exact BK240.out) hb); have n3_ := Aside0.mk (blk_below (g := gb250) (o := .cells #[.int .i64 t246, .int .i64 t247, .int .i64 t248] 23 (0, 0)) (by (with_reducible repeat (first | refine blk_drewN ?_ _ | refine blk_drew ?_ | refine blk_alloc ?_ _)); exact BK250.out) hb); have n4_ := Aside0.mk (below_step (by repeat (first | (with_reducible first | exact HB.out | apply below_alloc | apply pw_below_drewN | apply below_drew1 | refine below_set ?_ GE238.out | refine below_set ?_ GE239.out | refine below_set ?_ GE240.out | refine below_set ?_ GE250.out) | exact HB.out)) hb); have n5_ := Aside0.mk (hbox); have n6_ := Aside0.mk ((by rw [hg]; exact (below_size (by repeat (first | (with_reducible first | exact HB.out | apply below_alloc | apply pw_below_drewN | apply below_drew1 | refine below_set ?_ GE238.out | refine below_set ?_ GE239.out | refine below_set ?_ GE240.out | refine below_set ?_ GE250.out) | exact HB.out))) : w.heap.size ≤ gb252)); have n7_ := Aside0.mk ((by rw [hg]; exact (below_size (by repeat (first | (with_reducible first | exact HB.out | apply below_alloc | apply pw_below_drewN | apply below_drew1 | refine below_set ?_ GE238.out | refine below_set ?_ GE239.out | refine below_set ?_ GE240.out | refine below_set ?_ GE250.out) | exact HB.out))) : w.heap.size ≤ gb252)); have n8_ := Aside0.mk ((by rw [hg]; exact Nat.ne_of_lt (blk_lt (g := gb238) (o := .cells #[.int .i64 a0_0, .int .i64 a0_1, .int .i64 a0_2] 23 (0, 0)) (by (with_reducible repeat (first | refine blk_drewN ?_ _ | refine blk_drew ?_ | refine blk_alloc ?_ _)); exact BK238.out)) : gb238 ≠ gb252)); have n9_ := Aside0.mk ((by rw [hg]; exact Nat.ne_of_gt (blk_lt (g := gb238) (o := .cells #[.int .i64 a0_0, .int .i64 a0_1, .int .i64 a0_2] 23 (0, 0)) (by (with_reducible repeat (first | refine blk_drewN ?_ _ | refine blk_drew ?_ | refine blk_alloc ?_ _)); exact BK238.out)) : gb252 ≠ gb238)); have n10_ := Aside0.mk ((by rw [hg]; exact Nat.ne_of_lt (blk_lt (g := gb239) (o := .cells #[.int .i64 a1_0, .int .i64 a1_1, .int .i64 a1_2] 23 (0, 0)) (by (with_reducible repeat (first | refine blk_drewN ?_ _ | refine blk_drew ?_ | refine blk_alloc ?_ _)); exact BK239.out)) : gb239 ≠ gb252)); have n11_ := Aside0.mk ((by rw [hg]; exact Nat.ne_of_gt (blk_lt (g := gb239) (o := .cells #[.int .i64 a1_0, .int .i64 a1_1, .int .i64 a1_2] 23 (0, 0)) (by (with_reducible repeat (first | refine blk_drewN ?_ _ | refine blk_drew ?_ | refine blk_alloc ?_ _)); exact BK239.out)) : gb252 ≠ gb239)); have n12_ := Aside0.mk ((by rw [hg]; exact Nat.ne_of_lt (blk_lt (g := gb240) (o := .cells #[.int .i64 a2_0, .int .i64 a2_1, .int .i64 a2_2] 23 (0, 0)) (by (with_reducible repeat (first | refine blk_drewN ?_ _ | refine blk_drew ?_ | refine blk_alloc ?_ _)); exact BK240.out)) : gb240 ≠ gb252)); have n13_ := Aside0.mk ((by rw [hg]; exact Nat.ne_of_gt (blk_lt (g := gb240) (o := .cells #[.int .i64 a2_0, .int .i64 a2_1, .int .i64 a2_2] 23 (0, 0)) (by (with_reducible repeat (first | refine blk_drewN ?_ _ | refine blk_drew ?_ | refine blk_alloc ?_ _)); exact BK240.out)) : gb252 ≠ gb240)); have n14_ := Aside0.mk ((by rw [hg]; exact Nat.ne_of_lt (blk_lt (g := gb250) (o := .cells #[.int .i64 t246, .int .i64 t247, .int .i64 t248] 23 (0, 0)) (by (with_reducible repeat (first | refine blk_drewN ?_ _ | refine blk_drew ?_ | refine blk_alloc ?_ _)); exact BK250.out)) : gb250 ≠ gb252)); have n15_ := Aside0.mk ((by rw [hg]; exact Nat.ne_of_gt (blk_lt (g := gb250) (o := .cells #[.int .i64 t246, .int .i64 t247, .int .i64 t248] 23 (0, 0)) (by (with_reducible repeat (first | refine blk_drewN ?_ _ | refine blk_drew ?_ | refine blk_alloc ?_ _)); exact BK250.out)) : gb252 ≠ gb250)); clear BK238; clear BK239; clear BK240; clear BK250; clear HB; have BK238 := n0_; have BK239 := n1_; have BK240 := n2_; have BK250 := n3_; have HB := n4_; have BK252 := n5_; have GW252 := n6_; have GE252 := n7_; have NB238_252 := n8_; have NB252_238 := n9_; have NB239_252 := n10_; have NB252_239 := n11_; have NB240_252 := n12_; have NB252_240 := n13_; have NB250_252 := n14_; have NB252_250 := n15_; clear n0_ n1_ n2_ n3_ n4_ n5_ n6_ n7_ n8_ n9_ n10_ n11_ n12_ n13_ n14_ n15_; clear hb hbox hg; have hnb161 := NB252_238.out; have hnc161 := NB238_252.out; have hnb162 := NB252_239.out; have hnc162 := NB239_252.out; have hnb163 := NB252_240.out; have hnc163 := NB240_252.out; have hnb164 := NB252_250.out; have hnc164 := NB250_252.out; have hcz165_0 : w160.cell? ⟨gb252, 0, none⟩ = some (.int .i64 0) := (blk_cell BK252.out 0).trans rfl; have hcz165_1 : w160.cell? ⟨gb252, 1, none⟩ = some (.int .i64 0) := (blk_cell BK252.out 1).trans rfl; have hcz165_2 : w160.cell? ⟨gb252, 2, none⟩ = some (.int .i64 0) := (blk_cell BK252.out 2).trans rfl; have hfz165_0 := blk_frozen BK252.out 0; have hfz165_1 := blk_frozen BK252.out 1; have hfz165_2 := blk_frozen BK252.out 2; have hnb166 := NB250_238.out; have hnc166 := NB238_250.out; have hnb167 := NB250_239.out; have hnc167 := NB239_250.out; have hnb168 := NB250_240.out; have hnc168 := NB240_250.out; have hcz169_0 : w160.cell? ⟨gb250, 0, none⟩ = some (.int .i64 t246) := (blk_cell BK250.out 0).trans rfl; have hcz169_1 : w160.cell? ⟨gb250, 1, none⟩ = some (.int .i64 t247) := (blk_cell BK250.out 1).trans rfl; have hcz169_2 : w160.cell? ⟨gb250, 2, none⟩ = some (.int .i64 t248) := (blk_cell BK250.out 2).trans rfl; have hfz169_0 := blk_frozen BK250.out 0; have hfz169_1 := blk_frozen BK250.out 1; have hfz169_2 := blk_frozen BK250.out 2) | ((with_reducible refine gate_callee (f := 17) rfl ?_); refine goesL_ (some 101) rfl rfl Tryd.func17 (by kernel_rfl) rfl #[.agg #[.int .i64 ((rd_T23 l3 x89_2).f0), .int .i64 ((rd_T23 l3 x89_2).f1), .int .i64 ((rd_T23 l3 x89_2).f2)], .agg #[.int .i64 t246, .int .i64 t247, .int .i64 t248]] rfl (by (try simp only [List.map_toArray, List.map_cons, List.map_nil]); first | done | rfl | (simp only [List.length_drop, List.length_take]; rfl)) ?_; (with_reducible refine (version_Compare.calls ((rd_T23 l3 x89_2).f0) ((rd_T23 l3 x89_2).f1) ((rd_T23 l3 x89_2).f2) t246 t247 t248 t254 _ A158.out).mono ?_); rintro e w170 ⟨rfl, hb⟩; refine ⟨_, rfl, ?_⟩; have n0_ := Aside0.mk (blk_below (g := gb238) (o := .cells #[.int .i64 a0_0, .int .i64 a0_1, .int .i64 a0_2] 23 (0, 0)) (by (with_reducible repeat (first | refine blk_drewN ?_ _ | refine blk_drew ?_ | refine blk_alloc ?_ _)); refine blk_far ?_ NB238_252.out _; (with_reducible repeat (first | refine blk_drewN ?_ _ | refine blk_drew ?_ | refine blk_alloc ?_ _)); refine blk_far ?_ NB238_252.out _; (with_reducible repeat (first | refine blk_drewN ?_ _ | refine blk_drew ?_ | refine blk_alloc ?_ _)); refine blk_far ?_ NB238_252.out _; (with_reducible repeat (first | refine blk_drewN ?_ _ | refine blk_drew ?_ | refine blk_alloc ?_ _)); exact BK238.out) hb); have n1_ := Aside0.mk (blk_below (g := gb239) (o := .cells #[.int .i64 a1_0, .int .i64 a1_1, .int .i64 a1_2] 23 (0, 0)) (by (with_reducible repeat (first | refine blk_drewN ?_ _ | refine blk_drew ?_ | refine blk_alloc ?_ _)); refine blk_far ?_ NB239_252.out _; (with_reducible repeat (first | refine blk_drewN ?_ _ | refine blk_drew ?_ | refine blk_alloc ?_ _)); refine blk_far ?_ NB239_252.out _; (with_reducible repeat (first | refine blk_drewN ?_ _ | refine blk_drew ?_ | refine blk_alloc ?_ _)); refine blk_far ?_ NB239_252.out _; (with_reducible repeat (first | refine blk_drewN ?_ _ | refine blk_drew ?_ | refine blk_alloc ?_ _)); exact BK239.out) hb); have n2_ := Aside0.mk (blk_below (g := gb240) (o := .cells #[.int .i64 a2_0, .int .i64 a2_1, .int .i64 a2_2] 23 (0, 0)) (by (with_reducible repeat (first | refine blk_drewN ?_ _ | refine blk_drew ?_ | refine blk_alloc ?_ _)); refine blk_far ?_ NB240_252.out _; (with_reducible repeat (first | refine blk_drewN ?_ _ | refine blk_drew ?_ | refine blk_alloc ?_ _)); refine blk_far ?_ NB240_252.out _; (with_reducible repeat (first | refine blk_drewN ?_ _ | refine blk_drew ?_ | refine blk_alloc ?_ _)); refine blk_far ?_ NB240_252.out _; (with_reducible repeat (first | refine blk_drewN ?_ _ | refine blk_drew ?_ | refine blk_alloc ?_ _)); exact BK240.out) hb); have n3_ := Aside0.mk (blk_below (g := gb250) (o := .cells #[.int .i64 t246, .int .i64 t247, .int .i64 t248] 23 (0, 0)) (by (with_reducible repeat (first | refine blk_drewN ?_ _ | refine blk_drew ?_ | refine blk_alloc ?_ _)); refine blk_far ?_ NB250_252.out _; (with_reducible repeat (first | refine blk_drewN ?_ _ | refine blk_drew ?_ | refine blk_alloc ?_ _)); refine blk_far ?_ NB250_252.out _; (with_reducible repeat (first | refine blk_drewN ?_ _ | refine blk_drew ?_ | refine blk_alloc ?_ _)); refine blk_far ?_ NB250_252.out _; (with_reducible repeat (first | refine blk_drewN ?_ _ | refine blk_drew ?_ | refine blk_alloc ?_ _)); exact BK250.out) hb); have n4_ := Aside0.mk (blk_below (g := gb252) (o := .cells #[.int .i64 ((rd_T23 l3 x89_2).f0), .int .i64 ((rd_T23 l3 x89_2).f1), .int .i64 ((rd_T23 l3 x89_2).f2)] 23 (0, 0)) (by (with_reducible repeat (first | refine blk_drewN ?_ _ | refine blk_drew ?_ | refine blk_alloc ?_ _)); refine blk_put (cs := #[.int .i64 ((rd_T23 l3 x89_2).f0), .int .i64 ((rd_T23 l3 x89_2).f1), .int .i64 0]) ?_ 2 _ rfl; (with_reducible repeat (first | refine blk_drewN ?_ _ | refine blk_drew ?_ | refine blk_alloc ?_ _)); refine blk_put (cs := #[.int .i64 ((rd_T23 l3 x89_2).f0), .int .i64 0, .int .i64 0]) ?_ 1 _ rfl; (with_reducible repeat (first | refine blk_drewN ?_ _ | refine blk_drew ?_ | refine blk_alloc ?_ _)); refine blk_put (cs := #[.int .i64 0, .int .i64 0, .int .i64 0]) ?_ 0 _ rfl; (with_reducible repeat (first | refine blk_drewN ?_ _ | refine blk_drew ?_ | refine blk_alloc ?_ _)); exact BK252.out) hb); have n5_ := Aside0.mk (below_step (by repeat (first | (with_reducible first | exact HB.out | apply below_alloc | apply pw_below_drewN | apply below_drew1 | refine below_set ?_ GE238.out | refine below_set ?_ GE239.out | refine below_set ?_ GE240.out | refine below_set ?_ GE250.out | refine below_set ?_ GE252.out) | exact HB.out)) hb); clear BK238; clear BK239; clear BK240; clear BK250; clear BK252; clear HB; have BK238 := n0_; have BK239 := n1_; have BK240 := n2_; have BK250 := n3_; have BK252 := n4_; have HB := n5_; clear n0_ n1_ n2_ n3_ n4_ n5_; (try clear hb); (try clear hb2); (try clear hk); (try clear hi)))
                            go_roundg k2
                            case measure => have := HJ14.out; have := HK2.out; omega
                            case rel => exact ⟨((((rd_T23 l3 x89_2).f0) == t246 && (((rd_T23 l3 x89_2).f1) == t247 && (((rd_T23 l3 x89_2).f2) == t248)))), (wrap64 (x89_2 + 1)), (by first | rfl | (simp; done) | (simp [*]; done)), (by first | rfl | (simp; done) | (simp [*]; done)), H', ⟨by have := HJ14.out; have := HK2.out; omega⟩, ⟨by (with_reducible repeat (first | refine blk_drewN ?_ _ | refine blk_drew ?_ | refine blk_alloc ?_ _)); exact BK238.out⟩, ⟨by (with_reducible repeat (first | refine blk_drewN ?_ _ | refine blk_drew ?_ | refine blk_alloc ?_ _)); exact BK239.out⟩, ⟨by (with_reducible repeat (first | refine blk_drewN ?_ _ | refine blk_drew ?_ | refine blk_alloc ?_ _)); exact BK240.out⟩, ⟨by (with_reducible repeat (first | refine blk_drewN ?_ _ | refine blk_drew ?_ | refine blk_alloc ?_ _)); exact BK250.out⟩, ⟨by repeat (first | (with_reducible first | exact HB.out | apply below_alloc | apply pw_below_drewN | apply below_drew1 | refine below_set ?_ GE238.out | refine below_set ?_ GE239.out | refine below_set ?_ GE240.out | refine below_set ?_ GE250.out | refine below_set ?_ GE252.out) | exact HB.out)⟩⟩
                      · rw [if_neg c143] at H
                        exact absurd H (by simp)
                    · rw [if_neg c142] at H
                      exact absurd H (by simp)
                  · rw [if_neg c141] at H
                    have c141b0 : decide (x89_2 < (l3.length : Int)) = false := decide_eq_false c141
                    clear c141
                    obtain rfl := Option.some.inj H
                    go_wp2
                    go_ret
                    exact ⟨by first | rfl | (simp [errW_none, errW_some] <;> rfl) | (simp [*, errW_none, errW_some] <;> rfl), by repeat (first | (with_reducible first | exact HB.out | apply below_alloc | apply pw_below_drewN | apply below_drew1 | refine below_set ?_ GE238.out | refine below_set ?_ GE239.out | refine below_set ?_ GE240.out | refine below_set ?_ GE250.out) | exact HB.out)⟩
            · replace c134 := Bool.eq_false_iff.mpr c134
              subst c134
              have H1 : (some ((l3.length : Int) == 0)) = some r := by rw [if_neg (show ¬ (false = true) by decide)] at H; exact H
              clear H
              have H := H1
              clear H1
              obtain rfl := Option.some.inj H
              go_wp2_with (first | ((with_reducible refine gate_callee (f := 18) rfl ?_); refine goesL_ (some 79) rfl rfl Tryd.func18 (by kernel_rfl) rfl #[.slice A3 l3.length c3] rfl (by (try simp only [List.map_toArray, List.map_cons, List.map_nil]); first | done | rfl | (simp only [List.length_drop, List.length_take]; rfl)) ?_; (with_reducible refine (version_Latest.calls _ _ l3 t246 t247 t248 false _ ?side1 ?side2 A133.out).mono ?_); (case side1 => repeat (first | exact (Kd.C_below HR3.out HB.out) | (with_reducible refine Kd.C_alloc ?_ _) | (with_reducible refine Kd.C_drewN ?_ _) | (with_reducible refine Kd.C_drew ?_))); (case side2 => exact HC3.out); rintro e w171 ⟨rfl, hb⟩; refine ⟨_, rfl, ?_⟩; have n0_ := Aside0.mk (blk_below (g := gb238) (o := .cells #[.int .i64 a0_0, .int .i64 a0_1, .int .i64 a0_2] 23 (0, 0)) (by (with_reducible repeat (first | refine blk_drewN ?_ _ | refine blk_drew ?_ | refine blk_alloc ?_ _)); exact BK238.out) hb); have n1_ := Aside0.mk (blk_below (g := gb239) (o := .cells #[.int .i64 a1_0, .int .i64 a1_1, .int .i64 a1_2] 23 (0, 0)) (by (with_reducible repeat (first | refine blk_drewN ?_ _ | refine blk_drew ?_ | refine blk_alloc ?_ _)); exact BK239.out) hb); have n2_ := Aside0.mk (blk_below (g := gb240) (o := .cells #[.int .i64 a2_0, .int .i64 a2_1, .int .i64 a2_2] 23 (0, 0)) (by (with_reducible repeat (first | refine blk_drewN ?_ _ | refine blk_drew ?_ | refine blk_alloc ?_ _)); exact BK240.out) hb); have n3_ := Aside0.mk (below_step (by repeat (first | (with_reducible first | exact HB.out | apply below_alloc | apply pw_below_drewN | apply below_drew1 | refine below_set ?_ GE238.out | refine below_set ?_ GE239.out | refine below_set ?_ GE240.out) | exact HB.out)) hb); clear BK238; clear BK239; clear BK240; clear HB; have BK238 := n0_; have BK239 := n1_; have BK240 := n2_; have HB := n3_; clear n0_ n1_ n2_ n3_; (try clear hb); (try clear hb2); (try clear hk); (try clear hi)) | ((with_reducible refine gate_dst (N := 12) rfl ?_); refine box_event ?hg (N := 12) ?hd (cs := #[.int .i64 0, .int .i64 0, .int .i64 0]) (t := 23) ?hr ?_; (case hd => rfl); (case hg => rfl); (case hr => first | (go_simp; done) | (go_simp; rfl)); intro gb250 hg w172 hbox hb; have n0_ := Aside0.mk (blk_below (g := gb238) (o := .cells #[.int .i64 a0_0, .int .i64 a0_1, .int .i64 a0_2] 23 (0, 0)) (by (with_reducible repeat (first | refine blk_drewN ?_ _ | refine blk_drew ?_ | refine blk_alloc ?_ _)); exact BK238.out) hb); have n1_ := Aside0.mk (blk_below (g := gb239) (o := .cells #[.int .i64 a1_0, .int .i64 a1_1, .int .i64 a1_2] 23 (0, 0)) (by (with_reducible repeat (first | refine blk_drewN ?_ _ | refine blk_drew ?_ | refine blk_alloc ?_ _)); exact BK239.out) hb); have n2_ := Aside0.mk (blk_below (g := gb240) (o := .cells #[.int .i64 a2_0, .int .i64 a2_1, .int .i64 a2_2] 23 (0, 0)) (by (with_reducible repeat (first | refine blk_drewN ?_ _ | refine blk_drew ?_ | refine blk_alloc ?_ _)); exact BK240.out) hb); have n3_ := Aside0.mk (below_step (by repeat (first | (with_reducible first | exact HB.out | apply below_alloc | apply pw_below_drewN | apply below_drew1 | refine below_set ?_ GE238.out | refine below_set ?_ GE239.out | refine below_set ?_ GE240.out) | exact HB.out)) hb); have n4_ := Aside0.mk (hbox); have n5_ := Aside0.mk ((by rw [hg]; exact (below_size (by repeat (first | (with_reducible first | exact HB.out | apply below_alloc | apply pw_below_drewN | apply below_drew1 | refine below_set ?_ GE238.out | refine below_set ?_ GE239.out | refine below_set ?_ GE240.out) | exact HB.out))) : w.heap.size ≤ gb250)); have n6_ := Aside0.mk ((by rw [hg]; exact (below_size (by repeat (first | (with_reducible first | exact HB.out | apply below_alloc | apply pw_below_drewN | apply below_drew1 | refine below_set ?_ GE238.out | refine below_set ?_ GE239.out | refine below_set ?_ GE240.out) | exact HB.out))) : w.heap.size ≤ gb250)); have n7_ := Aside0.mk ((by rw [hg]; exact Nat.ne_of_lt (blk_lt (g := gb238) (o := .cells #[.int .i64 a0_0, .int .i64 a0_1, .int .i64 a0_2] 23 (0, 0)) (by (with_reducible repeat (first | refine blk_drewN ?_ _ | refine blk_drew ?_ | refine blk_alloc ?_ _)); exact BK238.out)) : gb238 ≠ gb250)); have n8_ := Aside0.mk ((by rw [hg]; exact Nat.ne_of_gt (blk_lt (g := gb238) (o := .cells #[.int .i64 a0_0, .int .i64 a0_1, .int .i64 a0_2] 23 (0, 0)) (by (with_reducible repeat (first | refine blk_drewN ?_ _ | refine blk_drew ?_ | refine blk_alloc ?_ _)); exact BK238.out)) : gb250 ≠ gb238)); have n9_ := Aside0.mk ((by rw [hg]; exact Nat.ne_of_lt (blk_lt (g := gb239) (o := .cells #[.int .i64 a1_0, .int .i64 a1_1, .int .i64 a1_2] 23 (0, 0)) (by (with_reducible repeat (first | refine blk_drewN ?_ _ | refine blk_drew ?_ | refine blk_alloc ?_ _)); exact BK239.out)) : gb239 ≠ gb250)); have n10_ := Aside0.mk ((by rw [hg]; exact Nat.ne_of_gt (blk_lt (g := gb239) (o := .cells #[.int .i64 a1_0, .int .i64 a1_1, .int .i64 a1_2] 23 (0, 0)) (by (with_reducible repeat (first | refine blk_drewN ?_ _ | refine blk_drew ?_ | refine blk_alloc ?_ _)); exact BK239.out)) : gb250 ≠ gb239)); have n11_ := Aside0.mk ((by rw [hg]; exact Nat.ne_of_lt (blk_lt (g := gb240) (o := .cells #[.int .i64 a2_0, .int .i64 a2_1, .int .i64 a2_2] 23 (0, 0)) (by (with_reducible repeat (first | refine blk_drewN ?_ _ | refine blk_drew ?_ | refine blk_alloc ?_ _)); exact BK240.out)) : gb240 ≠ gb250)); have n12_ := Aside0.mk ((by rw [hg]; exact Nat.ne_of_gt (blk_lt (g := gb240) (o := .cells #[.int .i64 a2_0, .int .i64 a2_1, .int .i64 a2_2] 23 (0, 0)) (by (with_reducible repeat (first | refine blk_drewN ?_ _ | refine blk_drew ?_ | refine blk_alloc ?_ _)); exact BK240.out)) : gb250 ≠ gb240)); clear BK238; clear BK239; clear BK240; clear HB; have BK238 := n0_; have BK239 := n1_; have BK240 := n2_; have HB := n3_; have BK250 := n4_; have GW250 := n5_; have GE250 := n6_; have NB238_250 := n7_; have NB250_238 := n8_; have NB239_250 := n9_; have NB250_239 := n10_; have NB240_250 := n11_; have NB250_240 := n12_; clear n0_ n1_ n2_ n3_ n4_ n5_ n6_ n7_ n8_ n9_ n10_ n11_ n12_; clear hb hbox hg; have hnb173 := NB250_238.out; have hnc173 := NB238_250.out; have hnb174 := NB250_239.out; have hnc174 := NB239_250.out; have hnb175 := NB250_240.out; have hnc175 := NB240_250.out; have hcz176_0 : w172.cell? ⟨gb250, 0, none⟩ = some (.int .i64 0) := (blk_cell BK250.out 0).trans rfl; have hcz176_1 : w172.cell? ⟨gb250, 1, none⟩ = some (.int .i64 0) := (blk_cell BK250.out 1).trans rfl; have hcz176_2 : w172.cell? ⟨gb250, 2, none⟩ = some (.int .i64 0) := (blk_cell BK250.out 2).trans rfl; have hfz176_0 := blk_frozen BK250.out 0; have hfz176_1 := blk_frozen BK250.out 1; have hfz176_2 := blk_frozen BK250.out 2))
              go_ret
              exact ⟨by first | rfl | (simp [errW_none, errW_some] <;> rfl) | (simp [*, errW_none, errW_some] <;> rfl), by repeat (first | (with_reducible first | exact HB.out | apply below_alloc | apply pw_below_drewN | apply below_drew1 | refine below_set ?_ GE238.out | refine below_set ?_ GE239.out | refine below_set ?_ GE240.out | refine below_set ?_ GE250.out) | exact HB.out)⟩
  · replace c6 := Bool.eq_false_iff.mpr c6
    subst c6
    have H1 : (some false) = some r := by rw [if_neg (show ¬ (false = true) by decide)] at H; exact H
    clear H
    have H := H1
    clear H1
    exact absurd (Option.some.inj H) (by rw [HR.out]; decide)

end Go.Proofs.YtdccbpeajpnkjaaDoor.Pr
