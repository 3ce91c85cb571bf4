/- Contracts of version.Valid and version.Compare, in the form that the printed texts take: whether each part is from 0 to 999; the first difference; no condition. -/
import Derived.Lib.Hide
import Derived.Deep.RegionHeld3
import Derived.Test.YtdccbpeajpnkjaaGreatDoorPr0
import Derived.Test.YtdccbpeajpnkjaaGreatDoorShelf
namespace Go.Proofs.YtdccbpeajpnkjaaGreatDoor.Pr
open Go.RowKit Go.Proofs.YtdccbpeajpnkjaaGreatDoorW.PrintWords Go.Proofs.YtdccbpeajpnkjaaGreatDoorW.PrintLast Go.Proofs.YtdccbpeajpnkjaaGreatDoorW.PrintMore
def okPart (n : Int) : Bool := decide (0 ≤ n) && decide (n ≤ 999)
def partAt (a b c : Int) (k : Nat) : Int := match k with | 0 => a | 1 => b | _ => c
def validB (a b c : Int) : Bool := okPart a && (okPart b && okPart c)
def version_Valid.f (a0_0 a0_1 a0_2 : Int) : Option Bool := some (validB a0_0 a0_1 a0_2)
set_option maxRecDepth 100000 in
theorem parts_at (a b c : Int) (k : Nat) (hk : k < 3) : ∀ w : World, (Instr.index 47 (.agg #[.int .i64 a, .int .i64 b, .int .i64 c]) (.int .i64 (k : Int))).run Tryz.prog w = .ok (.int .i64 (partAt a b c k)) w := by
  match k, hk with
  | 0, _ => exact fun _ => by kernel_rfl
  | 1, _ => exact fun _ => by kernel_rfl
  | 2, _ => exact fun _ => by kernel_rfl
set_option maxRecDepth 100000 in
theorem parts_exact (a b c : Int) (w : World) : Calls Tryz.prog 26 #[.agg #[.int .i64 a, .int .i64 b, .int .i64 c]] w fun e w' => e = .returned (.agg #[.int .i64 a, .int .i64 b, .int .i64 c]) ∧ w' = (w.alloc (.cells #[.int .i64 a, .int .i64 b, .int .i64 c] 23)).alloc (.cells #[.int .i64 a, .int .i64 b, .int .i64 c] 47) := by
  go_enter Tryz.func26, Tryz.ntmps26
  go_wp2
  refine bodyPost_ret (v := .agg #[.int .i64 a, .int .i64 b, .int .i64 c]) (by simp [results, Tryz.f26, go_sem]) rfl ⟨rfl, ?_⟩
  rfl
set_option maxRecDepth 100000 in
theorem parts_calls (a b c : Int) (w : World) : Calls Tryz.prog 26 #[.agg #[.int .i64 a, .int .i64 b, .int .i64 c]] w fun e w' => e = .returned (.agg #[.int .i64 a, .int .i64 b, .int .i64 c]) ∧ Below w.heap.size w w' := by
  go_enter Tryz.func26, Tryz.ntmps26
  go_wp2
  refine bodyPost_ret (v := .agg #[.int .i64 a, .int .i64 b, .int .i64 c]) (by simp [results, Tryz.f26, go_sem]) rfl ⟨rfl, below_alloc (below_alloc (Below.refl _ _) _) _⟩
theorem valid_false {a b c : Int} {k : Nat} (hk : k < 3) (h : okPart (partAt a b c k) = false) : validB a b c = false := by
  unfold validB
  match k, hk with
  | 0, _ => rw [show okPart a = false from h]; rfl
  | 1, _ => rw [show okPart b = false from h]; simp
  | 2, _ => rw [show okPart c = false from h]; simp
theorem valid_true {a b c : Int} (h : ∀ j, j < 3 → okPart (partAt a b c j) = true) : validB a b c = true := by
  unfold validB
  rw [show okPart a = true from h 0 (by decide), show okPart b = true from h 1 (by decide), show okPart c = true from h 2 (by decide)]; rfl
set_option maxHeartbeats 1000000 in
set_option maxRecDepth 100000 in
theorem version_Valid.calls (a0_0 a0_1 a0_2 : Int) (r : Bool) (w : World) (h : version_Valid.f a0_0 a0_1 a0_2 = some r) :
    Calls Tryz.prog 22 #[.agg #[.int .i64 a0_0, .int .i64 a0_1, .int .i64 a0_2]] w fun e w' => e = .returned (.bool r) ∧ Below w.heap.size w w' := by
  have h' := Option.some.inj h
  have H := Lib.hid h'
  clear h h'
  have hp := parts_at a0_0 a0_1 a0_2
  go_enter Tryz.func22, Tryz.ntmps22
  go_wp2_with (go_at_call 26; refine (parts_calls _ _ _ _).mono ?_; rintro e w1 ⟨rfl, hb1⟩; have HB1 := Aside0.mk ((below_alloc (Below.refl w.heap.size w) (.cells #[.int .i64 a0_0, .int .i64 a0_1, .int .i64 a0_2] 23)).trans (hb1.mono (by simp))); clear hb1)
  go_loopw [4, 7] (fun _ v7 wr => ∃ k : Nat, k ≤ 3 ∧ v7 = .int .i64 k ∧ Aside0 (∀ j, j < k → okPart (partAt a0_0 a0_1 a0_2 j) = true) ∧ Aside0 (Below w.heap.size w wr)) (fun _ v7 _ => 3 - (intOf v7).toNat)
  case atStart => exact ⟨0, by decide, rfl, ⟨fun j hj => absurd hj (Nat.not_lt_zero j)⟩, HB1⟩
  case round =>
    clear HB1
    obtain ⟨k, hk, rfl, HA, HB⟩ := hrel
    by_cases hlt : k < 3
    · have hix := hp k hlt
      clear hp
      have HK := Aside0.mk (fun (b : Bool) (hb : okPart (partAt a0_0 a0_1 a0_2 k) = b) => hb)
      by_cases h1 : partAt a0_0 a0_1 a0_2 k < 0
      · have H1 := Aside0.mk (valid_false hlt (show okPart (partAt a0_0 a0_1 a0_2 k) = false by unfold okPart; rw [decide_eq_false (by omega)]; rfl))
        generalize partAt a0_0 a0_1 a0_2 k = n at *
        have g1 : decide (n < 0) = true := decide_eq_true h1
        go_wp2
        go_ret
        exact ⟨by rw [← H.out, H1.out]; rfl, HB.out⟩
      · by_cases h2 : 999 < partAt a0_0 a0_1 a0_2 k
        · have H1 := Aside0.mk (valid_false hlt (show okPart (partAt a0_0 a0_1 a0_2 k) = false by unfold okPart; rw [decide_eq_false (show ¬ partAt a0_0 a0_1 a0_2 k ≤ 999 by omega)]; simp))
          generalize partAt a0_0 a0_1 a0_2 k = n at *
          have g1 : decide (n < 0) = false := decide_eq_false h1
          have g2 : decide (999 < n) = true := decide_eq_true h2
          go_wp2
          go_ret
          exact ⟨by rw [← H.out, H1.out]; rfl, HB.out⟩
        · have hok : okPart (partAt a0_0 a0_1 a0_2 k) = true := by unfold okPart; rw [decide_eq_true (by omega), decide_eq_true (by omega)]; rfl
          have HA1 := Aside0.mk (fun j (hj : j < k + 1) => (Nat.lt_succ_iff_lt_or_eq.1 hj).elim (HA.out j) (fun e => e ▸ hok))
          clear hok HK
          generalize partAt a0_0 a0_1 a0_2 k = n at *
          have g1 : decide (n < 0) = false := decide_eq_false h1
          have g2 : decide (999 < n) = false := decide_eq_false h2
          go_wp2
          go_roundw
          case rel => exact ⟨k + 1, by omega, by go_num, HA1, HB⟩
          case measure => simp [intOf]; omega
    · obtain rfl : k = 3 := by omega
      have H1 := Aside0.mk (valid_true HA.out)
      go_wp2
      go_ret
      exact ⟨by rw [← H.out, H1.out]; rfl, HB.out⟩
/-- one number against another. -/
def cmpI (x y : Int) : Int := if x < y then -1 else if y < x then 1 else 0
def cmpV (a0 a1 a2 b0 b1 b2 : Int) : Int := if cmpI a0 b0 ≠ 0 then cmpI a0 b0 else if cmpI a1 b1 ≠ 0 then cmpI a1 b1 else cmpI a2 b2
def version_Compare.f (a0_0 a0_1 a0_2 a1_0 a1_1 a1_2 : Int) : Option Int := some (cmpV a0_0 a0_1 a0_2 a1_0 a1_1 a1_2)
theorem compareInt_is (x y : Int) : Lib.compareInt x y = cmpI x y := by
  unfold Lib.compareInt cmpI
  split
  · rfl
  · split <;> rfl
theorem cmpV_zero {a0 a1 a2 b0 b1 b2 : Int} (h : ∀ j, j < 3 → cmpI (partAt a0 a1 a2 j) (partAt b0 b1 b2 j) = 0) : cmpV a0 a1 a2 b0 b1 b2 = 0 := by
  have h0 : cmpI a0 b0 = 0 := h 0 (by decide)
  have h1 : cmpI a1 b1 = 0 := h 1 (by decide)
  have h2 : cmpI a2 b2 = 0 := h 2 (by decide)
  unfold cmpV
  rw [if_neg (by simp [h0]), if_neg (by simp [h1]), h2]
theorem cmpV_first {a0 a1 a2 b0 b1 b2 : Int} {k : Nat} (hk : k < 3) (h : ∀ j, j < k → cmpI (partAt a0 a1 a2 j) (partAt b0 b1 b2 j) = 0) (hc : cmpI (partAt a0 a1 a2 k) (partAt b0 b1 b2 k) ≠ 0) : cmpV a0 a1 a2 b0 b1 b2 = cmpI (partAt a0 a1 a2 k) (partAt b0 b1 b2 k) := by
  unfold cmpV
  match k, hk with
  | 0, _ => rw [if_pos (show cmpI a0 b0 ≠ 0 from hc)]; rfl
  | 1, _ =>
    have h0 : cmpI a0 b0 = 0 := h 0 (by decide)
    rw [if_neg (by simp [h0]), if_pos (show cmpI a1 b1 ≠ 0 from hc)]; rfl
  | 2, _ =>
    have h0 : cmpI a0 b0 = 0 := h 0 (by decide)
    have h1 : cmpI a1 b1 = 0 := h 1 (by decide)
    rw [if_neg (by simp [h0]), if_neg (by simp [h1])]; rfl
def BoxesAt (a b c x y z : Int) (g : Nat) (w : World) : Prop :=
  (w.cell? { block := g, off := 0 } = some (.int .i64 a) ∧ w.cell? { block := g, off := 1 } = some (.int .i64 b) ∧ w.cell? { block := g, off := 2 } = some (.int .i64 c)) ∧ (w.cell? { block := g + 1, off := 0 } = some (.int .i64 x) ∧ w.cell? { block := g + 1, off := 1 } = some (.int .i64 y) ∧ w.cell? { block := g + 1, off := 2 } = some (.int .i64 z))
theorem boxes_keep {a b c x y z : Int} {g : Nat} {w0 w' : World} (h : BoxesAt a b c x y z g w0) (hs : w0.heap.size = g + 2) (hb : Below w0.heap.size w0 w') :
    (w'.cell? { block := g, off := 0 } = some (.int .i64 a) ∧ w'.cell? { block := g, off := 1 } = some (.int .i64 b) ∧ w'.cell? { block := g, off := 2 } = some (.int .i64 c)) ∧ (w'.cell? { block := g + 1, off := 0 } = some (.int .i64 x) ∧ w'.cell? { block := g + 1, off := 1 } = some (.int .i64 y) ∧ w'.cell? { block := g + 1, off := 2 } = some (.int .i64 z)) ∧ Below w0.heap.size w0 w' :=
  ⟨⟨(hb.cell (by simp; omega)).trans h.1.1, (hb.cell (by simp; omega)).trans h.1.2.1, (hb.cell (by simp; omega)).trans h.1.2.2⟩, ⟨(hb.cell (by simp; omega)).trans h.2.1, (hb.cell (by simp; omega)).trans h.2.2.1, (hb.cell (by simp; omega)).trans h.2.2.2⟩, hb⟩
set_option maxHeartbeats 1000000 in
set_option maxRecDepth 100000 in
theorem version_Compare.calls (a0_0 a0_1 a0_2 a1_0 a1_1 a1_2 : Int) (r : Int) (w : World) (h : version_Compare.f a0_0 a0_1 a0_2 a1_0 a1_1 a1_2 = some r) :
    Calls Tryz.prog 12 #[.agg #[.int .i64 a0_0, .int .i64 a0_1, .int .i64 a0_2], .agg #[.int .i64 a1_0, .int .i64 a1_1, .int .i64 a1_2]] w fun e w' => e = .returned (.int .i64 r) ∧ Below w.heap.size w w' := by
  have h' := Option.some.inj h
  have H := Lib.hid h'
  clear h h'
  have hp := parts_at a0_0 a0_1 a0_2
  have hq := parts_at a1_0 a1_1 a1_2
  go_enter Tryz.func12, Tryz.ntmps12
  go_wp2_with fail
  have HB0 : Below w.heap.size w ((w.alloc (.cells #[.int .i64 a0_0, .int .i64 a0_1, .int .i64 a0_2] 23)).alloc (.cells #[.int .i64 a1_0, .int .i64 a1_1, .int .i64 a1_2] 23)) := below_alloc (below_alloc (Below.refl _ _) _) _
  have HS0 : ((w.alloc (.cells #[.int .i64 a0_0, .int .i64 a0_1, .int .i64 a0_2] 23)).alloc (.cells #[.int .i64 a1_0, .int .i64 a1_1, .int .i64 a1_2] 23)).heap.size = w.heap.size + 2 := by simp
  have HC0 : BoxesAt a0_0 a0_1 a0_2 a1_0 a1_1 a1_2 w.heap.size ((w.alloc (.cells #[.int .i64 a0_0, .int .i64 a0_1, .int .i64 a0_2] 23)).alloc (.cells #[.int .i64 a1_0, .int .i64 a1_1, .int .i64 a1_2] 23)) := by unfold BoxesAt; simp [go_sem]
  generalize (w.alloc (.cells #[.int .i64 a0_0, .int .i64 a0_1, .int .i64 a0_2] 23)).alloc (.cells #[.int .i64 a1_0, .int .i64 a1_1, .int .i64 a1_2] 23) = w0 at *
  go_cut [5, 6] from 7 (fun v5 v6 wx => ∃ p q : Nat, v5 = .pointer (some { block := p, off := 0 }) ∧ v6 = .pointer (some { block := q, off := 0 }) ∧ (∀ k : Nat, k < 3 → wx.cell? { block := p, off := k } = some (.int .i64 (partAt a0_0 a0_1 a0_2 k))) ∧ (∀ k : Nat, k < 3 → wx.cell? { block := q, off := k } = some (.int .i64 (partAt a1_0 a1_1 a1_2 k))) ∧ Aside0 (Below w.heap.size w wx))
  case first =>
    go_region_held3 (fun w' => (w'.cell? { block := w.heap.size, off := 0 } = some (.int .i64 a0_0) ∧ w'.cell? { block := w.heap.size, off := 1 } = some (.int .i64 a0_1) ∧ w'.cell? { block := w.heap.size, off := 2 } = some (.int .i64 a0_2)) ∧ (w'.cell? { block := w.heap.size + 1, off := 0 } = some (.int .i64 a1_0) ∧ w'.cell? { block := w.heap.size + 1, off := 1 } = some (.int .i64 a1_1) ∧ w'.cell? { block := w.heap.size + 1, off := 2 } = some (.int .i64 a1_2)) ∧ Below w0.heap.size w0 w')
      (first | exact boxes_keep HC0 HS0 (below_drew (Below.refl _ _)) | (go_split_ands; exact boxes_keep HC0 HS0 (below_alloc (by assumption) _)) | (go_split_ands; exact boxes_keep HC0 HS0 (below_step (by assumption) (by assumption))) | (refine boxes_keep HC0 HS0 ?_; (repeat first | exact Below.refl _ _ | refine below_drew ?_ | refine below_alloc ?_ _ | refine below_step ?_ (by assumption)); done))
      (first | (go_at_call 26; refine (parts_exact _ _ _ _).mono ?_; rintro e w1 ⟨rfl, rfl⟩))
    all_goals go_wp2_with fail
    all_goals go_meet
    all_goals (refine ⟨_, _, rfl, rfl, ?_, ?_, ⟨below_step HB0 ?_⟩⟩; (intro k hk; match k, hk with | 0, _ => simp [partAt, go_sem, HS0] | 1, _ => simp [partAt, go_sem, HS0] | 2, _ => simp [partAt, go_sem, HS0]); (intro k hk; match k, hk with | 0, _ => simp [partAt, go_sem, HS0] | 1, _ => simp [partAt, go_sem, HS0] | 2, _ => simp [partAt, go_sem, HS0]); (repeat first | exact Below.refl _ _ | refine below_drew ?_ | refine below_alloc ?_ _))
  case rest =>
    obtain ⟨p, q, rfl, rfl, hP, hQ, HBc⟩ := hcut
    clear HB0 HS0 HC0
    go_wp2_with fail
    go_loopw [7, 8, 13] (fun _ _ v13 wr => ∃ k : Nat, k ≤ 3 ∧ v13 = .int .i64 k ∧ Aside0 (∀ j, j < k → cmpI (partAt a0_0 a0_1 a0_2 j) (partAt a1_0 a1_1 a1_2 j) = 0) ∧ (∀ k : Nat, k < 3 → wr.cell? { block := p, off := k } = some (.int .i64 (partAt a0_0 a0_1 a0_2 k))) ∧ (∀ k : Nat, k < 3 → wr.cell? { block := q, off := k } = some (.int .i64 (partAt a1_0 a1_1 a1_2 k))) ∧ Aside0 (Below w.heap.size w wr)) (fun _ _ v13 _ => 3 - (intOf v13).toNat)
    case atStart => exact ⟨0, by decide, rfl, ⟨fun j hj => absurd hj (Nat.not_lt_zero j)⟩, hP, hQ, HBc⟩
    case round =>
      clear hP hQ HBc
      obtain ⟨k, hk, rfl, HA, hP, hQ, HB⟩ := hrel
      by_cases hlt : k < 3
      · have hx := hP k hlt
        have hy := hQ k hlt
        have hk0 : (0 : Int) ≤ (k : Int) := Int.natCast_nonneg _
        have hk1 : (k : Int) < 3 := by omega
        have HF := Aside0.mk (fun (hc : cmpI (partAt a0_0 a0_1 a0_2 k) (partAt a1_0 a1_1 a1_2 k) ≠ 0) => cmpV_first hlt HA.out hc)
        have HZ := Aside0.mk (fun (hc : cmpI (partAt a0_0 a0_1 a0_2 k) (partAt a1_0 a1_1 a1_2 k) = 0) j (hj : j < k + 1) => (Nat.lt_succ_iff_lt_or_eq.1 hj).elim (HA.out j) (fun e => e ▸ hc))
        have HPQ := Aside0.mk (And.intro hP hQ)
        clear hP hQ hp hq
        generalize partAt a0_0 a0_1 a0_2 k = x at hx HF HZ
        generalize partAt a1_0 a1_1 a1_2 k = y at hy HF HZ
        have hcm := compareInt_is x y
        generalize cmpI x y = n at HF HZ hcm
        go_wp2_with fail
        go_region_held3 (fun w' => w'.cell? { block := p, off := k } = some (.int .i64 x) ∧ w'.cell? { block := q, off := k } = some (.int .i64 y)) (go_keep)
          (first | (go_at_call 27; refine (Tryz.cmp_Compare_int _ _ _).mono ?_; rintro e w1 ⟨rfl, rfl⟩))
        by_cases hn : n = 0
        · have g1 : (n != 0) = false := by simp [hn]
          go_wp2_with fail
          go_roundw
          case rel => exact ⟨k + 1, by omega, by go_num, ⟨HZ.out hn⟩, HPQ.out.1, HPQ.out.2, ⟨below_drew HB.out⟩⟩
          case measure => simp [intOf]; omega
        · have g1 : (n != 0) = true := by simp [hn]
          go_wp2_with fail
          go_ret
          exact ⟨by rw [← H.out, HF.out hn]; rfl, below_drew HB.out⟩
      · obtain rfl : k = 3 := by omega
        have H1 : cmpV a0_0 a0_1 a0_2 a1_0 a1_1 a1_2 = 0 := cmpV_zero HA.out
        go_wp2
        go_ret
        exact ⟨by rw [← H.out, H1]; rfl, HB.out⟩
end Go.Proofs.YtdccbpeajpnkjaaGreatDoor.Pr
