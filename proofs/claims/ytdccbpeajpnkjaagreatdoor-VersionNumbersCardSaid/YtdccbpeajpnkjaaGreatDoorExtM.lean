/- Contract of version.Latest, in the form that the printed texts take: the first of the greatest numbers of a list; no condition. -/
import Derived.Lib.Hide
import Derived.Deep.RegionHeld3
import Derived.Test.YtdccbpeajpnkjaaGreatDoorExtV
namespace Go.Proofs.YtdccbpeajpnkjaaGreatDoor.Pr
open Go.RowKit Go.Proofs.YtdccbpeajpnkjaaGreatDoorW.PrintWords Go.Proofs.YtdccbpeajpnkjaaGreatDoorW.PrintLast Go.Proofs.YtdccbpeajpnkjaaGreatDoorW.PrintMore
def cmpS (x y : S23) : Int := cmpV x.f0 x.f1 x.f2 y.f0 y.f1 y.f2
/-- the first of the greatest among the numbers 0 to k. -/
def bestUpto (xs : List S23) : Nat → S23
  | 0 => rd_T23 xs ((0 : Nat) : Int)
  | k + 1 => if 0 < cmpS (rd_T23 xs ((k + 1 : Nat) : Int)) (bestUpto xs k) then rd_T23 xs ((k + 1 : Nat) : Int) else bestUpto xs k
def aggS (x : S23) : Value := .agg #[.int .i64 x.f0, .int .i64 x.f1, .int .i64 x.f2]
/-- three cells, one behind the other. -/
def CellsS (W : World) (a : Addr) (x : S23) : Prop := W.cell? a = some (.int .i64 x.f0) ∧ W.cell? ⟨a.block, a.off + 1, none⟩ = some (.int .i64 x.f1) ∧ W.cell? ⟨a.block, a.off + 2, none⟩ = some (.int .i64 x.f2)
theorem CellsS.below {W W' : World} {a : Addr} {x : S23} (h : CellsS W a x) (hb : Below W.heap.size W W') : CellsS W' a x := ⟨pw_cell_below hb h.1, pw_cell_below hb h.2.1, pw_cell_below hb h.2.2⟩
theorem cells_at {W : World} {A : Option Addr} {n : Nat} {xs : List S23} (h : Kd.C k23 W A n xs) (i : Nat) (hi : i < n) : ∃ ad, A = some ad ∧ CellsS W (ad.add (i * 3)) (rd_T23 xs (i : Int)) := by
  obtain ⟨ad, e, h0, h1, h2⟩ := at_T23 h (i : Int) (by omega) (by omega)
  exact ⟨ad, e, h0, h1, h2⟩
theorem cells_at' {W : World} {ad : Addr} {n : Nat} {xs : List S23} (h : Kd.C k23 W (some ad) n xs) (i : Nat) (hi : i < n) : CellsS W (ad.add (i * 3)) (rd_T23 xs (i : Int)) := by
  obtain ⟨ad', e, hc⟩ := cells_at h i hi
  obtain rfl := Option.some.inj e
  exact hc
/-- the blocks of MaxFunc: the result's zeros at g, the best number so far at g + 1. -/
def MIn (g : Nat) (b : S23) (W : World) : Prop :=
  (W.cell? { block := g + 1, off := 0 } = some (.int .i64 b.f0) ∧ W.cell? { block := g + 1, off := 1 } = some (.int .i64 b.f1) ∧ W.cell? { block := g + 1, off := 2 } = some (.int .i64 b.f2)) ∧
  (W.cell? { block := g, off := 0 } = some (.int .i64 0) ∧ W.cell? { block := g, off := 1 } = some (.int .i64 0) ∧ W.cell? { block := g, off := 2 } = some (.int .i64 0)) ∧
  (W.frozen? { block := g + 1, off := 0 } = false ∧ W.frozen? { block := g + 1, off := 1 } = false ∧ W.frozen? { block := g + 1, off := 2 } = false) ∧
  (W.frozen? { block := g, off := 0 } = false ∧ W.frozen? { block := g, off := 1 } = false ∧ W.frozen? { block := g, off := 2 } = false)
theorem MIn.below {g : Nat} {b : S23} {W W' : World} (h : MIn g b W) (hb : Below W.heap.size W W') : MIn g b W' := by
  have b0 := World.block_lt_of_cell? W _ h.2.1.1
  have b1 := World.block_lt_of_cell? W _ h.1.1
  obtain ⟨⟨c0, c1, c2⟩, ⟨d0, d1, d2⟩, ⟨e0, e1, e2⟩, ⟨f0, f1, f2⟩⟩ := h
  exact ⟨⟨pw_cell_below hb c0, pw_cell_below hb c1, pw_cell_below hb c2⟩, ⟨pw_cell_below hb d0, pw_cell_below hb d1, pw_cell_below hb d2⟩,
    ⟨(hb.frozen (p := { block := g + 1, off := 0 }) b1).trans e0, (hb.frozen (p := { block := g + 1, off := 1 }) b1).trans e1, (hb.frozen (p := { block := g + 1, off := 2 }) b1).trans e2⟩,
    ⟨(hb.frozen (p := { block := g, off := 0 }) b0).trans f0, (hb.frozen (p := { block := g, off := 1 }) b0).trans f1, (hb.frozen (p := { block := g, off := 2 }) b0).trans f2⟩⟩
theorem MIn.set {g : Nat} {b x : S23} {W : World} (h : MIn g b W) : MIn g x (((W.setCell { block := g + 1, off := 0 } (.int .i64 x.f0)).setCell { block := g + 1, off := 1 } (.int .i64 x.f1)).setCell { block := g + 1, off := 2 } (.int .i64 x.f2)) := by
  obtain ⟨⟨c0, c1, c2⟩, ⟨d0, d1, d2⟩, ⟨e0, e1, e2⟩, ⟨f0, f1, f2⟩⟩ := h
  have hf : ∀ (q : Addr) (u v : Value) (W : World) (p : Addr), W.cell? q = some u → p ≠ q → (W.setCell p v).cell? q = some u := fun q u v W p hc hn => (World.cell?_setCell_other W p q v hn).trans hc
  have hs : ∀ (q : Addr) (u v : Value) (W : World), W.cell? q = some u → (W.setCell q v).cell? q = some v := fun q u v W hc => World.cell?_setCell_same W q v hc
  refine ⟨⟨?_, ?_, ?_⟩, ⟨?_, ?_, ?_⟩, ?_, ?_⟩
  · exact hf _ _ _ _ _ (hf _ _ _ _ _ (hs _ _ _ _ c0) (by simp)) (by simp)
  · exact hf _ _ _ _ _ (hs _ _ _ _ (hf _ _ _ _ _ c1 (by simp))) (by simp)
  · exact hs _ _ _ _ (hf _ _ _ _ _ (hf _ _ _ _ _ c2 (by simp)) (by simp))
  · exact hf _ _ _ _ _ (hf _ _ _ _ _ (hf _ _ _ _ _ d0 (by simp)) (by simp)) (by simp)
  · exact hf _ _ _ _ _ (hf _ _ _ _ _ (hf _ _ _ _ _ d1 (by simp)) (by simp)) (by simp)
  · exact hf _ _ _ _ _ (hf _ _ _ _ _ (hf _ _ _ _ _ d2 (by simp)) (by simp)) (by simp)
  · simp only [World.frozen?_setCell]; exact ⟨e0, e1, e2⟩
  · simp only [World.frozen?_setCell]; exact ⟨f0, f1, f2⟩
theorem MIn.first (x : S23) (w : World) : MIn w.heap.size x ((w.alloc (.cells #[.int .i64 0, .int .i64 0, .int .i64 0] 23)).alloc (.cells #[.int .i64 x.f0, .int .i64 x.f1, .int .i64 x.f2] 23)) := by
  unfold MIn
  simp [go_sem]
theorem keep6 {W W' : World} {a : Addr} {g : Nat} {x b : S23} (hx : CellsS W a x) (hm : MIn g b W) (hb : Below W.heap.size W W') :
    (W'.cell? a = some (.int .i64 x.f0) ∧ W'.cell? { block := a.block, off := a.off + 1 } = some (.int .i64 x.f1) ∧ W'.cell? { block := a.block, off := a.off + 2 } = some (.int .i64 x.f2)) ∧ (W'.cell? { block := g + 1, off := 0 } = some (.int .i64 b.f0) ∧ W'.cell? { block := g + 1, off := 1 } = some (.int .i64 b.f1) ∧ W'.cell? { block := g + 1, off := 2 } = some (.int .i64 b.f2)) :=
  ⟨hx.below hb, (hm.below hb).1⟩
set_option maxHeartbeats 4000000 in
set_option maxRecDepth 100000 in
theorem maxFunc_calls (A : Option Addr) (n c : Nat) (xs : List S23) (w : World) (hC : Kd.C k23 w A n xs) (hn : xs.length = n) (h0 : 0 < n) (hm : n ≤ 9223372036854775807) :
    Calls Tryz.prog 25 #[.slice A n c, .func (.func 12) #[] #[]] w fun e w' => e = .returned (aggS (bestUpto xs (n - 1))) ∧ Below w.heap.size w w' := by
  obtain ⟨ad, rfl, hP0⟩ := cells_at hC 0 h0
  have HC := Aside0.mk hC
  clear hC
  have hP1 := hP0.below (below_alloc (Below.refl _ w) (.cells #[.int .i64 0, .int .i64 0, .int .i64 0] 23))
  rw [Nat.zero_mul, show ad.add 0 = ad from by simp [Addr.add]] at hP1
  obtain ⟨p0, p1, p2⟩ := hP1
  have hB := fun (x : S23) => below_alloc (below_alloc (Below.refl _ w) (.cells #[.int .i64 0, .int .i64 0, .int .i64 0] 23)) (.cells #[.int .i64 x.f0, .int .i64 x.f1, .int .i64 x.f2] 23)
  go_enter Tryz.func25, Tryz.ntmps25
  go_wp2_with fail
  have HM := MIn.first (rd_T23 xs ((0 : Nat) : Int)) w
  have HB := hB (rd_T23 xs ((0 : Nat) : Int))
  clear hB p0 p1 p2 hP0
  go_loopw [6] (fun v6 wr => ∃ i : Nat, i + 1 ≤ n ∧ v6 = .int .i64 ((i + 1 : Nat) : Int) ∧ Aside0 (MIn w.heap.size (bestUpto xs i) wr) ∧ Aside0 (Below w.heap.size w wr)) (fun v6 _ => n - (intOf v6).toNat)
  case atStart => exact ⟨0, by omega, rfl, ⟨HM⟩, ⟨HB⟩⟩
  case round =>
    clear HM HB
    obtain ⟨i, hi, rfl, HM, HB⟩ := hrel
    by_cases hlt : i + 1 < n
    · have hx := cells_at' (Kd.C_below HC.out HB.out) (i + 1) hlt
      have hs : bestUpto xs (i + 1) = if 0 < cmpS (rd_T23 xs ((i + 1 : Nat) : Int)) (bestUpto xs i) then rd_T23 xs ((i + 1 : Nat) : Int) else bestUpto xs i := rfl
      obtain ⟨b1, hb1⟩ : ∃ b1, bestUpto xs (i + 1) = b1 := ⟨_, rfl⟩
      rw [hb1] at hs
      have HS := Lib.hid hs
      have HBE := Lib.hid hb1
      clear hs hb1
      generalize bestUpto xs i = b at HS HM
      generalize rd_T23 xs ((i + 1 : Nat) : Int) = x at HS hx
      have hk1 : (((i + 1 : Nat) : Int)) < (n : Int) := by omega
      have hk0 : (0 : Int) ≤ ((i + 1 : Nat) : Int) := Int.natCast_nonneg _
      generalize i + 1 = k at *
      have hX := Aside0.mk hx
      obtain ⟨x0, x1, x2⟩ := hx
      obtain ⟨m0, m1, m2⟩ := HM.out.1
      go_wp2_with fail
      go_region_held3 (fun w' => (w'.cell? (ad.add (k * 3)) = some (.int .i64 x.f0) ∧ w'.cell? { block := (ad.add (k * 3)).block, off := (ad.add (k * 3)).off + 1 } = some (.int .i64 x.f1) ∧ w'.cell? { block := (ad.add (k * 3)).block, off := (ad.add (k * 3)).off + 2 } = some (.int .i64 x.f2)) ∧ (w'.cell? { block := w.heap.size + 1, off := 0 } = some (.int .i64 b.f0) ∧ w'.cell? { block := w.heap.size + 1, off := 1 } = some (.int .i64 b.f1) ∧ w'.cell? { block := w.heap.size + 1, off := 2 } = some (.int .i64 b.f2)))
        (first | exact keep6 hX.out HM.out (below_drew (Below.refl _ _)) | exact keep6 hX.out HM.out (below_step (below_drew (Below.refl _ _)) (by assumption)))
        (first | (go_at_call 12; refine (version_Compare.calls x.f0 x.f1 x.f2 b.f0 b.f1 b.f2 (cmpS x b) _ rfl).mono ?_; rintro e w1 ⟨rfl, hb1⟩))
      have hbw : Below wr.heap.size wr w1 := below_step (below_drew (Below.refl _ _)) hb1
      have HBw := Aside0.mk (below_step HB.out hbw)
      have HM1 := Aside0.mk (HM.out.below hbw)
      obtain ⟨y0, y1, y2⟩ := hX.out.below hbw
      obtain ⟨⟨c0, c1, c2⟩, _, ⟨e0, e1, e2⟩, _⟩ := HM1.out
      by_cases hgt : 0 < cmpS x b
      · have HE : b1 = x := by rw [HS.out, if_pos hgt]
        have g1 : decide (0 < cmpS x b) = true := decide_eq_true hgt
        subst HE
        generalize cmpS b1 b = q at *
        go_wp2_with fail
        exact ⟨⟨k, by omega, by go_num, ⟨by rw [HBE.out]; exact HM1.out.set⟩, ⟨((HBw.out.setCell (show w.heap.size ≤ w.heap.size + 1 by omega) _).setCell (show w.heap.size ≤ w.heap.size + 1 by omega) _).setCell (show w.heap.size ≤ w.heap.size + 1 by omega) _⟩⟩, by simp [intOf]; omega⟩
      · have HE : b1 = b := by rw [HS.out, if_neg hgt]
        have g1 : decide (0 < cmpS x b) = false := decide_eq_false hgt
        subst HE
        generalize cmpS x b1 = q at *
        go_wp2_with fail
        exact ⟨⟨k, by omega, by go_num, ⟨by rw [HBE.out]; exact HM1.out⟩, ⟨HBw.out⟩⟩, by simp [intOf]; omega⟩
    · obtain rfl : n = i + 1 := by omega
      obtain ⟨⟨c0, c1, c2⟩, ⟨d0, d1, d2⟩, _, ⟨f0, f1, f2⟩⟩ := HM.out
      obtain ⟨b, hb⟩ : ∃ b, bestUpto xs i = b := ⟨_, rfl⟩
      rw [hb] at c0 c1 c2
      go_wp2_with fail
      refine bodyPost_ret (v := aggS b) (by simp [aggS, results, Tryz.f25, go_sem, d0, d1, d2]) rfl ⟨by rw [show i + 1 - 1 = i from rfl, hb], ((HB.out.setCell (Nat.le_refl _) _).setCell (Nat.le_refl _) _).setCell (Nat.le_refl _) _⟩
theorem zeros_below (w : World) {w1 : World} (hb : Below (w.alloc (.cells #[.int .i64 0, .int .i64 0, .int .i64 0] 23)).heap.size (w.alloc (.cells #[.int .i64 0, .int .i64 0, .int .i64 0] 23)) w1) :
    (w1.cell? { block := w.heap.size, off := 0 } = some (.int .i64 0) ∧ w1.cell? { block := w.heap.size, off := 1 } = some (.int .i64 0) ∧ w1.cell? { block := w.heap.size, off := 2 } = some (.int .i64 0)) ∧ w1.frozen? { block := w.heap.size, off := 0 } = false ∧ w1.frozen? { block := w.heap.size, off := 1 } = false ∧ w1.frozen? { block := w.heap.size, off := 2 } = false := by
  have hl : w.heap.size < (w.alloc (.cells #[.int .i64 0, .int .i64 0, .int .i64 0] 23)).heap.size := by simp
  exact ⟨⟨pw_cell_below hb (by simp [go_sem]), pw_cell_below hb (by simp [go_sem]), pw_cell_below hb (by simp [go_sem])⟩, (hb.frozen (p := { block := w.heap.size, off := 0 }) hl).trans (by simp), (hb.frozen (p := { block := w.heap.size, off := 1 }) hl).trans (by simp), (hb.frozen (p := { block := w.heap.size, off := 2 }) hl).trans (by simp)⟩
/-- the greatest number of a list; nothing of an empty one. -/
def latestS (xs : List S23) : S23 × Bool := if 0 < xs.length then (bestUpto xs (xs.length - 1), true) else (⟨0, 0, 0⟩, false)
def version_Latest.f (a0 : List S23) : Option (Int × Int × Int × Bool) := if a0.length ≤ 9223372036854775807 then some ((latestS a0).1.f0, (latestS a0).1.f1, (latestS a0).1.f2, (latestS a0).2) else none
set_option maxHeartbeats 1000000 in
set_option maxRecDepth 100000 in
theorem version_Latest.calls_n (A0 : Option Addr) (c0 l0 : Nat) (a0 : List S23) (r1 r2 r3 : Int) (r4 : Bool) (w : World) (h : version_Latest.f a0 = some (r1, r2, r3, r4)) (hm : l0 ≤ 9223372036854775807) (hr0 : Kd.C k23 w A0 l0 a0) (hl : a0.length = l0) :
    Calls Tryz.prog 10 #[.slice A0 l0 c0] w fun e w' => e = .returned (.tuple #[.agg #[.int .i64 r1, .int .i64 r2, .int .i64 r3], .bool r4]) ∧ Below w.heap.size w w' := by
  unfold version_Latest.f at h
  rw [if_pos (by omega)] at h
  have h' := Option.some.inj h
  by_cases h0 : 0 < l0
  · have e : latestS a0 = (bestUpto a0 (l0 - 1), true) := by unfold latestS; rw [if_pos (by omega), hl]
    rw [e] at h'
    cases h'
    clear h e
    have n0 : ¬ ((l0 : Int) = 0) := by omega
    have n1 : ((l0 : Int) == 0) = false := by simp; omega
    go_enter Tryz.func10, Tryz.ntmps10
    go_wp2_with (go_at_call 25; refine (maxFunc_calls A0 l0 c0 a0 _ (Kd.C_below hr0 (below_alloc (Below.refl _ _) _)) hl h0 hm).mono ?_; rintro e w1 ⟨rfl, hb1⟩; unfold aggS; have HB1 := Aside0.mk (below_step (below_alloc (Below.refl _ w) _) hb1); have z := zeros_below w hb1; obtain ⟨⟨d0, d1, d2⟩, f0, f1, f2⟩ := z)
    obtain ⟨⟨d0, d1, d2⟩, _⟩ := zeros_below w hb1
    refine bodyPost_ret (v := .tuple #[.agg #[.int .i64 (bestUpto a0 (l0 - 1)).f0, .int .i64 (bestUpto a0 (l0 - 1)).f1, .int .i64 (bestUpto a0 (l0 - 1)).f2], .bool true]) (by simp [results, Tryz.f10, go_sem, d0, d1, d2]) rfl ⟨rfl, ((HB1.out.setCell (Nat.le_refl _) _).setCell (Nat.le_refl _) _).setCell (Nat.le_refl _) _⟩
  · obtain rfl : l0 = 0 := by omega
    have e : latestS a0 = (⟨0, 0, 0⟩, false) := by unfold latestS; rw [if_neg (by omega)]
    rw [e] at h'
    cases h'
    clear h e
    go_enter Tryz.func10, Tryz.ntmps10
    go_wp2_with fail
    refine bodyPost_ret (v := .tuple #[.agg #[.int .i64 0, .int .i64 0, .int .i64 0], .bool false]) (by simp [results, Tryz.f10, go_sem]) rfl ⟨rfl, below_alloc (Below.refl _ _) _⟩
theorem version_Latest.calls (A0 : Option Addr) (c0 : Nat) (a0 : List S23) (r1 r2 r3 : Int) (r4 : Bool) (w : World) (hr : Kd.C k23 w A0 a0.length a0) (_hc : a0.length ≤ c0) (h : version_Latest.f a0 = some (r1, r2, r3, r4)) :
    Calls Tryz.prog 10 #[.slice A0 a0.length c0] w fun e w' => e = .returned (.tuple #[.agg #[.int .i64 r1, .int .i64 r2, .int .i64 r3], .bool r4]) ∧ Below w.heap.size w w' := by
  have hm : a0.length ≤ 9223372036854775807 := by
    rcases Nat.lt_or_ge 9223372036854775807 a0.length with hl | hl
    · unfold version_Latest.f at h
      rw [if_neg (by omega)] at h
      cases h
    · exact hl
  exact version_Latest.calls_n A0 c0 a0.length a0 r1 r2 r3 r4 w h hm hr rfl
end Go.Proofs.YtdccbpeajpnkjaaGreatDoor.Pr
