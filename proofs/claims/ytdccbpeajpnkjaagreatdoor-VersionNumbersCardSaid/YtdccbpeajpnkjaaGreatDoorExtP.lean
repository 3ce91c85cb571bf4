/- Contract of version.Parse, in the form that the printed texts take: the number with a text of three numbers of one to three digits without a leading zero, with a point between them, else an error; conditions: where '.f' tells 'some'. -/
import Derived.Lib.Hide
import Derived.Deep.RegionHeld3
import Derived.Lib.SplitLaws
import Derived.Lib.SmallJoins
import Derived.Lib.TrimUEq
import Derived.Test.YtdccbpeajpnkjaaGreatDoorExtA
namespace Go.Proofs.YtdccbpeajpnkjaaGreatDoor.Pr
open Go.RowKit Go.Proofs.YtdccbpeajpnkjaaGreatDoorW.PrintWords Go.Proofs.YtdccbpeajpnkjaaGreatDoorW.PrintLast Go.Proofs.YtdccbpeajpnkjaaGreatDoorW.PrintMore
/-- is this rune no digit? -/
def oddRune (r : Nat) : Bool := decide (r < 48) || decide (57 < r)
set_option maxRecDepth 100000 in
theorem odd_pred (w : World) : PredAtRunes Tryz.prog 38 #[] oddRune w := fun W r _ _ => by
  unfold FnGives
  by_cases h1 : r < 48
  · have z1 : (r : Int) < 48 := by omega
    go_enter Tryz.func38, Tryz.ntmps38
    go_wp2
    all_goals first | (exfalso; omega) | (go_ret; exact ⟨by simp [oddRune, h1], 0, rfl⟩)
  · by_cases h2 : 57 < r
    · have z1 : ¬ (r : Int) < 48 := by omega
      have z2 : 57 < (r : Int) := by omega
      go_enter Tryz.func38, Tryz.ntmps38
      go_wp2
      all_goals first | (exfalso; omega) | (go_ret; exact ⟨by simp [oddRune, h1, h2], 0, rfl⟩)
    · have z1 : ¬ (r : Int) < 48 := by omega
      have z2 : ¬ 57 < (r : Int) := by omega
      go_enter Tryz.func38, Tryz.ntmps38
      go_wp2
      all_goals first | (exfalso; omega) | (go_ret; exact ⟨by simp [oddRune, h1, h2], 0, rfl⟩)
/-- is this text no number of one to three digits without a leading zero? -/
def oddText (s : ByteArray) : Bool := decide (0 ≤ Lib.idxFunc oddRune true s)
theorem odd_calls (s : ByteArray) (w : World) : Calls Tryz.prog 37 #[.string s, .func (.func 38) #[] #[]] w fun e w' => e = .returned (.bool (oddText s)) ∧ Below w.heap.size w w' :=
  Tryz.strings_ContainsFunc_runes 38 #[] (enters_of Tryz.func38 (by kernel_rfl) rfl) oddRune s w (odd_pred w)
def wordOk (x : ByteArray) : Bool := decide (1 ≤ x.size) && (decide (x.size ≤ 3) && (!oddText x && !(decide (1 < x.size) && x.data[0]! == 48)))
def numOf (x : ByteArray) : Int := (Lib.atoi x.data.toList).getD 0
def wAt (x y z : ByteArray) (k : Nat) : ByteArray := match k with | 0 => x | 1 => y | _ => z
/-- the parts of a text between its points. -/
def dots (s : ByteArray) : List ByteArray := Lib.splitB ⟨#[46]⟩ 0 (Lib.countB s ⟨#[46]⟩) s
def parse3 : List ByteArray → Int × Int × Int × Int
  | [x, y, z] => if (wordOk x && (wordOk y && wordOk z)) = true then (numOf x, numOf y, numOf z, 0) else (0, 0, 0, 3)
  | _ => (0, 0, 0, 3)
def version_Parse.f (a0 : ByteArray) : Option (Int × Int × Int × Int) := if a0.size < 4294967281 then some (parse3 (dots a0)) else none
theorem parse3_other {l : List ByteArray} (h : l.length ≠ 3) : parse3 l = (0, 0, 0, 3) := by
  unfold parse3
  split
  · simp at h
  · rfl
theorem parse3_bad {x y z : ByteArray} {k : Nat} (hk : k < 3) (h : wordOk (wAt x y z k) = false) : parse3 [x, y, z] = (0, 0, 0, 3) := by
  unfold parse3
  refine if_neg ?_
  match k, hk with
  | 0, _ => simp [show wordOk x = false from h]
  | 1, _ => simp [show wordOk y = false from h]
  | 2, _ => simp [show wordOk z = false from h]
theorem parse3_good {x y z : ByteArray} (h : ∀ j, j < 3 → wordOk (wAt x y z j) = true) : parse3 [x, y, z] = (numOf x, numOf y, numOf z, 0) := by
  unfold parse3
  refine if_pos ?_
  rw [show wordOk x = true from h 0 (by decide), show wordOk y = true from h 1 (by decide), show wordOk z = true from h 2 (by decide)]
  rfl
theorem three_of_length {l : List ByteArray} (h : l.length = 3) : ∃ x y z, l = [x, y, z] := by
  match l, h with
  | [x, y, z], _ => exact ⟨x, y, z, rfl⟩
/-- the frozen facts that the stores of Parse want. -/
def Thawed (g : Nat) (W : World) : Prop :=
  (W.frozen? { block := g, off := 0 } = false ∧ W.frozen? { block := g, off := 1 } = false ∧ W.frozen? { block := g, off := 2 } = false) ∧ (∀ j : Nat, j < 3 → W.frozen? { block := g + 1 + 1, off := j } = false)
/-- what the blocks hold in round k: the result's three zeros, the three words, the numbers that are found so far. -/
def PIn (x y z : ByteArray) (g k : Nat) (W : World) : Prop :=
  (W.cell? { block := g, off := 0 } = some (.int .i64 0) ∧ W.cell? { block := g, off := 1 } = some (.int .i64 0) ∧ W.cell? { block := g, off := 2 } = some (.int .i64 0)) ∧
  (∀ j : Nat, j < 3 → W.cell? { block := g + 1, off := j } = some (.string (wAt x y z j))) ∧
  (∀ j : Nat, j < 3 → W.cell? { block := g + 1 + 1, off := j } = some (.int .i64 (if j < k then numOf (wAt x y z j) else 0))) ∧ Thawed g W
theorem PIn.below {x y z : ByteArray} {g k : Nat} {W W' : World} (h : PIn x y z g k W) (hb : Below W.heap.size W W') : PIn x y z g k W' := by
  have b0 := World.block_lt_of_cell? W _ h.1.1
  have b2 := World.block_lt_of_cell? W _ (h.2.2.1 0 (by decide))
  exact ⟨⟨pw_cell_below hb h.1.1, pw_cell_below hb h.1.2.1, pw_cell_below hb h.1.2.2⟩, fun j hj => pw_cell_below hb (h.2.1 j hj), fun j hj => pw_cell_below hb (h.2.2.1 j hj),
    ⟨⟨(hb.frozen (p := { block := g, off := 0 }) b0).trans h.2.2.2.1.1, (hb.frozen (p := { block := g, off := 1 }) b0).trans h.2.2.2.1.2.1, (hb.frozen (p := { block := g, off := 2 }) b0).trans h.2.2.2.1.2.2⟩, fun j hj => (hb.frozen (p := { block := g + 1 + 1, off := j }) b2).trans (h.2.2.2.2 j hj)⟩⟩
theorem PIn.first (x y z : ByteArray) (w : World) : PIn x y z w.heap.size 0 (((w.alloc (.cells #[.int .i64 0, .int .i64 0, .int .i64 0] 23)).alloc (.cells ([x, y, z].map Value.string).toArray 9)).alloc (.cells #[.int .i64 0, .int .i64 0, .int .i64 0] 47)) := by
  refine ⟨⟨by simp [go_sem], by simp [go_sem], by simp [go_sem]⟩, ?_, ?_, ⟨by simp [go_sem], by simp [go_sem], by simp [go_sem]⟩, ?_⟩
  · intro j hj; match j, hj with | 0, _ => simp [wAt, go_sem] | 1, _ => simp [wAt, go_sem] | 2, _ => simp [wAt, go_sem]
  · intro j hj; match j, hj with | 0, _ => simp [go_sem] | 1, _ => simp [go_sem] | 2, _ => simp [go_sem]
  · intro j hj; simp [go_sem]
theorem PIn.set {x y z : ByteArray} {g k : Nat} {W : World} (h : PIn x y z g k W) (hk : k < 3) : PIn x y z g (k + 1) (W.setCell { block := g + 1 + 1, off := k } (.int .i64 (numOf (wAt x y z k)))) := by
  have ho : ∀ (a : Addr) (v : Value), a.block ≠ g + 1 + 1 → W.cell? a = some v → (W.setCell { block := g + 1 + 1, off := k } (.int .i64 (numOf (wAt x y z k)))).cell? a = some v := fun a v hne hv => by
    rw [World.cell?_setCell_far _ _ _ _ (fun e => hne e.symm)]; exact hv
  refine ⟨⟨ho _ _ (by simp; omega) h.1.1, ho _ _ (by simp; omega) h.1.2.1, ho _ _ (by simp; omega) h.1.2.2⟩, fun j hj => ho _ _ (by simp) (h.2.1 j hj), fun j hj => ?_, ?_⟩
  · by_cases hjk : j = k
    · subst hjk
      rw [if_pos (by omega)]
      exact World.cell?_setCell_same _ _ _ (h.2.2.1 j hj)
    · rw [World.cell?_setCell_other (h := fun e => hjk (by injection e with _ e2; exact e2.symm)), h.2.2.1 j hj]
      by_cases h1 : j < k
      · rw [if_pos h1, if_pos (by omega)]
      · rw [if_neg h1, if_neg (by omega)]
  · have hf := h.2.2.2
    unfold Thawed at hf ⊢
    simp only [World.frozen?_setCell]
    exact hf
theorem toList_nil_size {q : ByteArray} (h : q.toList = []) : q.size = 0 := by
  rw [Lib.toList_data] at h
  have := congrArg List.length h
  simpa using this
theorem eq_empty {q : ByteArray} (h : q.size = 0) : q = ⟨#[]⟩ := by
  obtain ⟨d⟩ := q
  have : d = #[] := Array.eq_empty_of_size_eq_zero h
  rw [this]
theorem first_is {q : ByteArray} (h : 0 < q.size) : q.data[0]! = q[0]'h := by
  show q.data[0]! = q.data[0]'h
  exact getElem!_pos q.data 0 h
theorem digit_of_decode (n b0 b1 b2 b3 : Nat) (h : oddRune (Lib.decodeN n b0 b1 b2 b3).1 = false) : 48 ≤ b0 ∧ b0 ≤ 57 ∧ (Lib.decodeN n b0 b1 b2 b3).2 = 1 := by
  by_cases ha : b0 < 128
  · rw [Lib.decodeN_ascii n b0 b1 b2 b3 ha] at h ⊢
    unfold oddRune at h
    simp at h
    exact ⟨h.1, h.2, rfl⟩
  · exfalso
    unfold oddRune Lib.decodeN at h
    rw [if_neg ha] at h
    simp at h
    repeat' split at h
    all_goals (dsimp only at h; omega)
theorem odd_from (s : ByteArray) : ∀ (f pos : Nat), Lib.idxFuncFrom oddRune true s f pos = -1 → s.size ≤ pos + f → ∀ i, pos ≤ i → i < s.size → 48 ≤ (s.get! i).toNat ∧ (s.get! i).toNat ≤ 57
  | 0, pos, _, hsz, i, h1, h2 => by omega
  | f + 1, pos, h, hsz, i, h1, h2 => by
    have hps : pos < s.size := by omega
    unfold Lib.idxFuncFrom at h
    rw [if_pos hps] at h
    by_cases hp : oddRune (Utf8.decode s pos).1 = true
    · rw [if_pos hp] at h; omega
    · rw [if_neg hp] at h
      have hd := digit_of_decode _ _ _ _ _ (by rw [← Lib.decode_at s pos]; simpa using hp)
      rw [← Lib.decode_at s pos] at hd
      rw [hd.2.2] at h
      by_cases he : i = pos
      · subst he; exact ⟨hd.1, hd.2.1⟩
      · exact odd_from s f (pos + 1) h (by omega) i (by omega) h2
theorem word_digits {q : ByteArray} (h : oddText q = false) : ∀ i, i < q.size → 48 ≤ (q.get! i).toNat ∧ (q.get! i).toNat ≤ 57 := fun i hi => by
  unfold oddText at h
  have h1 : Lib.idxFunc oddRune true q = -1 := by
    rcases Lib.idxFunc_range oddRune true q with e | e
    · exact e
    · simp at h; omega
  exact odd_from q q.size 0 h1 (by omega) i (Nat.zero_le _) hi
theorem dec_all : ∀ (l : List UInt8) (acc : Nat), (∀ b ∈ l, 48 ≤ b.toNat ∧ b.toNat ≤ 57) → ∃ n, Lib.decFrom acc l = some n
  | [], acc, _ => ⟨acc, rfl⟩
  | b :: r, acc, h => by
    have hb := h b (by simp)
    unfold Lib.decFrom Lib.digitVal
    rw [if_pos hb]
    exact dec_all r _ fun c hc => h c (by simp [hc])
theorem mem_digit {q : ByteArray} (h : oddText q = false) : ∀ b ∈ q.data.toList, 48 ≤ b.toNat ∧ b.toNat ≤ 57 := fun b hb => by
  obtain ⟨i, hi, rfl⟩ := List.mem_iff_getElem.1 hb
  have hi' : i < q.size := by simpa using hi
  have := word_digits h i hi'
  rw [show q.get! i = q.data.toList[i] from by
    show q.data[i]! = _
    rw [getElem!_pos q.data i hi', Array.getElem_toList]] at this
  exact this
theorem atoi_some {q : ByteArray} (h : wordOk q = true) : Lib.atoi q.data.toList = some (numOf q) := by
  unfold wordOk at h
  simp only [Bool.and_eq_true, decide_eq_true_eq, Bool.not_eq_true'] at h
  have hd := mem_digit h.2.2.1
  have hl : 1 ≤ q.data.toList.length := by simpa using h.1
  unfold numOf
  match hq : q.data.toList, hd, hl with
  | b :: r, hd, _ =>
    have hb := hd b (by simp)
    have e1 : (b == 45) = false := by
      refine beq_eq_false_iff_ne.2 fun e => ?_
      subst e; exact absurd hb.1 (by decide)
    have e2 : (b == 43) = false := by
      refine beq_eq_false_iff_ne.2 fun e => ?_
      subst e; exact absurd hb.1 (by decide)
    obtain ⟨n, hn⟩ := dec_all (b :: r) 0 hd
    unfold Lib.atoi
    simp [e1, e2, Lib.decNat, hn]
theorem atoi_calls {q : ByteArray} (h : wordOk q = true) (W : World) : Calls Tryz.prog 39 #[.string q] W fun e w' => e = .returned (.tuple #[.int .i64 (numOf q), .nilIface]) ∧ Below W.heap.size W w' := by
  have hl : q.size ≤ 18 := by
    unfold wordOk at h
    simp only [Bool.and_eq_true, decide_eq_true_eq] at h
    omega
  refine (Tryz.strconv_Atoi q (numOf q) hl (atoi_some h) W).mono ?_
  rintro e w' ⟨rfl, t, rfl⟩
  exact ⟨rfl, Joins.below_bytesWorld _ W _ t (Nat.le_refl _)⟩
set_option maxHeartbeats 4000000 in
set_option maxRecDepth 100000 in
theorem version_Parse.calls (a0 : ByteArray) (r1 r2 r3 r4 : Int) (w : World) (h : version_Parse.f a0 = some (r1, r2, r3, r4)) (hG : Gd w) :
    Calls Tryz.prog 20 #[.string a0] w fun e w' => e = .returned (.tuple #[.agg #[.int .i64 r1, .int .i64 r2, .int .i64 r3], .int .i64 r4]) ∧ Below w.heap.size w w' := by
  unfold version_Parse.f at h
  split at h
  · rename_i hs
    have h' := Option.some.inj h
    obtain ⟨m, hm⟩ := hG.len
    have hcb := Lib.countB_le ⟨#[46]⟩ (by decide) a0.size a0 (Nat.le_refl _)
    have hl : (dots a0).length = Lib.countB a0 ⟨#[46]⟩ + 1 := Lib.splitB_all ⟨#[46]⟩ (by decide) 0 _ a0 rfl
    have cS := fun W hW => Tryz.strings_Split a0 ⟨#[46]⟩ m W hs hW (by decide)
    change (∀ W hW, Calls Tryz.prog _ _ W fun e w' => _ ∧ w' = W.alloc (.cells ((dots a0).map Value.string).toArray 9)) at cS
    generalize Lib.countB a0 ⟨#[46]⟩ = c at hl cS hcb
    generalize dots a0 = l at h' hl cS
    have H := Lib.hid h'
    clear h h' hG
    by_cases h3 : c = 2
    · subst h3
      obtain ⟨x, y, z, rfl⟩ := three_of_length hl
      clear hl hcb
      go_enter Tryz.func20, Tryz.ntmps20
      go_wp2_with (go_at_call 36; refine (cS _ (pw_cell_below (below_alloc (Below.refl _ _) _) hm)).mono ?_; rintro e w1 ⟨rfl, rfl⟩)
      have HPI : PIn x y z w.heap.size 0 (((w.alloc (.cells #[.int .i64 0, .int .i64 0, .int .i64 0] 23)).alloc (.cells ([x, y, z].map Value.string).toArray 9)).alloc (.cells #[.int .i64 0, .int .i64 0, .int .i64 0] 47)) := PIn.first x y z w
      have HB0 : Below w.heap.size w (((w.alloc (.cells #[.int .i64 0, .int .i64 0, .int .i64 0] 23)).alloc (.cells ([x, y, z].map Value.string).toArray 9)).alloc (.cells #[.int .i64 0, .int .i64 0, .int .i64 0] 47)) := below_alloc (below_alloc (below_alloc (Below.refl _ _) _) _) _
      go_loopw [6, 7, 8, 17] (fun _ _ _ v17 wr => ∃ k : Nat, k ≤ 3 ∧ v17 = .int .i64 k ∧ Aside0 (∀ j, j < k → wordOk (wAt x y z j) = true) ∧ Aside0 (PIn x y z w.heap.size k wr) ∧ Aside0 (Below w.heap.size w wr)) (fun _ _ _ v17 _ => 3 - (intOf v17).toNat)
      case atStart => exact ⟨0, by decide, rfl, ⟨fun j hj => absurd hj (Nat.not_lt_zero j)⟩, ⟨HPI⟩, ⟨HB0⟩⟩
      case round =>
        clear HPI HB0 cS hm
        obtain ⟨k, hk, rfl, HA, HP, HB⟩ := hrel
        by_cases hlt : k < 3
        · have hk0 : (0 : Int) ≤ (k : Int) := Int.natCast_nonneg _
          have hk1 : (k : Int) < 3 := by omega
          have hx := HP.out.2.1 k hlt
          have HX := Aside0.mk (fun (hb : wordOk (wAt x y z k) = false) => parse3_bad hlt hb)
          have HN := Aside0.mk (fun (hb : wordOk (wAt x y z k) = true) j (hj : j < k + 1) => (Nat.lt_succ_iff_lt_or_eq.1 hj).elim (HA.out j) (fun e => e ▸ hb))
          have HS := Aside0.mk (fun (W : World) (hb : Below wr.heap.size wr W) => (HP.out.below hb).set hlt)
          generalize wAt x y z k = q at hx HX HN HS
          by_cases z0 : q.size = 0
          · have z0i : (q.size : Int) = 0 := by omega
            have hq : q = ⟨#[]⟩ := eq_empty z0
            have hh := (HX.out (by unfold wordOk; rw [decide_eq_false (by omega)]; rfl)).symm.trans H.out
            cases hh
            go_wp2_with (go_at_call 37; refine (odd_calls _ _).mono ?_; rintro e w1 ⟨rfl, hb1⟩; have hP1 := HP.out.below hb1; have hB1 := Aside0.mk (below_step HB.out hb1); have c0 := hP1.1.1; have c1 := hP1.1.2.1; have c2 := hP1.1.2.2; have f0 := hP1.2.2.2.1.1; have f1 := hP1.2.2.2.1.2.1; have f2 := hP1.2.2.2.1.2.2; have hW1 := Aside0.mk hP1; clear hP1)
            refine bodyPost_ret (v := .tuple #[.agg #[.int .i64 0, .int .i64 0, .int .i64 0], .int .i64 3]) (by simp [results, Tryz.f20, go_sem, c0, c1, c2]) rfl ⟨rfl, ((hB1.out.setCell (Nat.le_refl _) _).setCell (Nat.le_refl _) _).setCell (Nat.le_refl _) _⟩
          · have hq : ¬ q.toList = [] := fun e => z0 (toList_nil_size e)
            by_cases z1 : 3 < q.size
            · have z1i : (3 : Int) < (q.size : Int) := by omega
              have hh := (HX.out (by unfold wordOk; rw [decide_eq_false (show ¬ q.size ≤ 3 by omega)]; simp)).symm.trans H.out
              cases hh
              go_wp2_with (go_at_call 37; refine (odd_calls _ _).mono ?_; rintro e w1 ⟨rfl, hb1⟩; have hP1 := HP.out.below hb1; have hB1 := Aside0.mk (below_step HB.out hb1); have c0 := hP1.1.1; have c1 := hP1.1.2.1; have c2 := hP1.1.2.2; have f0 := hP1.2.2.2.1.1; have f1 := hP1.2.2.2.1.2.1; have f2 := hP1.2.2.2.1.2.2; have hW1 := Aside0.mk hP1; clear hP1)
              refine bodyPost_ret (v := .tuple #[.agg #[.int .i64 0, .int .i64 0, .int .i64 0], .int .i64 3]) (by simp [results, Tryz.f20, go_sem, c0, c1, c2]) rfl ⟨rfl, ((hB1.out.setCell (Nat.le_refl _) _).setCell (Nat.le_refl _) _).setCell (Nat.le_refl _) _⟩
            · have z1i : ¬ (3 : Int) < (q.size : Int) := by omega
              by_cases z2 : oddText q = true
              · skip
                have hh := (HX.out (by unfold wordOk; rw [z2]; simp)).symm.trans H.out
                cases hh
                go_wp2_with (go_at_call 37; refine (odd_calls _ _).mono ?_; rintro e w1 ⟨rfl, hb1⟩; have hP1 := HP.out.below hb1; have hB1 := Aside0.mk (below_step HB.out hb1); have c0 := hP1.1.1; have c1 := hP1.1.2.1; have c2 := hP1.1.2.2; have f0 := hP1.2.2.2.1.1; have f1 := hP1.2.2.2.1.2.1; have f2 := hP1.2.2.2.1.2.2; have hW1 := Aside0.mk hP1; clear hP1)
                refine bodyPost_ret (v := .tuple #[.agg #[.int .i64 0, .int .i64 0, .int .i64 0], .int .i64 3]) (by simp [results, Tryz.f20, go_sem, c0, c1, c2]) rfl ⟨rfl, ((hB1.out.setCell (Nat.le_refl _) _).setCell (Nat.le_refl _) _).setCell (Nat.le_refl _) _⟩
              · have z2f : oddText q = false := by simpa using z2
                by_cases z3 : 1 < q.size ∧ q.data[0]! = 48
                · have z3i : (1 : Int) < (q.size : Int) := by omega
                  have z5 : 0 < q.size := by omega
                  have z6 : (((q[0]'z5).toNat : Int) == 48) = true := by rw [← first_is z5, z3.2]; rfl
                  have hh := (HX.out (by unfold wordOk; rw [decide_eq_true z3.1, z3.2]; simp)).symm.trans H.out
                  cases hh
                  go_wp2_with (go_at_call 37; refine (odd_calls _ _).mono ?_; rintro e w1 ⟨rfl, hb1⟩; have hP1 := HP.out.below hb1; have hB1 := Aside0.mk (below_step HB.out hb1); have c0 := hP1.1.1; have c1 := hP1.1.2.1; have c2 := hP1.1.2.2; have f0 := hP1.2.2.2.1.1; have f1 := hP1.2.2.2.1.2.1; have f2 := hP1.2.2.2.1.2.2; have hW1 := Aside0.mk hP1; clear hP1)
                  refine bodyPost_ret (v := .tuple #[.agg #[.int .i64 0, .int .i64 0, .int .i64 0], .int .i64 3]) (by simp [results, Tryz.f20, go_sem, c0, c1, c2]) rfl ⟨rfl, ((hB1.out.setCell (Nat.le_refl _) _).setCell (Nat.le_refl _) _).setCell (Nat.le_refl _) _⟩
                · have z5 : 0 < q.size := by omega
                  have zE : q.toList.isEmpty = false := Bool.eq_false_iff.2 (fun e => hq (List.isEmpty_iff.1 e))
                  have zD : decide ((3 : Int) < (q.size : Int)) = false := decide_eq_false z1i
                  have hok : wordOk q = true := by
                    unfold wordOk
                    rw [decide_eq_true (show 1 ≤ q.size by omega), decide_eq_true (show q.size ≤ 3 by omega), z2f]
                    by_cases a1 : 1 < q.size
                    · rw [decide_eq_true a1]; simpa using fun e => z3 ⟨a1, e⟩
                    · rw [decide_eq_false a1]; rfl
                  have HOK := Aside0.mk hok
                  have HN1 := Aside0.mk (HN.out hok)
                  clear hok HX HN
                  by_cases a1 : 1 < q.size
                  · have z3i : (1 : Int) < (q.size : Int) := by omega
                    have z6 : (((q[0]'z5).toNat : Int) == 48) = false := by
                      have a2 : ¬ q.data[0]! = 48 := fun e => z3 ⟨a1, e⟩
                      rw [← first_is z5]
                      have a3 : q.data[0]!.toNat ≠ 48 := fun e => a2 (UInt8.toNat_inj.1 e)
                      simp; omega
                    clear z3
                    go_wp2_with (first | (go_at_call 37; refine (odd_calls _ _).mono ?_; rintro e w1 ⟨rfl, hb1⟩; have hP1 := HP.out.below hb1; have hB1 := Aside0.mk (below_step HB.out hb1); have c0 := hP1.1.1; have c1 := hP1.1.2.1; have c2 := hP1.1.2.2; have f0 := hP1.2.2.2.1.1; have f1 := hP1.2.2.2.1.2.1; have f2 := hP1.2.2.2.1.2.2; have hW1 := Aside0.mk hP1; clear hP1) | (go_at_call 39; refine (atoi_calls HOK.out _).mono ?_; rintro e w2 ⟨rfl, hb2⟩; have hP2 := hW1.out.below hb2; have hB2 := Aside0.mk (below_step hB1.out hb2); have o := hP2.2.2.1 k hlt; have f := hP2.2.2.2.2 k hlt; clear hP2))
                    exact ⟨⟨k + 1, by omega, by go_num, HN1, ⟨HS.out _ (below_step hb1 hb2)⟩, ⟨hB2.out.setCell (show w.heap.size ≤ w.heap.size + 1 + 1 by omega) _⟩⟩, by simp [intOf]; omega⟩
                  · have z3i : ¬ (1 : Int) < (q.size : Int) := by omega
                    clear z3
                    go_wp2_with (first | (go_at_call 37; refine (odd_calls _ _).mono ?_; rintro e w1 ⟨rfl, hb1⟩; have hP1 := HP.out.below hb1; have hB1 := Aside0.mk (below_step HB.out hb1); have c0 := hP1.1.1; have c1 := hP1.1.2.1; have c2 := hP1.1.2.2; have f0 := hP1.2.2.2.1.1; have f1 := hP1.2.2.2.1.2.1; have f2 := hP1.2.2.2.1.2.2; have hW1 := Aside0.mk hP1; clear hP1) | (go_at_call 39; refine (atoi_calls HOK.out _).mono ?_; rintro e w2 ⟨rfl, hb2⟩; have hP2 := hW1.out.below hb2; have hB2 := Aside0.mk (below_step hB1.out hb2); have o := hP2.2.2.1 k hlt; have f := hP2.2.2.2.2 k hlt; clear hP2))
                    exact ⟨⟨k + 1, by omega, by go_num, HN1, ⟨HS.out _ (below_step hb1 hb2)⟩, ⟨hB2.out.setCell (show w.heap.size ≤ w.heap.size + 1 + 1 by omega) _⟩⟩, by simp [intOf]; omega⟩
        · obtain rfl : k = 3 := by omega
          have hh := (parse3_good HA.out).symm.trans H.out
          cases hh
          have c0 := HP.out.1.1; have c1 := HP.out.1.2.1; have c2 := HP.out.1.2.2; have f0 := HP.out.2.2.2.1.1; have f1 := HP.out.2.2.2.1.2.1; have f2 := HP.out.2.2.2.1.2.2
          have o0 : wr.cell? { block := w.heap.size + 1 + 1, off := 0 } = some (.int .i64 (numOf x)) := HP.out.2.2.1 0 (by decide)
          have o1 : wr.cell? { block := w.heap.size + 1 + 1, off := 1 } = some (.int .i64 (numOf y)) := HP.out.2.2.1 1 (by decide)
          have o2 : wr.cell? { block := w.heap.size + 1 + 1, off := 2 } = some (.int .i64 (numOf z)) := HP.out.2.2.1 2 (by decide)
          go_wp2_with fail
          refine bodyPost_ret (v := .tuple #[.agg #[.int .i64 (numOf x), .int .i64 (numOf y), .int .i64 (numOf z)], .int .i64 0]) (by simp [results, Tryz.f20, go_sem, c0, c1, c2]) rfl ⟨rfl, ((HB.out.setCell (Nat.le_refl _) _).setCell (Nat.le_refl _) _).setCell (Nat.le_refl _) _⟩
    · have h3' : ¬ ((c : Int) + 1 = 3) := by omega
      have H1 := Aside0.mk (parse3_other (l := l) (by omega))
      go_enter Tryz.func20, Tryz.ntmps20
      go_wp2_with (go_at_call 36; refine (cS _ (pw_cell_below (below_alloc (Below.refl _ _) _) hm)).mono ?_; rintro e w1 ⟨rfl, rfl⟩)
      have h4 : ((c : Int) + 1 != 3) = true := by simp; omega
      rw [H1.out] at H
      cases H.out
      refine bodyPost_ret (v := .tuple #[.agg #[.int .i64 0, .int .i64 0, .int .i64 0], .int .i64 3]) (by simp [results, Tryz.f20, go_sem]) rfl ⟨rfl, below_alloc (below_alloc (Below.refl _ _) _) _⟩
  · cases h
end Go.Proofs.YtdccbpeajpnkjaaGreatDoor.Pr
