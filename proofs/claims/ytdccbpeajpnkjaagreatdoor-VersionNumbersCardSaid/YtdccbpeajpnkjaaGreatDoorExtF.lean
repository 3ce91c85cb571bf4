/- Contract of version.Format, in the form that the printed texts take: the three numbers' numerals with a point between them, where the number is valid, else an error; no condition. -/
import Derived.Lib.Hide
import Derived.Deep.RegionHeld3
import Derived.Test.YtdccbpeajpnkjaaGreatDoorExtI
import Derived.Test.YtdccbpeajpnkjaaGreatDoorExtV
namespace Go.Proofs.YtdccbpeajpnkjaaGreatDoor.Pr
open Go.RowKit Go.Proofs.YtdccbpeajpnkjaaGreatDoorW.PrintWords Go.Proofs.YtdccbpeajpnkjaaGreatDoorW.PrintLast Go.Proofs.YtdccbpeajpnkjaaGreatDoorW.PrintMore
def formatB (a b c : Int) : ByteArray := ⟨(Lib.join [Lib.itoa a, Lib.itoa b, Lib.itoa c] [46]).toArray⟩
def version_Format.f (a0_0 a0_1 a0_2 : Int) : Option (ByteArray × Int) := some (if validB a0_0 a0_1 a0_2 = true then (formatB a0_0 a0_1 a0_2, 0) else (⟨#[]⟩, 2))
/-- the first k numerals. -/
def texts (a b c : Int) (k : Nat) : List ByteArray := (List.range k).map fun j => numText (partAt a b c j)
theorem texts_len (a b c : Int) (k : Nat) : (texts a b c k).length = k := by unfold texts; simp
theorem texts_succ (a b c : Int) (k : Nat) : texts a b c k ++ [numText (partAt a b c k)] = texts a b c (k + 1) := by unfold texts; rw [List.range_succ]; simp
theorem texts_three (a b c : Int) : texts a b c 3 = [numText a, numText b, numText c] := rfl
theorem join_calls {xs : List ByteArray} {sep : ByteArray} {W : World} {base : Nat} {v : Value} {ok : Nat → Prop} (h : Kd.string.R 9 W base ok v xs) (hn : 0 < xs.length) (hN : xs.length ≤ 140737488355328)
    (hlen : (Lib.join (xs.map (·.data.toList)) sep.data.toList).length ≤ 140737488355328) :
    Calls Tryz.prog 40 #[v, .string sep] W fun e w' => e = .returned (.string ⟨(Lib.join (xs.map (·.data.toList)) sep.data.toList).toArray⟩) ∧ Below W.heap.size W w' := by
  have hown := Kd.own_of_R h
  have hlt := Kd.R_lt h
  obtain ⟨hl, h0 | ⟨g, cap, cur, rfl, hb, hh, r⟩⟩ := hown
  · exact absurd h0.2 (by omega)
  · obtain ⟨_, hcap, hC⟩ := Kd.R_reads' h
    have hr := Kd.reads_of_C (d := (⟨#[]⟩ : ByteArray)) hC
    obtain ⟨ad, he, hc⟩ := hr.2.2 hn
    obtain rfl := Option.some.inj he
    refine Tryz.strings_Join g 0 cap xs sep W (fun j x hx => ?_) (hlt g rfl) hN hcap hlen
    have hj : j < xs.length := (List.getElem?_eq_some_iff.1 hx).1
    have := hc j hj
    rw [show xs.getD j ⟨#[]⟩ = x by simp [List.getD, hx]] at this
    by_cases h0 : j = 0
    · subst h0; simpa [Addr.add] using this
    · simpa [Addr.add, h0] using this
theorem join_three (x y z : List UInt8) (s : UInt8) : Lib.join [x, y, z] [s] = x ++ s :: (y ++ s :: z) := by simp [Lib.join, List.intercalate]
theorem part_in (a b c : Int) (k : Nat) (h : validB a b c = true) : 0 ≤ partAt a b c k ∧ partAt a b c k ≤ 999 := by
  unfold validB okPart at h
  simp only [Bool.and_eq_true, decide_eq_true_eq] at h
  unfold partAt
  split <;> omega
set_option maxHeartbeats 4000000 in
set_option maxRecDepth 100000 in
theorem version_Format.calls (a0_0 a0_1 a0_2 : Int) (r1 : ByteArray) (r2 : Int) (w : World) (h : version_Format.f a0_0 a0_1 a0_2 = some (r1, r2)) (hG : Gd w) :
    Calls Tryz.prog 21 #[.agg #[.int .i64 a0_0, .int .i64 a0_1, .int .i64 a0_2]] w fun e w' => e = .returned (.tuple #[.string r1, .int .i64 r2]) ∧ Below w.heap.size w w' := by
  have h' := Option.some.inj h
  by_cases hv : validB a0_0 a0_1 a0_2 = true
  · rw [if_pos hv] at h'
    cases h'
    clear h
    have hp := parts_at a0_0 a0_1 a0_2
    have HG := Aside0.mk hG
    go_enter Tryz.func21, Tryz.ntmps21
    go_wp2_with (first | (go_at_call 22; refine (version_Valid.calls a0_0 a0_1 a0_2 true _ (congrArg some hv)).mono ?_; rintro e w1 ⟨rfl, hb1⟩; have HB1 := Aside0.mk (below_step (below_alloc (Below.refl _ w) (.cells #[.int .i64 a0_0, .int .i64 a0_1, .int .i64 a0_2] 23)) hb1); have c0 := fun (j : Nat) (v : Value) (hc : (w.alloc (.cells #[.int .i64 a0_0, .int .i64 a0_1, .int .i64 a0_2] 23)).cell? ⟨w.heap.size, j, none⟩ = some v) => pw_cell_below hb1 hc; have d0 := c0 0 (.int .i64 a0_0) (by simp [go_sem]); have d1 := c0 1 (.int .i64 a0_1) (by simp [go_sem]); have d2 := c0 2 (.int .i64 a0_2) (by simp [go_sem]); clear c0) | (go_at_call 26; refine (parts_calls _ _ _ _).mono ?_; rintro e w2 ⟨rfl, hb2⟩; have HB2 := Aside0.mk (below_step HB1.out hb2)))
    go_loopw [4, 6, 12] (fun v4 _ v12 wr => ∃ k : Nat, k ≤ 3 ∧ v12 = .int .i64 k ∧ Aside0 (Kd.string.R 9 wr w.heap.size (fun _ => True) v4 (texts a0_0 a0_1 a0_2 k)) ∧ Aside0 (Below w.heap.size w wr)) (fun _ _ v12 _ => 3 - (intOf v12).toNat)
    case atStart => exact ⟨0, by decide, rfl, ⟨Kd.R_nil _ _ _ _ _⟩, HB2⟩
    case round =>
      clear HB1 HB2 d0 d1 d2 hb1 hb2
      obtain ⟨k, hk, rfl, HO, HB⟩ := hrel
      by_cases hlt : k < 3
      · have hix := hp k hlt
        clear hp
        have hk0 : (0 : Int) ≤ (k : Int) := Int.natCast_nonneg _
        have hk1 : (k : Int) < 3 := by omega
        have hin := Aside0.mk (part_in a0_0 a0_1 a0_2 k hv)
        have HT := Aside0.mk (texts_succ a0_0 a0_1 a0_2 k)
        have HL := Aside0.mk (texts_len a0_0 a0_1 a0_2 k)
        generalize partAt a0_0 a0_1 a0_2 k = n at hix hin HT
        generalize texts a0_0 a0_1 a0_2 k = xs at HO HT HL
        have hit : strconv_Itoa.f n = some (numText n) := by
          have := hin.out
          unfold strconv_Itoa.f
          rw [if_pos (by omega)]
        have HI := Aside0.mk hit
        clear hit
        go_wp2_with (first | (go_at_call 33; refine (strconv_Itoa.calls _ _ _ HI.out (Gd.below HG.out HB.out)).mono ?_; rintro e w3 ⟨rfl, hb3⟩; have HB3 := Aside0.mk (below_step HB.out hb3); have HO3 := Aside0.mk (Kd.R_below HO.out hb3)) | (at_builtin; refine Kd.R_append Kd.string (w0 := w) w.heap.size rfl (.tmp 15) (.tmp 18) 55 9 (.string ⟨#[]⟩) 16 rfl Tryz.underlying55 info9 rfl (by decide) (by omega) u4 xs (numText n) [.string (numText n)] (fun _ => True) (fun _ => False) rfl rfl rfl (fun _ hk => hk.elim) (fun _ _ => trivial) HO3.out HB3.out (below_size HB3.out) (by have := HL.out; omega) ?_; intro v4 w4 ho4 hb4 hg4 hat4; clear hg4 hat4))
        exact ⟨⟨k + 1, by omega, by go_num, ⟨by rw [← HT.out]; exact ho4⟩, ⟨hb4⟩⟩, by simp [intOf]; omega⟩
      · obtain rfl : k = 3 := by omega
        have hjc := join_calls (sep := ⟨#[46]⟩) HO.out (by rw [texts_len]; decide) (by rw [texts_len]; decide) (by
          have l0 := Lib.itoa_length_le a0_0 (by have : 0 ≤ a0_0 ∧ a0_0 ≤ 999 := part_in a0_0 a0_1 a0_2 0 hv; omega) (by have : 0 ≤ a0_0 ∧ a0_0 ≤ 999 := part_in a0_0 a0_1 a0_2 0 hv; omega)
          have l1 := Lib.itoa_length_le a0_1 (by have : 0 ≤ a0_1 ∧ a0_1 ≤ 999 := part_in a0_0 a0_1 a0_2 1 hv; omega) (by have : 0 ≤ a0_1 ∧ a0_1 ≤ 999 := part_in a0_0 a0_1 a0_2 1 hv; omega)
          have l2 := Lib.itoa_length_le a0_2 (by have : 0 ≤ a0_2 ∧ a0_2 ≤ 999 := part_in a0_0 a0_1 a0_2 2 hv; omega) (by have : 0 ≤ a0_2 ∧ a0_2 ≤ 999 := part_in a0_0 a0_1 a0_2 2 hv; omega)
          rw [texts_three]
          show (Lib.join [Lib.itoa a0_0, Lib.itoa a0_1, Lib.itoa a0_2] [46]).length ≤ _
          rw [join_three]
          simp; omega)
        rw [texts_three] at hjc
        change Calls _ _ _ _ fun e w' => e = .returned (.string (formatB a0_0 a0_1 a0_2)) ∧ _ at hjc
        clear hp
        go_wp2_with (go_at_call 40; refine hjc.mono ?_; rintro e w3 ⟨rfl, hb3⟩)
        refine bodyPost_ret (v := .tuple #[.string (formatB a0_0 a0_1 a0_2), .int .i64 0]) (by simp [results, Tryz.f21, go_sem]) rfl ⟨rfl, below_step HB.out hb3⟩
  · rw [if_neg hv] at h'
    cases h'
    clear h
    go_enter Tryz.func21, Tryz.ntmps21
    go_wp2_with (go_at_call 22; refine (version_Valid.calls a0_0 a0_1 a0_2 false _ (congrArg some (by simpa using hv))).mono ?_; rintro e w1 ⟨rfl, hb1⟩; have HB1 := Aside0.mk (below_step (below_alloc (Below.refl _ w) (.cells #[.int .i64 a0_0, .int .i64 a0_1, .int .i64 a0_2] 23)) hb1))
    refine bodyPost_ret (v := .tuple #[.string ⟨#[]⟩, .int .i64 2]) (by simp [results, Tryz.f21, go_sem]) rfl ⟨rfl, HB1.out⟩
end Go.Proofs.YtdccbpeajpnkjaaGreatDoor.Pr
