/- The law VersionLines in plain Lean: version.Line and Path against the reference's; no condition. -/
import Derived.Test.YtdccbpeajpnkjaaGreatDoorPuMjp
import Derived.Test.YtdccbpeajpnkjaaGreatDoorPuDec
import Derived.Test.YtdccbpeajpnkjaaGreatDoorPuNm
import Derived.Test.YtdccbpeajpnkjaaGreatDoorPr13
namespace Go.Proofs.YtdccbpeajpnkjaaGreatDoor.Pr
open Go.RowKit Go.Proofs.YtdccbpeajpnkjaaGreatDoorW.PrintWords Go.Proofs.YtdccbpeajpnkjaaGreatDoorW.PrintLast Go.Proofs.YtdccbpeajpnkjaaGreatDoorW.PrintMore
theorem ref_isPath (s : ByteArray) (hs : s.size ≤ 100000) (k : Nat) (hk : 300 ≤ k) : modcertref03_IsPath.f k s = some ((majorOf s).2 == 0) := by
  unfold modcertref03_IsPath.f
  rw [refMajor_some s hs k hk]; rfl
theorem major_ok {s : ByteArray} : (majorOf s).2 = 0 ↔ majorB s = true := by
  unfold majorOf
  by_cases h : majorB s = true
  · rw [if_pos h]; simp [h]
  · rw [if_neg h]; simp [h]
theorem line_some (s : ByteArray) (hs : s.size ≤ 300) (k : Nat) (hk : 400 ≤ k) : version_Line.f k s = some (if majorB s = true then (s.extract 0 (Lib.lastIndexByte s 47).toNat, (majorOf s).1, 0) else (⟨#[]⟩, 0, 4)) := by
  unfold version_Line.f
  rw [Major_some s (by omega) k (by omega), Option.bind_some, isPath_some s (by omega) k (by omega), Option.bind_some]
  by_cases hm : majorB s = true
  · obtain ⟨pre, x, hx, hma, hse, hli, h64⟩ := major_path hm
    have hle : pre.length ≤ s.size := by rw [hse, ofL_size]; simp
    have hlast : strings_LastIndex.f s ⟨#[47]⟩ = some (pre.length : Int) := by
      unfold strings_LastIndex.f
      rw [dif_pos ⟨rfl, by omega⟩]
      exact congrArg some hli
    rw [hma, if_pos hm, if_pos (by rfl), if_pos rfl, hlast, Option.bind_some, if_pos (by omega), if_pos (by omega), hli]
  · have hma : majorOf s = (0, 4) := by unfold majorOf; rw [if_neg hm]
    rw [hma, if_neg hm]
    simp
theorem ref_line_loop (s : ByteArray) (hs : s.size ≤ 300) (n : Int) (pre L : List UInt8) (hse : s.data.toList = pre ++ 47 :: L) (hL : (47 : UInt8) ∉ L) : ∀ (d k : Nat), d ≤ L.length →
    modcertref24_Line.l0 (d + k + 1) s n ((pre.length + d : Nat) : Int) = some (s.extract 0 pre.length, n, 0)
  | 0, k, _ => by
    have hsz : s.size = pre.length + 1 + L.length := by show s.data.toList.length = _; rw [hse]; simp; omega
    have hb : bt s ((pre.length : Nat) : Int) = 47 := by
      rw [bt_cast s pre.length (by omega)]
      have : s.data.toList[pre.length]'(by rw [hse]; simp) = 47 := by simp [hse]
      rw [this]; rfl
    rw [modcertref24_Line.l0, Nat.add_zero, if_pos (by omega), if_pos (by omega), if_pos hb, if_pos (by omega), Int.toNat_natCast]
  | d + 1, k, hd => by
    have hsz : s.size = pre.length + 1 + L.length := by show s.data.toList.length = _; rw [hse]; simp; omega
    have ih := ref_line_loop s hs n pre L hse hL d k (by omega)
    have hb : bt s ((pre.length + (d + 1) : Nat) : Int) ≠ 47 := by
      rw [bt_cast s (pre.length + (d + 1)) (by omega)]
      have e : s.data.toList[pre.length + (d + 1)]'(by rw [hse]; simp; omega) = L[d]'(by omega) := by
        simp only [hse]
        rw [List.getElem_append_right (by omega)]
        simp only [show pre.length + (d + 1) - pre.length = d + 1 by omega, List.getElem_cons_succ]
      rw [e]
      intro h
      have : L[d]'(by omega) = 47 := UInt8.toNat_inj.1 (by have h47 : (47 : UInt8).toNat = 47 := rfl; omega)
      exact hL (this ▸ List.getElem_mem (by omega))
    rw [show d + 1 + k + 1 = (d + k + 1) + 1 by omega, modcertref24_Line.l0, if_pos (by omega), if_pos (by omega), if_neg hb, show wrap64 (((pre.length + (d + 1) : Nat) : Int) - 1) = ((pre.length + d : Nat) : Int) by unfold wrap64; omega, ih]
theorem ref_line (s : ByteArray) (hs : s.size ≤ 300) (k : Nat) (hk : 400 ≤ k) : modcertref24_Line.f k s = version_Line.f k s := by
  rw [line_some s hs k hk]
  unfold modcertref24_Line.f
  rw [ref_isPath s (by omega) k (by omega), Option.bind_some, refMajor_some s (by omega) k (by omega), Option.bind_some]
  by_cases hm : majorB s = true
  · obtain ⟨pre, x, hx, hma, hse, hli, h64⟩ := major_path hm
    have hl : s.data.toList = pre ++ 47 :: (118 :: digs x) := by rw [hse, ofL_list]
    have hsz : s.size = pre.length + 1 + (118 :: digs x).length := by show s.data.toList.length = _; rw [hl]; simp; omega
    have hL : (47 : UInt8) ∉ 118 :: digs x := by
      have := (digs_clean hx).2
      simp only [List.mem_cons, not_or]
      exact ⟨by decide, this⟩
    have h := ref_line_loop s hs x pre (118 :: digs x) hl hL (118 :: digs x).length (k - (118 :: digs x).length - 1) (Nat.le_refl _)
    have d3 := digs_len (n := x)
    rw [List.length_cons] at h hsz
    rw [show (digs x).length + 1 + (k - ((digs x).length + 1) - 1) + 1 = k by omega] at h
    rw [hma, if_pos hm, if_pos (by rfl), if_pos rfl, hli, show wrap64 ((s.size : Int) - 1) = ((pre.length + ((digs x).length + 1) : Nat) : Int) by unfold wrap64; omega, h, Int.toNat_natCast]
  · have hma : majorOf s = (0, 4) := by unfold majorOf; rw [if_neg hm]
    rw [hma, if_neg hm]
    simp
theorem ref_path (n : ByteArray) (m : Int) (hn : n.size ≤ 300) (k : Nat) (hk : 800 ≤ k) : modcertref24_Path.f (k + 4) n m = version_Path.f (k + 4) n m := by
  have jT : version_Path.j0 (k + 4) n m true = some (⟨#[]⟩, 2) := by rw [show k + 4 = (k + 3) + 1 from rfl, version_Path.j0, if_pos rfl]
  unfold modcertref24_Path.f version_Path.f modcertref24_part.f
  by_cases h0 : m < 0
  · rw [if_neg (show ¬ m ≥ 0 by omega), Option.bind_some, if_pos h0, jT]; rfl
  · rw [if_pos (show m ≥ 0 by omega), Option.bind_some, if_neg h0]
    by_cases h1 : m ≤ 999
    · obtain ⟨x, rfl⟩ : ∃ x : Nat, m = x := ⟨m.toNat, by omega⟩
      have hx : x < 1000 := by omega
      have hl2 : (n ++ (⟨#[47, 118]⟩ : ByteArray)).size = n.size + 2 := by rw [ByteArray.size_append]; rfl
      have hl3 : (numText (x : Int)).size ≤ 3 := by rw [numText_digs hx, arr_size]; exact digs_len.2
      have hs : (n ++ (⟨#[47, 118]⟩ : ByteArray) ++ numText (x : Int)).size ≤ 305 := by rw [ByteArray.size_append]; omega
      have hitoa : strconv_Itoa.f (x : Int) = some (numText (x : Int)) := by unfold strconv_Itoa.f; rw [if_pos (by omega)]
      rw [decide_eq_true h1, if_pos rfl, if_pos (by omega), decimal_digs hx (k + 1), ← numText_digs hx, Option.bind_some, if_pos (by omega), ref_isPath _ (by omega) (k + 4) (by omega), Option.bind_some]
      have hj : version_Path.j0 (k + 4) n (x : Int) false = if ((majorOf (n ++ (⟨#[47, 118]⟩ : ByteArray) ++ numText (x : Int))).2 == 0) = true then some (n ++ (⟨#[47, 118]⟩ : ByteArray) ++ numText (x : Int), 0) else some (⟨#[]⟩, 4) := by
        rw [show k + 4 = (k + 3) + 1 from rfl, version_Path.j0, if_neg (by decide), if_pos (by omega), hitoa, Option.bind_some, if_pos (by omega), isPath_some _ (by omega) (k + 3) (by omega), Option.bind_some]
      rw [decide_eq_false (show ¬ ((x : Int) > 999) by omega), hj]
    · rw [decide_eq_false h1, decide_eq_true (by omega), jT]; rfl
theorem path_some (n : ByteArray) (m : Int) (hn : n.size ≤ 300) (k : Nat) (hk : 800 ≤ k) : ∃ r, version_Path.f (k + 4) n m = some r := by
  have jT : version_Path.j0 (k + 4) n m true = some (⟨#[]⟩, 2) := by rw [show k + 4 = (k + 3) + 1 from rfl, version_Path.j0, if_pos rfl]
  unfold version_Path.f
  by_cases h0 : m < 0
  · rw [if_pos h0, jT]; exact ⟨_, rfl⟩
  · rw [if_neg h0]
    by_cases h1 : m ≤ 999
    · obtain ⟨x, rfl⟩ : ∃ x : Nat, m = x := ⟨m.toNat, by omega⟩
      have hx : x < 1000 := by omega
      have hl2 : (n ++ (⟨#[47, 118]⟩ : ByteArray)).size = n.size + 2 := by rw [ByteArray.size_append]; rfl
      have hl3 : (numText (x : Int)).size ≤ 3 := by rw [numText_digs hx, arr_size]; exact digs_len.2
      have hs : (n ++ (⟨#[47, 118]⟩ : ByteArray) ++ numText (x : Int)).size ≤ 305 := by rw [ByteArray.size_append]; omega
      have hitoa : strconv_Itoa.f (x : Int) = some (numText (x : Int)) := by unfold strconv_Itoa.f; rw [if_pos (by omega)]
      rw [decide_eq_false (show ¬ ((x : Int) > 999) by omega), show k + 4 = (k + 3) + 1 from rfl, version_Path.j0, if_neg (by decide), if_pos (by omega), hitoa, Option.bind_some, if_pos (by omega), isPath_some _ (by omega) (k + 3) (by omega), Option.bind_some]
      split <;> exact ⟨_, rfl⟩
    · rw [decide_eq_true (by omega), jT]; exact ⟨_, rfl⟩
theorem VersionLines (p n : ByteArray) (m : Int) : modcertlaw24_VersionLines.f 2000 p n m = some true := by
  unfold modcertlaw24_VersionLines.f modcertlaw24_awake.f
  rw [Option.bind_some, if_pos rfl]
  by_cases hp : (p.size : Int) > 300
  · rw [if_pos hp, show (2000 : Nat) = 1999 + 1 from rfl, modcertlaw24_VersionLines.j0, if_pos rfl]
  · rw [if_neg hp]
    by_cases hn : (n.size : Int) > 300
    · rw [decide_eq_true hn, show (2000 : Nat) = 1999 + 1 from rfl, modcertlaw24_VersionLines.j0, if_pos rfl]
    · obtain ⟨r, hr⟩ := path_some n m (by omega) 1995 (by omega)
      have hr' : version_Path.f 1999 n m = some r := hr
      have hq : modcertref24_Path.f 1999 n m = some r := (ref_path n m (by omega) 1995 (by omega)).trans hr
      rw [decide_eq_false hn, show (2000 : Nat) = 1999 + 1 from rfl, modcertlaw24_VersionLines.j0, if_neg (by decide), ref_line p (by omega) 1999 (by omega), line_some p (by omega) 1999 (by omega), hr', hq]
      simp
end Go.Proofs.YtdccbpeajpnkjaaGreatDoor.Pr
