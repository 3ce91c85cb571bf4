/- A path that has a major version, told of its bytes: a name, /v and the numeral; no condition. -/
import Derived.Test.YtdccbpeajpnkjaaGreatDoorPuDig
import Derived.Test.YtdccbpeajpnkjaaGreatDoorPuMaj
namespace Go.Proofs.YtdccbpeajpnkjaaGreatDoor.Pr
open Go.RowKit Go.Proofs.YtdccbpeajpnkjaaGreatDoorW.PrintWords Go.Proofs.YtdccbpeajpnkjaaGreatDoorW.PrintLast Go.Proofs.YtdccbpeajpnkjaaGreatDoorW.PrintMore
/-- parts put together with a byte between them. -/
def joinL (c : UInt8) : List (List UInt8) → List UInt8
  | [] => []
  | [a] => a
  | a :: b :: t => a ++ c :: joinL c (b :: t)
theorem joinL_cons (c : UInt8) (a : List UInt8) {t : List (List UInt8)} (h : t ≠ []) : joinL c (a :: t) = a ++ c :: joinL c t := by
  cases t with
  | nil => exact absurd rfl h
  | cons b t => rfl
theorem joinL_head (c x : UInt8) {t : List (List UInt8)} (h : t ≠ []) : joinL c (consHead x t) = x :: joinL c t := by
  cases t with
  | nil => exact absurd rfl h
  | cons a t => cases t <;> rfl
theorem join_split (c : UInt8) : ∀ l : List UInt8, joinL c (splitL c l) = l
  | [] => rfl
  | x :: l => by
    unfold splitL
    by_cases hx : x = c
    · rw [if_pos hx, joinL_cons c [] (splitL_ne c l), join_split c l, hx]; rfl
    · rw [if_neg hx, joinL_head c x (splitL_ne c l), join_split c l]
theorem split_clean (c : UInt8) : ∀ l : List UInt8, ∀ x ∈ splitL c l, c ∉ x
  | [], x, h => by simp [splitL] at h; subst h; simp
  | y :: l, x, h => by
    have ih := split_clean c l
    unfold splitL at h
    by_cases hy : y = c
    · rw [if_pos hy] at h
      rcases List.mem_cons.1 h with rfl | h
      · simp
      · exact ih x h
    · rw [if_neg hy] at h
      cases hs : splitL c l with
      | nil => exact absurd hs (splitL_ne c l)
      | cons a t =>
        rw [hs] at h ih
        rcases List.mem_cons.1 h with rfl | h
        · have := ih a (List.mem_cons_self ..)
          simp only [List.mem_cons, not_or]
          exact ⟨fun e => hy e.symm, this⟩
        · exact ih x (List.mem_cons_of_mem _ h)
theorem split_one (c : UInt8) : ∀ a : List UInt8, c ∉ a → splitL c a = [a]
  | [], _ => rfl
  | x :: a, h => by
    rw [List.mem_cons, not_or] at h
    unfold splitL
    rw [if_neg (fun e => h.1 e.symm), split_one c a h.2]; rfl
theorem split_app (c : UInt8) (l : List UInt8) : ∀ a : List UInt8, c ∉ a → splitL c (a ++ c :: l) = a :: splitL c l
  | [], _ => by show splitL c (c :: l) = _; rw [splitL, if_pos rfl]
  | x :: a, h => by
    rw [List.mem_cons, not_or] at h
    show splitL c (x :: (a ++ c :: l)) = _
    rw [splitL, if_neg (fun e => h.1 e.symm), split_app c l a h.2]; rfl
theorem joinL_last (c : UInt8) (L : List UInt8) : ∀ I : List (List UInt8), I ≠ [] → ∃ pre, joinL c (I ++ [L]) = pre ++ c :: L
  | [], h => absurd rfl h
  | [a], _ => ⟨a, rfl⟩
  | a :: b :: t, _ => by
    obtain ⟨pre, hp⟩ := joinL_last c L (b :: t) (by simp)
    refine ⟨a ++ c :: pre, ?_⟩
    rw [List.cons_append, joinL_cons c a (by simp), hp]; simp
theorem digs_clean {n : Nat} (hn : n < 1000) : (46 : UInt8) ∉ digs n ∧ (47 : UInt8) ∉ digs n := by
  have key : ∀ d, d < 10 → dg d ≠ 46 ∧ dg d ≠ 47 := fun d hd => by
    have h46 : (46 : UInt8).toNat = 46 := rfl
    have h47 : (47 : UInt8).toNat = 47 := rfl
    constructor <;> (intro e; have := congrArg UInt8.toNat e; rw [dg_nat hd] at this; omega)
  unfold digs
  split
  · have := key n (by omega)
    simp [Ne.symm this.1, Ne.symm this.2]
  · split
    · have h1 := key (n / 10) (by omega); have h2 := key (n % 10) (by omega)
      simp [Ne.symm h1.1, Ne.symm h1.2, Ne.symm h2.1, Ne.symm h2.2]
    · have h1 := key (n / 100) (by omega); have h2 := key (n / 10 % 10) (by omega); have h3 := key (n % 10) (by omega)
      simp [Ne.symm h1.1, Ne.symm h1.2, Ne.symm h2.1, Ne.symm h2.2, Ne.symm h3.1, Ne.symm h3.2]
theorem okL_seg {m : List UInt8} (h0 : m ≠ []) (h3 : m.length ≤ 3) (hz : ¬ (1 < m.length ∧ m.head? = some 48)) (hd : (m.all fun c => isDigit (c.toNat : Int)) = true) : okL m = true := by
  have hp := List.length_pos_iff.2 h0
  have hall : (m.all fun b => decide (48 ≤ b.toNat) && decide (b.toNat ≤ 57)) = true := by
    rw [List.all_eq_true] at hd ⊢
    intro b hb
    have := digit_range (hd b hb)
    simp only [Bool.and_eq_true, decide_eq_true_eq]
    omega
  unfold okL
  rw [decide_eq_true (show 1 ≤ m.length from hp), decide_eq_true h3, hall]
  cases m with
  | nil => exact absurd rfl h0
  | cons c m =>
    simp only [Bool.true_and, Bool.not_eq_true', Bool.and_eq_false_iff, decide_eq_false_iff_not]
    by_cases h1 : 1 < (c :: m).length
    · right
      have : c ≠ 48 := fun e => hz ⟨h1, by rw [e]; rfl⟩
      simpa using this
    · exact .inl h1
theorem numL_digs {n : Nat} (h : n < 1000) : numL 0 (digs n) = n := by
  unfold digs
  split
  · simp only [numL, dg_nat (show n < 10 by omega)]; omega
  · split
    · simp only [numL, dg_nat (show n / 10 < 10 by omega), dg_nat (show n % 10 < 10 by omega)]; omega
    · simp only [numL, dg_nat (show n / 100 < 10 by omega), dg_nat (show n / 10 % 10 < 10 by omega), dg_nat (show n % 10 < 10 by omega)]; omega
theorem verL_some {L : List UInt8} {n : Int} (h : verL L = some n) : ∃ x : Nat, x < 1000 ∧ n = x ∧ L = 118 :: digs x := by
  cases L with
  | nil => cases h
  | cons c m =>
    rw [verL_cons] at h
    by_cases hc : c = 118 ∧ m ≠ [] ∧ m.length ≤ 3 ∧ ¬ (1 < m.length ∧ m.head? = some 48) ∧ (m.all fun c => isDigit (c.toNat : Int)) = true
    · rw [if_pos hc] at h
      injection h with h
      obtain ⟨x, hx, _, dx⟩ := digs_of (okL_seg hc.2.1 hc.2.2.1 hc.2.2.2.1 hc.2.2.2.2)
      refine ⟨x, hx, ?_, by rw [hc.1, dx]⟩
      rw [← h, ← dx, numL_digs hx]
    · rw [if_neg hc] at h; cases h
theorem last_byte {s : ByteArray} {pre L : List UInt8} (h : s.data.toList = pre ++ 47 :: L) (hL : (47 : UInt8) ∉ L) : Lib.lastIndexByte s 47 = (pre.length : Int) := by
  have hsz : s.size = pre.length + 1 + L.length := by
    show s.data.toList.length = _
    rw [h]; simp; omega
  have get : ∀ j, j < s.size → s.data[j]! = (pre ++ 47 :: L)[j]! := fun j hj => by
    rw [getElem!_pos s.data j hj, ← h, getElem!_pos s.data.toList j (by simpa using hj), Array.getElem_toList]
  rcases Lib.lastIndexByte_spec s 47 with ⟨_, hno⟩ | ⟨i, hi, he, hc, hb⟩
  · have := hno pre.length (by omega)
    rw [get _ (by omega)] at this
    exact absurd (by simp) this
  · rw [he]
    rcases Nat.lt_trichotomy i pre.length with hlt | heq | hgt
    · have := hb pre.length hlt (by omega)
      rw [get _ (by omega)] at this
      exact absurd (by simp) this
    · rw [heq]
    · rw [get i hi] at hc
      obtain ⟨j, rfl⟩ : ∃ j, i = pre.length + 1 + j := ⟨i - pre.length - 1, by omega⟩
      have hj : j < L.length := by omega
      have e : (pre ++ 47 :: L)[pre.length + 1 + j]! = L[j] := by
        rw [getElem!_pos _ _ (by simp; omega), List.getElem_append_right (by omega)]
        simp only [show pre.length + 1 + j - pre.length = j + 1 by omega, List.getElem_cons_succ]
      rw [e] at hc
      have : L[j] = 47 := UInt8.toNat_inj.1 (by have h47 : (47 : UInt8).toNat = 47 := rfl; omega)
      exact absurd (this ▸ List.getElem_mem hj) hL
theorem major_path {s : ByteArray} (h : majorB s = true) : ∃ (pre : List UInt8) (x : Nat), x < 1000 ∧ majorOf s = ((x : Int), 0) ∧ s = ofL (pre ++ 47 :: 118 :: digs x) ∧ Lib.lastIndexByte s 47 = (pre.length : Int) ∧ s.size ≤ 64 := by
  have hm : majorOf s = ((verR (lastOf s).data.toList).1, 0) := by unfold majorOf; rw [if_pos h]
  unfold majorB at h
  simp only [Bool.and_eq_true, decide_eq_true_eq] at h
  obtain ⟨h64, h2, _, hv⟩ := h
  obtain ⟨n, hn⟩ : ∃ n, verL (lastOf s).data.toList = some n := by
    unfold verR at hv
    cases e : verL (lastOf s).data.toList with
    | none => rw [e] at hv; cases hv
    | some n => exact ⟨n, rfl⟩
  obtain ⟨x, hx, rfl, hL⟩ := verL_some hn
  have hR : (verR (lastOf s).data.toList).1 = (x : Int) := by unfold verR; rw [hn]
  rw [hR] at hm
  obtain ⟨I, hI⟩ : ∃ I, partsOf s = I ++ [lastOf s] := by
    have hne : partsOf s ≠ [] := by intro e; rw [e] at h2; simp at h2
    refine ⟨(partsOf s).dropLast, ?_⟩
    have hl : lastOf s = (partsOf s).getLast hne := by unfold lastOf; rw [List.getLastD_eq_getLast?, List.getLast?_eq_some_getLast hne]; rfl
    rw [hl]
    exact (List.dropLast_concat_getLast hne).symm
  have hIn : I ≠ [] := by intro e; rw [hI, e] at h2; simp at h2
  have hs : splitL 47 s.data.toList = I.map (·.data.toList) ++ [118 :: digs x] := by
    rw [← partsOf_list, hI, List.map_append, List.map_singleton, hL]
  have hcl := split_clean 47 s.data.toList (118 :: digs x) (by rw [hs]; simp)
  have hj := join_split 47 s.data.toList
  rw [hs] at hj
  obtain ⟨pre, hp⟩ := joinL_last 47 (118 :: digs x) (I.map (·.data.toList)) (by simpa using hIn)
  rw [hp] at hj
  exact ⟨pre, x, hx, hm, ofL_eq hj.symm, last_byte hj.symm hcl, h64⟩
theorem isPath_some (s : ByteArray) (hs : s.size ≤ 100000) (k : Nat) (hk : s.size + 10 ≤ k) : lexer_IsPath.f k s = some ((majorOf s).2 == 0) := by
  unfold lexer_IsPath.f
  rw [Major_some s hs k hk]; rfl
end Go.Proofs.YtdccbpeajpnkjaaGreatDoor.Pr
