/- The law VersionReturns in plain Lean: a number's text is read as the number, a text that is read is the number's text, and the path of a line is the path; no condition. -/
import Derived.Test.YtdccbpeajpnkjaaDoorPuPar
import Derived.Test.YtdccbpeajpnkjaaDoorPuMaj
import Derived.Test.YtdccbpeajpnkjaaDoorPr10
namespace Go.Proofs.YtdccbpeajpnkjaaDoor.Pr
open Go.RowKit Go.Proofs.YtdccbpeajpnkjaaDoorW.PrintWords Go.Proofs.YtdccbpeajpnkjaaDoorW.PrintLast Go.Proofs.YtdccbpeajpnkjaaDoorW.PrintMore
/-- parts put together with a byte between them. -/
def joinL (c : UInt8) : List (List UInt8) → List UInt8
  | [] => []
  | [a] => a
  | a :: b :: t => a ++ c :: joinL c (b :: t)
theorem joinL_cons (c : UInt8) (a : List UInt8) {t : List (List UInt8)} (h : t ≠ []) : joinL c (a :: t) = a ++ c :: joinL c t := by
  cases t with
  | nil => exact absurd rfl h
  | cons b t => rfl
theorem joinL_head (c x : UInt8) {t : List (List UInt8)} (h : t ≠ []) : joinL c (consHead x t) = x :: joinL c t := by
  cases t with
  | nil => exact absurd rfl h
  | cons a t => cases t <;> rfl
theorem join_split (c : UInt8) : ∀ l : List UInt8, joinL c (splitL c l) = l
  | [] => rfl
  | x :: l => by
    unfold splitL
    by_cases hx : x = c
    · rw [if_pos hx, joinL_cons c [] (splitL_ne c l), join_split c l, hx]; rfl
    · rw [if_neg hx, joinL_head c x (splitL_ne c l), join_split c l]
theorem split_clean (c : UInt8) : ∀ l : List UInt8, ∀ x ∈ splitL c l, c ∉ x
  | [], x, h => by simp [splitL] at h; subst h; simp
  | y :: l, x, h => by
    have ih := split_clean c l
    unfold splitL at h
    by_cases hy : y = c
    · rw [if_pos hy] at h
      rcases List.mem_cons.1 h with rfl | h
      · simp
      · exact ih x h
    · rw [if_neg hy] at h
      cases hs : splitL c l with
      | nil => exact absurd hs (splitL_ne c l)
      | cons a t =>
        rw [hs] at h ih
        rcases List.mem_cons.1 h with rfl | h
        · have := ih a (List.mem_cons_self ..)
          simp only [List.mem_cons, not_or]
          exact ⟨fun e => hy e.symm, this⟩
        · exact ih x (List.mem_cons_of_mem _ h)
theorem split_one (c : UInt8) : ∀ a : List UInt8, c ∉ a → splitL c a = [a]
  | [], _ => rfl
  | x :: a, h => by
    rw [List.mem_cons, not_or] at h
    unfold splitL
    rw [if_neg (fun e => h.1 e.symm), split_one c a h.2]; rfl
theorem split_app (c : UInt8) (l : List UInt8) : ∀ a : List UInt8, c ∉ a → splitL c (a ++ c :: l) = a :: splitL c l
  | [], _ => by show splitL c (c :: l) = _; rw [splitL, if_pos rfl]
  | x :: a, h => by
    rw [List.mem_cons, not_or] at h
    show splitL c (x :: (a ++ c :: l)) = _
    rw [splitL, if_neg (fun e => h.1 e.symm), split_app c l a h.2]; rfl
theorem joinL_last (c : UInt8) (L : List UInt8) : ∀ I : List (List UInt8), I ≠ [] → ∃ pre, joinL c (I ++ [L]) = pre ++ c :: L
  | [], h => absurd rfl h
  | [a], _ => ⟨a, rfl⟩
  | a :: b :: t, _ => by
    obtain ⟨pre, hp⟩ := joinL_last c L (b :: t) (by simp)
    refine ⟨a ++ c :: pre, ?_⟩
    rw [List.cons_append, joinL_cons c a (by simp), hp]; simp
/-- what a text is read as, told of lists. -/
def parseL (ws : List (List UInt8)) : Int × Int × Int × Int := if ws.all okL = true then finish (ws.map fun l => (Lib.atoi l).getD 0) else (0, 0, 0, 3)
theorem parse_list (s : ByteArray) : parse3 (dots s) = parseL (splitL 46 s.data.toList) := by
  rw [parse3_words, ← splitB_list]
  unfold parseL dots
  have e1 : ∀ ws : List ByteArray, (ws.map (·.data.toList)).all okL = ws.all wordOk := fun ws => by
    rw [List.all_map]
    congr 1
    funext x
    exact (wordOk_list x).symm
  rw [e1, List.map_map]
  rfl
theorem digs_clean {n : Nat} (hn : n < 1000) : (46 : UInt8) ∉ digs n ∧ (47 : UInt8) ∉ digs n := by
  have key : ∀ d, d < 10 → dg d ≠ 46 ∧ dg d ≠ 47 := fun d hd => by
    have h46 : (46 : UInt8).toNat = 46 := rfl
    have h47 : (47 : UInt8).toNat = 47 := rfl
    constructor <;> (intro e; have := congrArg UInt8.toNat e; rw [dg_nat hd] at this; omega)
  unfold digs
  split
  · have := key n (by omega)
    simp [Ne.symm this.1, Ne.symm this.2]
  · split
    · have h1 := key (n / 10) (by omega); have h2 := key (n % 10) (by omega)
      simp [Ne.symm h1.1, Ne.symm h1.2, Ne.symm h2.1, Ne.symm h2.2]
    · have h1 := key (n / 100) (by omega); have h2 := key (n / 10 % 10) (by omega); have h3 := key (n % 10) (by omega)
      simp [Ne.symm h1.1, Ne.symm h1.2, Ne.symm h2.1, Ne.symm h2.2, Ne.symm h3.1, Ne.symm h3.2]
theorem valid_nat' {a b c : Int} (h : validB a b c = true) : ∃ x y z : Nat, (x < 1000 ∧ y < 1000 ∧ z < 1000) ∧ a = x ∧ b = y ∧ c = z := by
  unfold validB okPart at h
  simp only [Bool.and_eq_true, decide_eq_true_eq] at h
  exact ⟨a.toNat, b.toNat, c.toNat, by omega, by omega, by omega, by omega⟩
theorem valid_of_nat {x y z : Nat} (h : x < 1000 ∧ y < 1000 ∧ z < 1000) : validB x y z = true := by
  unfold validB okPart
  simp only [Bool.and_eq_true, decide_eq_true_eq]
  omega
theorem format_list {x y z : Nat} (h : x < 1000 ∧ y < 1000 ∧ z < 1000) : formatB x y z = ⟨(digs x ++ 46 :: (digs y ++ 46 :: digs z)).toArray⟩ := by
  unfold formatB
  rw [itoa_digs h.1, itoa_digs h.2.1, itoa_digs h.2.2, join_three]
/-- the text of a number is read as this number. -/
theorem parse_format {a b c : Int} (h : validB a b c = true) : version_Parse.f (formatB a b c) = some (a, b, c, 0) := by
  obtain ⟨x, y, z, hb, rfl, rfl, rfl⟩ := valid_nat' h
  have l1 := digs_len (n := x); have l2 := digs_len (n := y); have l3 := digs_len (n := z)
  rw [format_list hb]
  unfold version_Parse.f
  rw [if_pos (by rw [arr_size]; simp; omega), parse_list]
  show some (parseL (splitL 46 (digs x ++ 46 :: (digs y ++ 46 :: digs z)))) = _
  rw [split_app 46 _ _ (digs_clean hb.1).1, split_app 46 _ _ (digs_clean hb.2.1).1, split_one 46 _ (digs_clean hb.2.2).1]
  unfold parseL
  simp [okL_digs hb.1, okL_digs hb.2.1, okL_digs hb.2.2, atoi_digs hb.1, atoi_digs hb.2.1, atoi_digs hb.2.2, finish]
/-- what is read is a valid number, and the text is this number's text. -/
theorem format_parse {s : ByteArray} {a b c : Int} (h : parse3 (dots s) = (a, b, c, 0)) : validB a b c = true ∧ formatB a b c = s := by
  rw [parse_list] at h
  have hj := join_split 46 s.data.toList
  generalize splitL 46 s.data.toList = ws at h hj
  unfold parseL at h
  by_cases hok : ws.all okL = true
  · rw [if_pos hok] at h
    match ws, h, hok, hj with
    | [], h, _, _ => exact absurd (congrArg (·.2.2.2) h) (by simp [finish])
    | [_], h, _, _ => exact absurd (congrArg (·.2.2.2) h) (by simp [finish])
    | [_, _], h, _, _ => exact absurd (congrArg (·.2.2.2) h) (by simp [finish])
    | [p, q, r], h, hok, hj =>
      simp only [List.all_cons, List.all_nil, Bool.and_true, Bool.and_eq_true] at hok
      obtain ⟨x, hx, ax, dx⟩ := digs_of hok.1
      obtain ⟨y, hy, ay, dy⟩ := digs_of hok.2.1
      obtain ⟨z, hz, az, dz⟩ := digs_of hok.2.2
      have e : finish ([p, q, r].map fun l => (Lib.atoi l).getD 0) = ((x : Int), (y : Int), (z : Int), 0) := by simp [finish, ax, ay, az]
      rw [e] at h
      injection h with h0 h1
      injection h1 with h1 h2
      injection h2 with h2 h3
      subst h0 h1 h2
      refine ⟨valid_of_nat ⟨hx, hy, hz⟩, ?_⟩
      rw [format_list ⟨hx, hy, hz⟩, dx, dy, dz]
      have hj' : p ++ 46 :: (q ++ 46 :: r) = s.data.toList := hj
      rw [hj']
    | _ :: _ :: _ :: _ :: _, h, _, _ => exact absurd (congrArg (·.2.2.2) h) (by simp [finish])
  · rw [if_neg hok] at h
    exact absurd (congrArg (·.2.2.2) h) (by simp [finish])
theorem okL_seg {m : List UInt8} (h0 : m ≠ []) (h3 : m.length ≤ 3) (hz : ¬ (1 < m.length ∧ m.head? = some 48)) (hd : (m.all fun c => isDigit (c.toNat : Int)) = true) : okL m = true := by
  have hp := List.length_pos_iff.2 h0
  have hall : (m.all fun b => decide (48 ≤ b.toNat) && decide (b.toNat ≤ 57)) = true := by
    rw [List.all_eq_true] at hd ⊢
    intro b hb
    have := digit_range (hd b hb)
    simp only [Bool.and_eq_true, decide_eq_true_eq]
    omega
  unfold okL
  rw [decide_eq_true (show 1 ≤ m.length from hp), decide_eq_true h3, hall]
  cases m with
  | nil => exact absurd rfl h0
  | cons c m =>
    simp only [Bool.true_and, Bool.not_eq_true', Bool.and_eq_false_iff, decide_eq_false_iff_not]
    by_cases h1 : 1 < (c :: m).length
    · right
      have : c ≠ 48 := fun e => hz ⟨h1, by rw [e]; rfl⟩
      simpa using this
    · exact .inl h1
theorem numL_digs {n : Nat} (h : n < 1000) : numL 0 (digs n) = n := by
  unfold digs
  split
  · simp only [numL, dg_nat (show n < 10 by omega)]; omega
  · split
    · simp only [numL, dg_nat (show n / 10 < 10 by omega), dg_nat (show n % 10 < 10 by omega)]; omega
    · simp only [numL, dg_nat (show n / 100 < 10 by omega), dg_nat (show n / 10 % 10 < 10 by omega), dg_nat (show n % 10 < 10 by omega)]; omega
theorem verL_some {L : List UInt8} {n : Int} (h : verL L = some n) : ∃ x : Nat, x < 1000 ∧ n = x ∧ L = 118 :: digs x := by
  cases L with
  | nil => cases h
  | cons c m =>
    rw [verL_cons] at h
    by_cases hc : c = 118 ∧ m ≠ [] ∧ m.length ≤ 3 ∧ ¬ (1 < m.length ∧ m.head? = some 48) ∧ (m.all fun c => isDigit (c.toNat : Int)) = true
    · rw [if_pos hc] at h
      injection h with h
      obtain ⟨x, hx, _, dx⟩ := digs_of (okL_seg hc.2.1 hc.2.2.1 hc.2.2.2.1 hc.2.2.2.2)
      refine ⟨x, hx, ?_, by rw [hc.1, dx]⟩
      rw [← h, ← dx, numL_digs hx]
    · rw [if_neg hc] at h; cases h
theorem last_byte {s : ByteArray} {pre L : List UInt8} (h : s.data.toList = pre ++ 47 :: L) (hL : (47 : UInt8) ∉ L) : Lib.lastIndexByte s 47 = (pre.length : Int) := by
  have hsz : s.size = pre.length + 1 + L.length := by
    show s.data.toList.length = _
    rw [h]; simp; omega
  have get : ∀ j, j < s.size → s.data[j]! = (pre ++ 47 :: L)[j]! := fun j hj => by
    rw [getElem!_pos s.data j hj, ← h, getElem!_pos s.data.toList j (by simpa using hj), Array.getElem_toList]
  rcases Lib.lastIndexByte_spec s 47 with ⟨_, hno⟩ | ⟨i, hi, he, hc, hb⟩
  · have := hno pre.length (by omega)
    rw [get _ (by omega)] at this
    exact absurd (by simp) this
  · rw [he]
    rcases Nat.lt_trichotomy i pre.length with hlt | heq | hgt
    · have := hb pre.length hlt (by omega)
      rw [get _ (by omega)] at this
      exact absurd (by simp) this
    · rw [heq]
    · rw [get i hi] at hc
      obtain ⟨j, rfl⟩ : ∃ j, i = pre.length + 1 + j := ⟨i - pre.length - 1, by omega⟩
      have hj : j < L.length := by omega
      have e : (pre ++ 47 :: L)[pre.length + 1 + j]! = L[j] := by
        rw [getElem!_pos _ _ (by simp; omega), List.getElem_append_right (by omega)]
        simp only [show pre.length + 1 + j - pre.length = j + 1 by omega, List.getElem_cons_succ]
      rw [e] at hc
      have : L[j] = 47 := UInt8.toNat_inj.1 (by have h47 : (47 : UInt8).toNat = 47 := rfl; omega)
      exact absurd (this ▸ List.getElem_mem hj) hL
theorem major_path {s : ByteArray} (h : majorB s = true) : ∃ (pre : List UInt8) (x : Nat), x < 1000 ∧ majorOf s = ((x : Int), 0) ∧ s = ofL (pre ++ 47 :: 118 :: digs x) ∧ Lib.lastIndexByte s 47 = (pre.length : Int) ∧ s.size ≤ 64 := by
  have hm : majorOf s = ((verR (lastOf s).data.toList).1, 0) := by unfold majorOf; rw [if_pos h]
  unfold majorB at h
  simp only [Bool.and_eq_true, decide_eq_true_eq] at h
  obtain ⟨h64, h2, _, hv⟩ := h
  obtain ⟨n, hn⟩ : ∃ n, verL (lastOf s).data.toList = some n := by
    unfold verR at hv
    cases e : verL (lastOf s).data.toList with
    | none => rw [e] at hv; cases hv
    | some n => exact ⟨n, rfl⟩
  obtain ⟨x, hx, rfl, hL⟩ := verL_some hn
  have hR : (verR (lastOf s).data.toList).1 = (x : Int) := by unfold verR; rw [hn]
  rw [hR] at hm
  obtain ⟨I, hI⟩ : ∃ I, partsOf s = I ++ [lastOf s] := by
    have hne : partsOf s ≠ [] := by intro e; rw [e] at h2; simp at h2
    refine ⟨(partsOf s).dropLast, ?_⟩
    have hl : lastOf s = (partsOf s).getLast hne := by unfold lastOf; rw [List.getLastD_eq_getLast?, List.getLast?_eq_some_getLast hne]; rfl
    rw [hl]
    exact (List.dropLast_concat_getLast hne).symm
  have hIn : I ≠ [] := by intro e; rw [hI, e] at h2; simp at h2
  have hs : splitL 47 s.data.toList = I.map (·.data.toList) ++ [118 :: digs x] := by
    rw [← partsOf_list, hI, List.map_append, List.map_singleton, hL]
  have hcl := split_clean 47 s.data.toList (118 :: digs x) (by rw [hs]; simp)
  have hj := join_split 47 s.data.toList
  rw [hs] at hj
  obtain ⟨pre, hp⟩ := joinL_last 47 (118 :: digs x) (I.map (·.data.toList)) (by simpa using hIn)
  rw [hp] at hj
  exact ⟨pre, x, hx, hm, ofL_eq hj.symm, last_byte hj.symm hcl, h64⟩
theorem isPath_some (s : ByteArray) (hs : s.size ≤ 100000) (k : Nat) (hk : s.size + 10 ≤ k) : lexer_IsPath.f k s = some ((majorOf s).2 == 0) := by
  unfold lexer_IsPath.f
  rw [Major_some s hs k hk]; rfl
theorem returns_line (s : ByteArray) (hs : s.size ≤ 300) (k : Nat) (hk : 400 ≤ k) : modcertlaw24_VersionReturns.j2 (k + 2) s = some true := by
  rw [modcertlaw24_VersionReturns.j2]
  unfold version_Line.f
  rw [Major_some s (by omega) (k + 1) (by omega), Option.bind_some, isPath_some s (by omega) (k + 1) (by omega), Option.bind_some]
  by_cases hm : majorB s = true
  · obtain ⟨pre, x, hx, hma, hse, hli, h64⟩ := major_path hm
    have hle : pre.length ≤ s.size := by rw [hse, ofL_size]; simp
    have hlast : strings_LastIndex.f s ⟨#[47]⟩ = some (pre.length : Int) := by
      unfold strings_LastIndex.f
      rw [dif_pos ⟨rfl, by omega⟩]
      exact congrArg some hli
    rw [hma, if_pos (by rfl), if_pos rfl, hlast, Option.bind_some, if_pos (by omega), if_pos (by omega)]
    simp only [Option.bind_some, if_true]
    have hex : s.extract 0 ((pre.length : Int)).toNat = ofL pre := by
      rw [ext_ofL, Int.toNat_natCast, Nat.sub_zero, List.drop_zero, hse, ofL_list]
      simp
    have hcat : (ofL pre ++ (⟨#[47, 118]⟩ : ByteArray)) ++ numText (x : Int) = s := by
      rw [numText_digs hx]
      show ((⟨pre.toArray⟩ : ByteArray) ++ ⟨([47, 118] : List UInt8).toArray⟩) ++ ⟨(digs x).toArray⟩ = s
      rw [app_arr, app_arr, hse]
      simp [ofL]
    have hitoa : strconv_Itoa.f (x : Int) = some (numText (x : Int)) := by unfold strconv_Itoa.f; rw [if_pos (by omega)]
    have hpath : version_Path.f (k + 1) (ofL pre) (x : Int) = some (s, 0) := by
      have hl1 : (ofL pre).size ≤ 64 := by rw [ofL_size]; omega
      have hl2 : (ofL pre ++ (⟨#[47, 118]⟩ : ByteArray)).size = (ofL pre).size + 2 := by rw [ByteArray.size_append]; rfl
      have hl3 : (numText (x : Int)).size ≤ 3 := by rw [numText_digs hx, arr_size]; exact digs_len.2
      unfold version_Path.f
      rw [if_neg (by omega), decide_eq_false (by omega), version_Path.j0, if_neg (by decide), if_pos (by omega), hitoa, Option.bind_some, if_pos (by omega), hcat, isPath_some s (by omega) k (by omega), hma]
      rfl
    rw [hex, hpath]
    simp
  · have hma : majorOf s = (0, 4) := by unfold majorOf; rw [if_neg hm]
    rw [hma]
    simp
theorem returns_read (s p : ByteArray) (hs : s.size ≤ 300) (hp : p.size ≤ 300) (k : Nat) (hk : 400 ≤ k) : modcertlaw24_VersionReturns.j1 (k + 3) s p = some true := by
  rw [modcertlaw24_VersionReturns.j1]
  unfold version_Parse.f
  rw [if_pos (by omega), Option.bind_some, returns_line p hp k hk]
  generalize hr : parse3 (dots s) = r
  obtain ⟨a, b, c, e⟩ := r
  by_cases he : e = 0
  · subst he
    obtain ⟨hv, hf⟩ := format_parse hr
    simp only [if_true]
    unfold version_Format.f
    rw [if_pos hv, hf]
    simp
  · simp only [if_neg he]
theorem VersionReturns (a b c : Int) (s p : ByteArray) : modcertlaw24_VersionReturns.f 2000 a b c s p = some true := by
  unfold modcertlaw24_VersionReturns.f modcertlaw24_awake.f
  rw [Option.bind_some, if_pos rfl]
  by_cases hs : (s.size : Int) > 300
  · rw [if_pos hs, modcertlaw24_VersionReturns.j0, if_pos rfl]
  · rw [if_neg hs]
    by_cases hp : (p.size : Int) > 300
    · rw [decide_eq_true hp, modcertlaw24_VersionReturns.j0, if_pos rfl]
    · rw [decide_eq_false hp, modcertlaw24_VersionReturns.j0, if_neg (by decide), returns_read s p (by omega) (by omega) 1996 (by omega)]
      unfold version_Format.f version_Valid.f
      by_cases hv : validB a b c = true
      · rw [if_pos hv]
        simp only [Option.bind_some, parse_format hv, if_true]
        simp [hv]
      · rw [if_neg hv, Bool.eq_false_iff.2 hv]
        simp
end Go.Proofs.YtdccbpeajpnkjaaDoor.Pr
