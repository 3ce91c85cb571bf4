/- The plain law of LexerOffsets: what the printed function answers is true. -/
import Derived.Test.YtmndicibakaceaaDoorPuErrors
import Derived.Test.YtmndicibakaceaaDoorPr20
namespace Go.Proofs.YtmndicibakaceaaDoor.Pr
open Go.RowKit Go.Proofs.YtmndicibakaceaaDoorW.PrintWords Go.Proofs.YtmndicibakaceaaDoorW.PrintLast Go.Proofs.YtmndicibakaceaaDoorW.PrintMore
theorem litL_len : ∀ (k : Nat) {l : List UInt8} {acc t : List Int} {n : Nat}, litL k l acc = some (t, n) → t.length + 1 ≤ acc.length + n ∧ n ≤ l.length
  | 0, l, acc, t, n, h => by cases h
  | k + 1, l, acc, t, n, h => by
    unfold litL at h
    split at h
    · rename_i hh
      injection h with h; injection h with h1 h2; subst h1 h2
      have : l ≠ [] := by rintro rfl; simp at hh
      have := List.length_pos_iff.2 this
      omega
    · obtain ⟨⟨v, w⟩, hx, h⟩ := Option.bind_eq_some_iff.1 h
      obtain ⟨⟨t', n'⟩, hy, h⟩ := Option.map_eq_some_iff.1 h
      injection h with h1 h2
      simp only at h1 h2 hy
      subst h1 h2
      have hw := charL_len hx
      have := litL_len k hy
      rw [List.length_drop] at this
      simp at this; omega
theorem symbol_take (l : List UInt8) : symbolOf (ofL l) = ofL (l.take (symbolOf (ofL l)).size) := by
  unfold symbolOf
  split
  · rename_i x hx
    have hb : begins (ofL l) x = true := by simpa using List.find?_some hx
    rw [begins_list, List.isPrefixOf_iff_prefix] at hb
    obtain ⟨r, hr⟩ := hb
    have : l.take x.size = x.data.toList := by rw [← hr]; exact List.take_left' rfl
    rw [this, ofL_of]
  · split
    · rename_i hc
      rw [ofL_size] at hc
      rw [ext_ofL, ofL_list, ofL_size, List.length_take]
      congr 1
      simp
    · rfl
/-- what a token without an error looks like. -/
theorem next_shape {l : List UInt8} (h : (nextL l).2.2.2 = 0) : (nextL l).2.2.1 ≤ l.length ∧ (((nextL l).1 = 4 ∧ l.head? = some 34 ∧ (nextL l).2.1.size + 2 ≤ (nextL l).2.2.1) ∨ ((nextL l).1 ≠ 4 ∧ (nextL l).1 ≠ 0 ∧ (nextL l).2.1 = ofL (l.take (nextL l).2.2.1) ∧ (nextL l).2.1.size = (nextL l).2.2.1)) := by
  match l with
  | [] => simp [nextL] at h
  | c :: l =>
    rw [nextL_cons] at h ⊢
    have hr : ∀ p, (runL p (c :: l)).length ≤ (c :: l).length ∧ ofL (runL p (c :: l)) = ofL ((c :: l).take (runL p (c :: l)).length) ∧ (ofL (runL p (c :: l))).size = (runL p (c :: l)).length := fun p => ⟨runL_le p _, by rw [runL_take], ofL_size _⟩
    split at h
    · rename_i hc
      rw [if_pos hc]
      split at h
      · rw [if_pos (by assumption)]; exact ⟨(hr _).1, .inr ⟨by simp, by simp, (hr _).2⟩⟩
      · rw [if_neg (by assumption)]
        split at h
        · rw [if_pos (by assumption)]; exact ⟨(hr _).1, .inr ⟨by simp, by simp, (hr _).2⟩⟩
        · rw [if_neg (by assumption)]
          split at h
          · rw [if_pos (by assumption)]; exact ⟨(hr _).1, .inr ⟨by simp, by simp, (hr _).2⟩⟩
          · simp at h
    · rename_i hc
      rw [if_neg hc]
      split at h
      · rename_i hd
        rw [if_pos hd]
        split at h
        · simp at h
        · rw [if_neg (by assumption)]; exact ⟨(hr _).1, .inr ⟨by simp, by simp, (hr _).2⟩⟩
      · rename_i hd
        rw [if_neg hd]
        split at h
        · rename_i hq
          rw [if_pos hq]
          cases hl : litL l.length l [] with
          | none => rw [hl] at h; simp at h
          | some x =>
            obtain ⟨t, n⟩ := x
            have hll := litL_len _ hl
            have hsz : (strOfNums t).size = t.length := by simp [strOfNums, ByteArray.size]
            refine ⟨by simp; exact hll.2, .inl ⟨rfl, ?_, ?_⟩⟩
            · have : c = 34 := UInt8.toNat_inj.1 hq
              rw [this]; rfl
            · show (strOfNums t).size + 2 ≤ n + 1
              rw [hsz]; have := hll.1; simp at this; omega
        · rename_i hq
          rw [if_neg hq]
          split at h
          · simp at h
          · rw [if_neg (by assumption)]
            refine ⟨?_, .inr ⟨by simp, by simp, symbol_take _, rfl⟩⟩
            have := symbolOf_len (ofL (c :: l))
            rw [ofL_size] at this; exact this
theorem rd_append {a b : List S36} {x : S36} {i : Int} (h : i = a.length) : rd_T36 (a ++ x :: b) i = x := by
  subst h
  simp [rd_T36]
theorem prefix_some (s : ByteArray) (i : Nat) (b : ByteArray) : strings_HasPrefix.f (s.extract i s.size) b = some (b.data.toList.isPrefixOf (s.data.toList.drop i)) := by
  rw [HasPrefix_some, Lib.extract_to_end]; rfl
theorem offsets_loop (s : ByteArray) (hs : s.size ≤ 1000) : ∀ (k : Nat) (l : List UInt8) (o e : Nat) (pre all : List S36), l.length < k → l = s.data.toList.drop o → o ≤ s.size → e ≤ o → (∀ x ∈ toksL k l o, x.2 = 0) → all = pre ++ (toksL k l o).map (·.1) → all.length ≤ 2000 →
    modcertlaw03_LexerOffsets.l0 (2 * k) s all 0 (e : Int) all (all.length : Int) (pre.length : Int) = some true
  | 0, _, _, _, _, _, h, _, _, _, _, _, _ => by omega
  | k + 1, l, o, e, pre, all, hk, hlo, ho, he, hz, hall, hlen => by
    have hll : l.length = s.size - o := by rw [hlo, List.length_drop]; rfl
    rw [show 2 * (k + 1) = (2 * k + 1) + 1 by omega]
    unfold modcertlaw03_LexerOffsets.l0
    by_cases hl : l = []
    · have hT : toksL (k + 1) l o = [(⟨0, ⟨#[]⟩, o⟩, 0)] := by unfold toksL; rw [if_pos hl]
      rw [hT] at hall
      have hall' : all = pre ++ ⟨0, ⟨#[]⟩, o⟩ :: [] := hall
      have hlenA : all.length = pre.length + 1 := by rw [hall']; simp
      have hrd : rd_T36 all (pre.length : Int) = ⟨0, ⟨#[]⟩, o⟩ := by rw [hall']; exact rd_append rfl
      rw [hrd, if_pos (by omega), if_pos (by omega), if_pos (by omega)]
      simp only
      have hoz : o = s.size := by subst hl; simp at hll; omega
      rw [if_neg (by omega), if_neg (by omega)]
      have hg : (((0 : Int) == 0) != ((pre.length : Int) == wrap64 ((all.length : Int) - 1))) = false := by
        rw [wr64 (by omega), hlenA]; simp
      rw [hg]
      unfold modcertlaw03_LexerOffsets.j1
      rw [if_neg (by decide), if_pos rfl, if_pos (by omega), if_pos (show (⟨#[]⟩ : ByteArray).toList = ([] : List UInt8) from (toList_nil_iff _).2 rfl)]; rfl
    · have hT : toksL (k + 1) l o = if (nextL l).2.2.2 = 0 then
        (⟨(nextL l).1, (nextL l).2.1, o⟩, 0) :: toksL k ((l.drop (nextL l).2.2.1).drop (skipN false (l.drop (nextL l).2.2.1))) (o + (nextL l).2.2.1 + skipN false (l.drop (nextL l).2.2.1))
        else [(⟨(nextL l).1, (nextL l).2.1, o⟩, (nextL l).2.2.2)] := by
        conv => lhs; unfold toksL
        rw [if_neg hl]
      have h0 : (nextL l).2.2.2 = 0 := by
        rw [hT] at hz
        by_cases h0 : (nextL l).2.2.2 = 0
        · exact h0
        · rw [if_neg h0] at hz
          exact hz _ (List.mem_singleton.2 rfl)
      rw [if_pos h0] at hT
      obtain ⟨hN, _⟩ := next_pos h0
      obtain ⟨hle, hsh⟩ := next_shape h0
      have hS := skipN_le false (l.drop (nextL l).2.2.1)
      rw [List.length_drop] at hS
      rw [hT] at hall hz
      generalize hK : (nextL l).1 = K at *
      generalize hX : (nextL l).2.1 = X at *
      generalize hNN : (nextL l).2.2.1 = N at *
      generalize hSS : skipN false (l.drop N) = S at *
      have hall' : all = pre ++ ⟨K, X, o⟩ :: (toksL k ((l.drop N).drop S) (o + N + S)).map (·.1) := hall
      have hrd : rd_T36 all (pre.length : Int) = ⟨K, X, o⟩ := by rw [hall']; exact rd_append rfl
      obtain ⟨k, rfl⟩ : ∃ q, k = q + 1 := ⟨k - 1, by omega⟩
      have hpos : 0 < (toksL (k + 1) ((l.drop N).drop S) (o + N + S)).length := by
        unfold toksL
        split
        · simp
        · split <;> simp
      have hlenA : pre.length + 1 < all.length := by rw [hall', List.length_append, List.length_cons, List.length_map]; omega
      have hK0 : K ≠ 0 := by
        rcases hsh with h | h
        · rw [h.1]; decide
        · exact h.2.1
      rw [hrd, if_pos (by omega), if_pos (by omega), if_pos (by omega)]
      simp only
      rw [if_neg (by omega), if_neg (by omega)]
      have hg : ((K == 0) != ((pre.length : Int) == wrap64 ((all.length : Int) - 1))) = false := by
        rw [wr64 (by omega)]
        have h1 : (K == 0) = false := by simpa using hK0
        have h2 : ((pre.length : Int) == (all.length : Int) - 1) = false := by rw [beq_eq_false_iff_ne]; omega
        rw [h1, h2]; rfl
      rw [hg]
      have hlX : X.size ≤ N := by
        rcases hsh with h | h
        · omega
        · omega
      have ih := fun e' he' => offsets_loop s hs (k + 1) ((l.drop N).drop S) (o + N + S) e' (pre ++ [⟨K, X, o⟩]) all (by rw [List.length_drop, List.length_drop]; omega) (by rw [hlo, List.drop_drop, List.drop_drop]; congr 1; omega) (by omega) he' (fun x hx => hz x (List.mem_cons_of_mem _ hx)) (by rw [hall']; simp) hlen
      have hpl : ((pre ++ [(⟨K, X, o⟩ : S36)]).length : Int) = (pre.length : Int) + 1 := by simp
      rw [hpl] at ih
      unfold modcertlaw03_LexerOffsets.j1
      rw [if_neg (by decide), if_neg hK0]
      have hw1 : wrap64 ((pre.length : Int) + 1) = (pre.length : Int) + 1 := wr64 (by omega)
      rcases hsh with ⟨h4, hhd, hx2⟩ | ⟨h4, _, hx, hxs⟩
      · rw [if_pos h4, if_pos (by omega), if_pos (by omega), Int.toNat_natCast, prefix_some, ← hlo]
        have hpf : List.isPrefixOf [34] l = true := by
          match l, hhd with
          | c :: l, hhd => simp at hhd; subst hhd; simp [List.isPrefixOf]
        rw [show ((⟨#[34]⟩ : ByteArray).data.toList) = [34] from rfl, hpf, Option.bind_some, if_pos rfl, hw1]
        have := ih (o + X.size + 2) (by omega)
        rw [show wrap64 (wrap64 ((o : Int) + (X.size : Int)) + 2) = ((o + X.size + 2 : Nat) : Int) by rw [wr64 (n := (o : Int) + (X.size : Int)) (by omega), wr64 (by omega)]; omega]
        exact this
      · rw [if_neg h4]
        have hne : ¬ X.toList = ([] : List UInt8) := fun h => by
          have := (toList_nil_iff X).1 h; omega
        have hpf : List.isPrefixOf X.data.toList l = true := by
          rw [hx, ofL_list, List.isPrefixOf_iff_prefix]; exact List.take_prefix _ _
        rw [if_neg hne, if_pos (by omega), if_pos (by omega), Int.toNat_natCast, prefix_some, ← hlo, hpf, Option.bind_some, if_pos rfl, hw1]
        have := ih (o + X.size) (by omega)
        rw [show wrap64 ((o : Int) + (X.size : Int)) = ((o + X.size : Nat) : Int) by rw [wr64 (by omega)]; omega]
        exact this
theorem toksL_length : ∀ (k : Nat) (l : List UInt8) (o : Nat), (toksL k l o).length ≤ k
  | 0, _, _ => Nat.le_refl _
  | k + 1, l, o => by
    have := fun l o => toksL_length k l o
    unfold toksL
    split
    · simp
    · split
      · simp; exact this _ _
      · simp
theorem scan_zero : ∀ (l : List (S36 × Int)) (acc : List S36), (scanToks l acc).2.2 = 0 → (∀ x ∈ l, x.2 = 0)
  | [], _, _ => by simp
  | (t, r) :: l, acc, h => by
    unfold scanToks at h
    by_cases hr : r = 0
    · rw [if_pos hr] at h
      intro x hx
      rcases List.mem_cons.1 hx with rfl | hx
      · exact hr
      · exact scan_zero l _ h x hx
    · rw [if_neg hr] at h; exact absurd h hr
theorem LexerOffsets : modcertlaw03_LexerOffsets.Pure := by
  intro a0 h0
  by_cases hbig : (a0.size : Int) > 1000
  · refine ⟨0, ?_⟩
    unfold modcertlaw03_LexerOffsets.f modcertlaw03_awake.f
    rw [Option.bind_some, if_pos rfl, if_pos hbig]
  · refine ⟨2 * (a0.size + 1), ?_⟩
    have hsz : a0.size ≤ 1000 := by omega
    obtain ⟨l, at_, r, hl⟩ : ∃ l at_ r, lexer_Lex.f a0 = some (l, at_, r) := ⟨_, _, _, lex_some a0 (by omega)⟩
    unfold modcertlaw03_LexerOffsets.f modcertlaw03_awake.f
    rw [Option.bind_some, if_pos rfl, if_neg hbig, hl, Option.bind_some]
    by_cases hr : r = 0
    · rw [if_pos hr]
      have hh := lex_some a0 (by omega)
      rw [hl] at hh
      have hh := (Option.some.inj hh).symm
      have hz := scan_zero _ _ (by rw [hh]; exact hr)
      rw [scan_ok _ _ hz] at hh
      injection hh with h1 h2
      injection h2 with h2 h3
      subst h2
      have hsk := skipN_le false a0.data.toList
      have hlen : a0.data.toList.length = a0.size := rfl
      have hlt := toksL_length (a0.size + 1) (a0.data.toList.drop (skipN false a0.data.toList)) (skipN false a0.data.toList)
      have := offsets_loop a0 hsz (a0.size + 1) (a0.data.toList.drop (skipN false a0.data.toList)) (skipN false a0.data.toList) 0 [] l (by rw [List.length_drop]; omega) rfl (by omega) (Nat.zero_le _) hz h1.symm (by rw [← h1]; simp; omega)
      exact this
    · rw [if_neg hr]
      obtain ⟨n, rfl, hn, _⟩ := errors_at a0 hsz l at_ r hl hr
      have hnil : l = [] := by
        have hh := lex_some a0 (by omega)
        rw [hl] at hh
        have hh := (Option.some.inj hh).symm
        have := scan_errs _ _ (by rw [hh]; exact hr)
        rw [hh] at this; exact this
      subst hnil
      show (if (0 : Int) = 0 then if (n : Int) ≥ 0 then some (decide ((n : Int) < (a0.size : Int))) else some false else some false) = some true
      rw [if_pos rfl, if_pos (by omega), decide_eq_true (by omega)]
end Go.Proofs.YtmndicibakaceaaDoor.Pr
