/- The contract of lexer.next, continued: printed by a program of this work's own (wip/genN.py). -/
import Derived.Test.YtmndicibakaceaaDoorExtNt
namespace Go.Proofs.YtmndicibakaceaaDoor.Pr
open Go.RowKit Go.Proofs.YtmndicibakaceaaDoorW.PrintWords Go.Proofs.YtmndicibakaceaaDoorW.PrintLast Go.Proofs.YtmndicibakaceaaDoorW.PrintMore
theorem symbolOf_size (s : ByteArray) : (symbolOf s).size ≤ 3 := by
  unfold symbolOf
  split
  · rename_i x hx
    have hm := List.mem_of_find?_eq_some hx
    have hall : ∀ x ∈ longSyms, x.size ≤ 3 := by decide
    exact hall x hm
  · split
    · rw [ByteArray.size_extract]; omega
    · exact Nat.zero_le _
theorem symbol_some (s : ByteArray) (h : s.size ≤ 1000000000) : lexer_symbol.f s = some (symbolOf s) := by
  unfold lexer_symbol.f; rw [if_pos (by omega)]
theorem eq_empty_of_size {s : ByteArray} (h : s.size = 0) : s = ⟨#[]⟩ := by
  apply ByteArray.ext
  exact Array.eq_empty_of_size_eq_zero h
set_option maxHeartbeats 4000000 in
set_option maxRecDepth 100000 in
theorem next_symbol (s : ByteArray) (i : Nat) (w : World) (hs : s.size ≤ 1000000000) (h1 : i < s.size) (hc1 : isSmall (bt s i) = false) (hc2 : isCapital (bt s i) = false) (hc3 : isDigit (bt s i) = false) (hc4 : bt s i ≠ 34) (t : S36) (e r : Int) (ht : nextTok s i = (t, e, r)) :
    Calls Tryd.prog 62 #[.string s, .int .i64 i] w fun e' w' => e' = .returned (.tuple #[.agg #[.int .i64 t.f0, .string t.f1, .int .i64 t.f2], .int .i64 e, .int .i64 r]) ∧ Below w.heap.size w w' := by
  have hx := bt_natL s i
  unfold nextTok at ht
  rw [hc1, hc2, hc3] at ht
  simp only [Bool.or_self, Bool.false_eq_true, if_false] at ht
  rw [if_neg hc4] at ht
  have HS := Aside0.mk (small_some (bt s i))
  have HCp := Aside0.mk (capital_some (bt s i))
  have HDg := Aside0.mk (digit_some (bt s i))
  rw [hc1] at HS
  rw [hc2] at HCp
  rw [hc3] at HDg
  have g34 : (bt s i == 34) = false := beq_eq_false_iff_ne.2 hc4
  have hyz := ext_size s i s.size (Nat.le_refl _)
  have HSy := Aside0.mk (symbol_some (s.extract i s.size) (by omega))
  have hle := symbolOf_size (s.extract i s.size)
  clear hc1 hc2 hc3 hc4
  generalize symbolOf (s.extract i s.size) = y at *
  by_cases h0 : y.size = 0
  · rw [if_pos h0] at ht
    have HT := Aside0.mk (show _ ∧ _ ∧ _ from ⟨congrArg (·.1) ht, congrArg (·.2.1) ht, congrArg (·.2.2) ht⟩)
    have hy0 : y = ⟨#[]⟩ := eq_empty_of_size h0
    have hy1 : y.toList = ([] : List UInt8) := (toList_nil_iff y).2 h0
    clear ht h0 hy0
    go_enter Tryd.func62, Tryd.ntmps62
    go_wp2_with (first | (go_at_call 40; (with_reducible refine (lexer_small.calls _ _ _ HS.out).mono ?_); rintro e w' ⟨rfl, ⟨nd, rfl⟩⟩) | (go_at_call 51; (with_reducible refine (lexer_capital.calls _ _ _ HCp.out).mono ?_); rintro e w' ⟨rfl, ⟨nd, rfl⟩⟩) | (go_at_call 41; (with_reducible refine (lexer_digit.calls _ _ _ HDg.out).mono ?_); rintro e w' ⟨rfl, ⟨nd, rfl⟩⟩) | (go_at_call 76; (with_reducible refine (lexer_symbol.calls _ _ _ HSy.out).mono ?_); rintro e w2 ⟨rfl, hb2⟩; have hT : w2.heap[w.heap.size + 1]? = some (.cells #[.int .i64 0, .string ⟨#[]⟩, .int .i64 i] 36 (0, 0)) := blk_below (by (with_reducible repeat (first | refine blk_drewN ?_ _ | refine blk_drew ?_)); exact blk_new2 _ _ _) hb2; have hR : w2.heap[w.heap.size]? = some (.cells #[.int .i64 0, .string ⟨#[]⟩, .int .i64 0] 36 (0, 0)) := blk_below (by (with_reducible repeat (first | exact blk_new _ _ | refine blk_drewN ?_ _ | refine blk_drew ?_ | refine blk_far ?_ (Nat.ne_of_lt (Nat.lt_succ_self _)) _ | refine blk_alloc ?_ _))) hb2; have chT0 := blk_cell hT 0; have fhT0 := blk_frozen hT 0; simp only [List.getElem?_toArray, List.getElem?_cons_zero, List.getElem?_cons_succ] at chT0; have chT1 := blk_cell hT 1; have fhT1 := blk_frozen hT 1; simp only [List.getElem?_toArray, List.getElem?_cons_zero, List.getElem?_cons_succ] at chT1; have chT2 := blk_cell hT 2; have fhT2 := blk_frozen hT 2; simp only [List.getElem?_toArray, List.getElem?_cons_zero, List.getElem?_cons_succ] at chT2; have chR0 := blk_cell hR 0; have fhR0 := blk_frozen hR 0; simp only [List.getElem?_toArray, List.getElem?_cons_zero, List.getElem?_cons_succ] at chR0; have chR1 := blk_cell hR 1; have fhR1 := blk_frozen hR 1; simp only [List.getElem?_toArray, List.getElem?_cons_zero, List.getElem?_cons_succ] at chR1; have chR2 := blk_cell hR 2; have fhR2 := blk_frozen hR 2; simp only [List.getElem?_toArray, List.getElem?_cons_zero, List.getElem?_cons_succ] at chR2; have HB2 := Aside0.mk (Below.trans (B := w.heap.size) (a := w) (by repeat (first | (with_reducible exact Below.refl _ _) | (with_reducible apply pw_below_drewN) | (with_reducible apply below_drew1) | (with_reducible apply below_alloc) | (with_reducible refine below_set ?_ ?hb _; case hb => omega))) (hb2.mono (by simp <;> omega))); have HR := Aside0.mk hR; clear hb2 hT hR))
    refine bodyPost_ret (results_ctt rfl _ _ w.heap.size 36 #[.int .i64 6, .string y, .int .i64 i] (0, 0) _ rfl (by (with_reducible repeat (first | refine blk_drewN ?_ _ | refine blk_drew ?_ | refine blk_alloc ?_ _)); refine blk_put (cs := #[.int .i64 6, .string y, .int .i64 0]) ?_ 2 _ rfl; (with_reducible repeat (first | refine blk_drewN ?_ _ | refine blk_drew ?_ | refine blk_alloc ?_ _)); refine blk_put (cs := #[.int .i64 6, .string ⟨#[]⟩, .int .i64 0]) ?_ 1 _ rfl; (with_reducible repeat (first | refine blk_drewN ?_ _ | refine blk_drew ?_ | refine blk_alloc ?_ _)); refine blk_put (cs := #[.int .i64 0, .string ⟨#[]⟩, .int .i64 0]) ?_ 0 _ rfl; (with_reducible repeat (first | exact HR.out | refine blk_drewN ?_ _ | refine blk_drew ?_ | refine blk_far ?_ (Nat.ne_of_lt (Nat.lt_succ_self _)) _ | refine blk_alloc ?_ _))) Tryd.underlying36 rfl (by kernel_rfl)) rfl ⟨?_, ?_⟩
    · obtain ⟨rfl, rfl, rfl⟩ := HT.out
      rfl
    · repeat (first | (with_reducible exact HB2.out) | (with_reducible apply pw_below_drewN) | (with_reducible apply below_drew1) | (with_reducible apply below_alloc) | (with_reducible refine below_set ?_ ?hb _; case hb => omega))
  · rw [if_neg h0] at ht
    have HT := Aside0.mk (show _ ∧ _ ∧ _ from ⟨congrArg (·.1) ht, congrArg (·.2.1) ht, congrArg (·.2.2) ht⟩)
    have hy1 : y.toList.isEmpty = false := ne_isEmpty (by omega)
    clear ht h0
    go_enter Tryd.func62, Tryd.ntmps62
    go_wp2_with (first | (go_at_call 40; (with_reducible refine (lexer_small.calls _ _ _ HS.out).mono ?_); rintro e w' ⟨rfl, ⟨nd, rfl⟩⟩) | (go_at_call 51; (with_reducible refine (lexer_capital.calls _ _ _ HCp.out).mono ?_); rintro e w' ⟨rfl, ⟨nd, rfl⟩⟩) | (go_at_call 41; (with_reducible refine (lexer_digit.calls _ _ _ HDg.out).mono ?_); rintro e w' ⟨rfl, ⟨nd, rfl⟩⟩) | (go_at_call 76; (with_reducible refine (lexer_symbol.calls _ _ _ HSy.out).mono ?_); rintro e w2 ⟨rfl, hb2⟩; have hT : w2.heap[w.heap.size + 1]? = some (.cells #[.int .i64 0, .string ⟨#[]⟩, .int .i64 i] 36 (0, 0)) := blk_below (by (with_reducible repeat (first | refine blk_drewN ?_ _ | refine blk_drew ?_)); exact blk_new2 _ _ _) hb2; have hR : w2.heap[w.heap.size]? = some (.cells #[.int .i64 0, .string ⟨#[]⟩, .int .i64 0] 36 (0, 0)) := blk_below (by (with_reducible repeat (first | exact blk_new _ _ | refine blk_drewN ?_ _ | refine blk_drew ?_ | refine blk_far ?_ (Nat.ne_of_lt (Nat.lt_succ_self _)) _ | refine blk_alloc ?_ _))) hb2; have chT0 := blk_cell hT 0; have fhT0 := blk_frozen hT 0; simp only [List.getElem?_toArray, List.getElem?_cons_zero, List.getElem?_cons_succ] at chT0; have chT1 := blk_cell hT 1; have fhT1 := blk_frozen hT 1; simp only [List.getElem?_toArray, List.getElem?_cons_zero, List.getElem?_cons_succ] at chT1; have chT2 := blk_cell hT 2; have fhT2 := blk_frozen hT 2; simp only [List.getElem?_toArray, List.getElem?_cons_zero, List.getElem?_cons_succ] at chT2; have chR0 := blk_cell hR 0; have fhR0 := blk_frozen hR 0; simp only [List.getElem?_toArray, List.getElem?_cons_zero, List.getElem?_cons_succ] at chR0; have chR1 := blk_cell hR 1; have fhR1 := blk_frozen hR 1; simp only [List.getElem?_toArray, List.getElem?_cons_zero, List.getElem?_cons_succ] at chR1; have chR2 := blk_cell hR 2; have fhR2 := blk_frozen hR 2; simp only [List.getElem?_toArray, List.getElem?_cons_zero, List.getElem?_cons_succ] at chR2; have HB2 := Aside0.mk (Below.trans (B := w.heap.size) (a := w) (by repeat (first | (with_reducible exact Below.refl _ _) | (with_reducible apply pw_below_drewN) | (with_reducible apply below_drew1) | (with_reducible apply below_alloc) | (with_reducible refine below_set ?_ ?hb _; case hb => omega))) (hb2.mono (by simp <;> omega))); have HR := Aside0.mk hR; clear hb2 hT hR))
    go_region
    go_wp2_with (first | (go_at_call 40; (with_reducible refine (lexer_small.calls _ _ _ HS.out).mono ?_); rintro e w' ⟨rfl, ⟨nd, rfl⟩⟩) | (go_at_call 51; (with_reducible refine (lexer_capital.calls _ _ _ HCp.out).mono ?_); rintro e w' ⟨rfl, ⟨nd, rfl⟩⟩) | (go_at_call 41; (with_reducible refine (lexer_digit.calls _ _ _ HDg.out).mono ?_); rintro e w' ⟨rfl, ⟨nd, rfl⟩⟩) | (go_at_call 76; (with_reducible refine (lexer_symbol.calls _ _ _ HSy.out).mono ?_); rintro e w2 ⟨rfl, hb2⟩; have hT : w2.heap[w.heap.size + 1]? = some (.cells #[.int .i64 0, .string ⟨#[]⟩, .int .i64 i] 36 (0, 0)) := blk_below (by (with_reducible repeat (first | refine blk_drewN ?_ _ | refine blk_drew ?_)); exact blk_new2 _ _ _) hb2; have hR : w2.heap[w.heap.size]? = some (.cells #[.int .i64 0, .string ⟨#[]⟩, .int .i64 0] 36 (0, 0)) := blk_below (by (with_reducible repeat (first | exact blk_new _ _ | refine blk_drewN ?_ _ | refine blk_drew ?_ | refine blk_far ?_ (Nat.ne_of_lt (Nat.lt_succ_self _)) _ | refine blk_alloc ?_ _))) hb2; have chT0 := blk_cell hT 0; have fhT0 := blk_frozen hT 0; simp only [List.getElem?_toArray, List.getElem?_cons_zero, List.getElem?_cons_succ] at chT0; have chT1 := blk_cell hT 1; have fhT1 := blk_frozen hT 1; simp only [List.getElem?_toArray, List.getElem?_cons_zero, List.getElem?_cons_succ] at chT1; have chT2 := blk_cell hT 2; have fhT2 := blk_frozen hT 2; simp only [List.getElem?_toArray, List.getElem?_cons_zero, List.getElem?_cons_succ] at chT2; have chR0 := blk_cell hR 0; have fhR0 := blk_frozen hR 0; simp only [List.getElem?_toArray, List.getElem?_cons_zero, List.getElem?_cons_succ] at chR0; have chR1 := blk_cell hR 1; have fhR1 := blk_frozen hR 1; simp only [List.getElem?_toArray, List.getElem?_cons_zero, List.getElem?_cons_succ] at chR1; have chR2 := blk_cell hR 2; have fhR2 := blk_frozen hR 2; simp only [List.getElem?_toArray, List.getElem?_cons_zero, List.getElem?_cons_succ] at chR2; have HB2 := Aside0.mk (Below.trans (B := w.heap.size) (a := w) (by repeat (first | (with_reducible exact Below.refl _ _) | (with_reducible apply pw_below_drewN) | (with_reducible apply below_drew1) | (with_reducible apply below_alloc) | (with_reducible refine below_set ?_ ?hb _; case hb => omega))) (hb2.mono (by simp <;> omega))); have HR := Aside0.mk hR; clear hb2 hT hR))
    refine bodyPost_ret (results_ctt rfl _ _ w.heap.size 36 #[.int .i64 6, .string y, .int .i64 i] (0, 0) _ rfl (by (with_reducible repeat (first | refine blk_drewN ?_ _ | refine blk_drew ?_ | refine blk_alloc ?_ _)); refine blk_put (cs := #[.int .i64 6, .string y, .int .i64 0]) ?_ 2 _ rfl; (with_reducible repeat (first | refine blk_drewN ?_ _ | refine blk_drew ?_ | refine blk_alloc ?_ _)); refine blk_put (cs := #[.int .i64 6, .string ⟨#[]⟩, .int .i64 0]) ?_ 1 _ rfl; (with_reducible repeat (first | refine blk_drewN ?_ _ | refine blk_drew ?_ | refine blk_alloc ?_ _)); refine blk_put (cs := #[.int .i64 0, .string ⟨#[]⟩, .int .i64 0]) ?_ 0 _ rfl; (with_reducible repeat (first | exact HR.out | refine blk_drewN ?_ _ | refine blk_drew ?_ | refine blk_far ?_ (Nat.ne_of_lt (Nat.lt_succ_self _)) _ | refine blk_alloc ?_ _))) Tryd.underlying36 rfl (by kernel_rfl)) rfl ⟨?_, ?_⟩
    · obtain ⟨rfl, rfl, rfl⟩ := HT.out
      rfl
    · repeat (first | (with_reducible exact HB2.out) | (with_reducible apply pw_below_drewN) | (with_reducible apply below_drew1) | (with_reducible apply below_alloc) | (with_reducible refine below_set ?_ ?hb _; case hb => omega))
end Go.Proofs.YtmndicibakaceaaDoor.Pr
