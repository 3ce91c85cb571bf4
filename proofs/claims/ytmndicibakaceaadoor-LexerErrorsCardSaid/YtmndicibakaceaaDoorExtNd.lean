/- The contract of lexer.next, continued: printed by a program of this work's own (wip/genN.py). -/
import Derived.Test.YtmndicibakaceaaDoorExtN
namespace Go.Proofs.YtmndicibakaceaaDoor.Pr
open Go.RowKit Go.Proofs.YtmndicibakaceaaDoorW.PrintWords Go.Proofs.YtmndicibakaceaaDoorW.PrintLast Go.Proofs.YtmndicibakaceaaDoorW.PrintMore
set_option maxHeartbeats 4000000 in
set_option maxRecDepth 100000 in
theorem next_digit (s : ByteArray) (i : Nat) (w : World) (hs : s.size ≤ 1000000000) (h1 : i < s.size) (hc1 : isSmall (bt s i) = false) (hc2 : isCapital (bt s i) = false) (hc3 : isDigit (bt s i) = true) (t : S36) (e r : Int) (ht : nextTok s i = (t, e, r)) :
    Calls Tryd.prog 62 #[.string s, .int .i64 i] w fun e' w' => e' = .returned (.tuple #[.agg #[.int .i64 t.f0, .string t.f1, .int .i64 t.f2], .int .i64 e, .int .i64 r]) ∧ Below w.heap.size w w' := by
  have hx := bt_natL s i
  have hg := runEnd_ge isDigit s i
  have hl := runEnd_le isDigit s i (by omega)
  have HSP := Aside0.mk (show lexer_span_digit.f s i = some ((runEnd isDigit s i : Nat) : Int) from by
    unfold lexer_span_digit.f; rw [if_pos ⟨by omega, by omega, by omega⟩, runEnd_cast]; rfl)
  unfold nextTok at ht
  rw [hc1, hc2] at ht
  simp only [Bool.or_self, Bool.false_eq_true, if_false] at ht
  rw [if_pos hc3] at ht
  have HS := Aside0.mk (small_some (bt s i))
  have HCp := Aside0.mk (capital_some (bt s i))
  have HDg := Aside0.mk (digit_some (bt s i))
  generalize runEnd isDigit s i = n at *
  rw [hc1] at HS
  rw [hc2] at HCp
  rw [hc3] at HDg
  clear hc1 hc2 hc3
  have hxn := bt_natL s n
  have HW := Aside0.mk (word_some (bt s n))
  have hni : (((n - i : Nat)) : Int) = (n : Int) - (i : Int) := by omega
  by_cases g19 : 19 < n - i
  · rw [if_pos (Or.inl g19)] at ht
    have HT := Aside0.mk (show _ ∧ _ ∧ _ from ⟨congrArg (·.1) ht, congrArg (·.2.1) ht, congrArg (·.2.2) ht⟩)
    have g19a : decide (19 < n - i) = true := decide_eq_true g19
    have g19b : decide ((19 : Int) < (((n - i : Nat)) : Int)) = true := decide_eq_true (by omega)
    clear ht g19 hni
    go_enter Tryd.func62, Tryd.ntmps62
    go_wp2_with (first | (go_at_call 40; (with_reducible refine (lexer_small.calls _ _ _ HS.out).mono ?_); rintro e w' ⟨rfl, ⟨nd, rfl⟩⟩) | (go_at_call 51; (with_reducible refine (lexer_capital.calls _ _ _ HCp.out).mono ?_); rintro e w' ⟨rfl, ⟨nd, rfl⟩⟩) | (go_at_call 41; (with_reducible refine (lexer_digit.calls _ _ _ HDg.out).mono ?_); rintro e w' ⟨rfl, ⟨nd, rfl⟩⟩) | (go_at_call 74; (with_reducible refine (lexer_span_digit.calls _ _ _ _ HSP.out).mono ?_); rintro e w' ⟨rfl, ⟨nd, rfl⟩⟩))
    go_region
    go_wp2_with (first | (go_at_call 40; (with_reducible refine (lexer_small.calls _ _ _ HS.out).mono ?_); rintro e w' ⟨rfl, ⟨nd, rfl⟩⟩) | (go_at_call 51; (with_reducible refine (lexer_capital.calls _ _ _ HCp.out).mono ?_); rintro e w' ⟨rfl, ⟨nd, rfl⟩⟩) | (go_at_call 41; (with_reducible refine (lexer_digit.calls _ _ _ HDg.out).mono ?_); rintro e w' ⟨rfl, ⟨nd, rfl⟩⟩) | (go_at_call 74; (with_reducible refine (lexer_span_digit.calls _ _ _ _ HSP.out).mono ?_); rintro e w' ⟨rfl, ⟨nd, rfl⟩⟩))
    refine bodyPost_ret (results_ctt rfl _ _ w.heap.size 36 #[.int .i64 3, .string (s.extract i n), .int .i64 i] (0, 0) _ rfl (by (with_reducible repeat (first | refine blk_drewN ?_ _ | refine blk_drew ?_ | refine blk_alloc ?_ _)); refine blk_put (cs := #[.int .i64 3, .string (s.extract i n), .int .i64 0]) ?_ 2 _ rfl; (with_reducible repeat (first | refine blk_drewN ?_ _ | refine blk_drew ?_ | refine blk_alloc ?_ _)); refine blk_put (cs := #[.int .i64 3, .string ⟨#[]⟩, .int .i64 0]) ?_ 1 _ rfl; (with_reducible repeat (first | refine blk_drewN ?_ _ | refine blk_drew ?_ | refine blk_alloc ?_ _)); refine blk_put (cs := #[.int .i64 0, .string ⟨#[]⟩, .int .i64 0]) ?_ 0 _ rfl; (with_reducible repeat (first | exact blk_new _ _ | refine blk_drewN ?_ _ | refine blk_drew ?_ | refine blk_far ?_ (Nat.ne_of_lt (Nat.lt_succ_self _)) _ | refine blk_alloc ?_ _))) Tryd.underlying36 rfl (by kernel_rfl)) rfl ⟨?_, ?_⟩
    · obtain ⟨rfl, rfl, rfl⟩ := HT.out
      rfl
    · repeat (first | (with_reducible exact Below.refl _ _) | (with_reducible apply pw_below_drewN) | (with_reducible apply below_drew1) | (with_reducible apply below_alloc) | (with_reducible refine below_set ?_ ?hb _; case hb => omega))
  · have g19a : decide (19 < n - i) = false := decide_eq_false g19
    have g19b : decide ((19 : Int) < (((n - i : Nat)) : Int)) = false := decide_eq_false (by omega)
    by_cases g0 : 1 < n - i ∧ bt s i = 48
    · rw [if_pos (Or.inr (Or.inl g0))] at ht
      have HT := Aside0.mk (show _ ∧ _ ∧ _ from ⟨congrArg (·.1) ht, congrArg (·.2.1) ht, congrArg (·.2.2) ht⟩)
      have g1a : decide (1 < n - i) = true := decide_eq_true g0.1
      have g1b : decide ((1 : Int) < (((n - i : Nat)) : Int)) = true := decide_eq_true (by omega)
      have g48 : (bt s i == 48) = true := beq_iff_eq.2 g0.2
      clear ht g19 g0 hni
      go_enter Tryd.func62, Tryd.ntmps62
      go_wp2_with (first | (go_at_call 40; (with_reducible refine (lexer_small.calls _ _ _ HS.out).mono ?_); rintro e w' ⟨rfl, ⟨nd, rfl⟩⟩) | (go_at_call 51; (with_reducible refine (lexer_capital.calls _ _ _ HCp.out).mono ?_); rintro e w' ⟨rfl, ⟨nd, rfl⟩⟩) | (go_at_call 41; (with_reducible refine (lexer_digit.calls _ _ _ HDg.out).mono ?_); rintro e w' ⟨rfl, ⟨nd, rfl⟩⟩) | (go_at_call 74; (with_reducible refine (lexer_span_digit.calls _ _ _ _ HSP.out).mono ?_); rintro e w' ⟨rfl, ⟨nd, rfl⟩⟩))
      go_region
      go_wp2_with (first | (go_at_call 40; (with_reducible refine (lexer_small.calls _ _ _ HS.out).mono ?_); rintro e w' ⟨rfl, ⟨nd, rfl⟩⟩) | (go_at_call 51; (with_reducible refine (lexer_capital.calls _ _ _ HCp.out).mono ?_); rintro e w' ⟨rfl, ⟨nd, rfl⟩⟩) | (go_at_call 41; (with_reducible refine (lexer_digit.calls _ _ _ HDg.out).mono ?_); rintro e w' ⟨rfl, ⟨nd, rfl⟩⟩) | (go_at_call 74; (with_reducible refine (lexer_span_digit.calls _ _ _ _ HSP.out).mono ?_); rintro e w' ⟨rfl, ⟨nd, rfl⟩⟩))
      refine bodyPost_ret (results_ctt rfl _ _ w.heap.size 36 #[.int .i64 3, .string (s.extract i n), .int .i64 i] (0, 0) _ rfl (by (with_reducible repeat (first | refine blk_drewN ?_ _ | refine blk_drew ?_ | refine blk_alloc ?_ _)); refine blk_put (cs := #[.int .i64 3, .string (s.extract i n), .int .i64 0]) ?_ 2 _ rfl; (with_reducible repeat (first | refine blk_drewN ?_ _ | refine blk_drew ?_ | refine blk_alloc ?_ _)); refine blk_put (cs := #[.int .i64 3, .string ⟨#[]⟩, .int .i64 0]) ?_ 1 _ rfl; (with_reducible repeat (first | refine blk_drewN ?_ _ | refine blk_drew ?_ | refine blk_alloc ?_ _)); refine blk_put (cs := #[.int .i64 0, .string ⟨#[]⟩, .int .i64 0]) ?_ 0 _ rfl; (with_reducible repeat (first | exact blk_new _ _ | refine blk_drewN ?_ _ | refine blk_drew ?_ | refine blk_far ?_ (Nat.ne_of_lt (Nat.lt_succ_self _)) _ | refine blk_alloc ?_ _))) Tryd.underlying36 rfl (by kernel_rfl)) rfl ⟨?_, ?_⟩
      · obtain ⟨rfl, rfl, rfl⟩ := HT.out
        rfl
      · repeat (first | (with_reducible exact Below.refl _ _) | (with_reducible apply pw_below_drewN) | (with_reducible apply below_drew1) | (with_reducible apply below_alloc) | (with_reducible refine below_set ?_ ?hb _; case hb => omega))
    · have hcase : (decide (1 < n - i) = false ∧ decide ((1 : Int) < (((n - i : Nat)) : Int)) = false) ∨ (decide (1 < n - i) = true ∧ decide ((1 : Int) < (((n - i : Nat)) : Int)) = true ∧ (bt s i == 48) = false) := by
        by_cases h : 1 < n - i
        · exact .inr ⟨decide_eq_true h, decide_eq_true (by omega), beq_eq_false_iff_ne.2 (fun e => g0 ⟨h, e⟩)⟩
        · exact .inl ⟨decide_eq_false h, decide_eq_false (by omega)⟩
      by_cases ge : n < s.size
      · have gea : decide (n < s.size) = true := decide_eq_true ge
        have geb : decide ((n : Int) < (s.size : Int)) = true := decide_eq_true (by omega)
        cases hw : isWord (bt s n) with
        | true =>
          rw [if_pos (Or.inr (Or.inr ⟨ge, hw⟩))] at ht
          have HT := Aside0.mk (show _ ∧ _ ∧ _ from ⟨congrArg (·.1) ht, congrArg (·.2.1) ht, congrArg (·.2.2) ht⟩)
          rw [hw] at HW
          clear ht g19 g0 hni hw
          rcases hcase with ⟨g1a, g1b⟩ | ⟨g1a, g1b, g48⟩
          · go_enter Tryd.func62, Tryd.ntmps62
            go_wp2_with (first | (go_at_call 40; (with_reducible refine (lexer_small.calls _ _ _ HS.out).mono ?_); rintro e w' ⟨rfl, ⟨nd, rfl⟩⟩) | (go_at_call 51; (with_reducible refine (lexer_capital.calls _ _ _ HCp.out).mono ?_); rintro e w' ⟨rfl, ⟨nd, rfl⟩⟩) | (go_at_call 41; (with_reducible refine (lexer_digit.calls _ _ _ HDg.out).mono ?_); rintro e w' ⟨rfl, ⟨nd, rfl⟩⟩) | (go_at_call 74; (with_reducible refine (lexer_span_digit.calls _ _ _ _ HSP.out).mono ?_); rintro e w' ⟨rfl, ⟨nd, rfl⟩⟩) | (go_at_call 45; (with_reducible refine (lexer_word.calls _ _ _ HW.out).mono ?_); rintro e w' ⟨rfl, ⟨nd, rfl⟩⟩))
            go_region
            go_wp2_with (first | (go_at_call 40; (with_reducible refine (lexer_small.calls _ _ _ HS.out).mono ?_); rintro e w' ⟨rfl, ⟨nd, rfl⟩⟩) | (go_at_call 51; (with_reducible refine (lexer_capital.calls _ _ _ HCp.out).mono ?_); rintro e w' ⟨rfl, ⟨nd, rfl⟩⟩) | (go_at_call 41; (with_reducible refine (lexer_digit.calls _ _ _ HDg.out).mono ?_); rintro e w' ⟨rfl, ⟨nd, rfl⟩⟩) | (go_at_call 74; (with_reducible refine (lexer_span_digit.calls _ _ _ _ HSP.out).mono ?_); rintro e w' ⟨rfl, ⟨nd, rfl⟩⟩) | (go_at_call 45; (with_reducible refine (lexer_word.calls _ _ _ HW.out).mono ?_); rintro e w' ⟨rfl, ⟨nd, rfl⟩⟩))
            refine bodyPost_ret (results_ctt rfl _ _ w.heap.size 36 #[.int .i64 3, .string (s.extract i n), .int .i64 i] (0, 0) _ rfl (by (with_reducible repeat (first | refine blk_drewN ?_ _ | refine blk_drew ?_ | refine blk_alloc ?_ _)); refine blk_put (cs := #[.int .i64 3, .string (s.extract i n), .int .i64 0]) ?_ 2 _ rfl; (with_reducible repeat (first | refine blk_drewN ?_ _ | refine blk_drew ?_ | refine blk_alloc ?_ _)); refine blk_put (cs := #[.int .i64 3, .string ⟨#[]⟩, .int .i64 0]) ?_ 1 _ rfl; (with_reducible repeat (first | refine blk_drewN ?_ _ | refine blk_drew ?_ | refine blk_alloc ?_ _)); refine blk_put (cs := #[.int .i64 0, .string ⟨#[]⟩, .int .i64 0]) ?_ 0 _ rfl; (with_reducible repeat (first | exact blk_new _ _ | refine blk_drewN ?_ _ | refine blk_drew ?_ | refine blk_far ?_ (Nat.ne_of_lt (Nat.lt_succ_self _)) _ | refine blk_alloc ?_ _))) Tryd.underlying36 rfl (by kernel_rfl)) rfl ⟨?_, ?_⟩
            · obtain ⟨rfl, rfl, rfl⟩ := HT.out
              rfl
            · repeat (first | (with_reducible exact Below.refl _ _) | (with_reducible apply pw_below_drewN) | (with_reducible apply below_drew1) | (with_reducible apply below_alloc) | (with_reducible refine below_set ?_ ?hb _; case hb => omega))
          · go_enter Tryd.func62, Tryd.ntmps62
            go_wp2_with (first | (go_at_call 40; (with_reducible refine (lexer_small.calls _ _ _ HS.out).mono ?_); rintro e w' ⟨rfl, ⟨nd, rfl⟩⟩) | (go_at_call 51; (with_reducible refine (lexer_capital.calls _ _ _ HCp.out).mono ?_); rintro e w' ⟨rfl, ⟨nd, rfl⟩⟩) | (go_at_call 41; (with_reducible refine (lexer_digit.calls _ _ _ HDg.out).mono ?_); rintro e w' ⟨rfl, ⟨nd, rfl⟩⟩) | (go_at_call 74; (with_reducible refine (lexer_span_digit.calls _ _ _ _ HSP.out).mono ?_); rintro e w' ⟨rfl, ⟨nd, rfl⟩⟩) | (go_at_call 45; (with_reducible refine (lexer_word.calls _ _ _ HW.out).mono ?_); rintro e w' ⟨rfl, ⟨nd, rfl⟩⟩))
            go_region
            go_wp2_with (first | (go_at_call 40; (with_reducible refine (lexer_small.calls _ _ _ HS.out).mono ?_); rintro e w' ⟨rfl, ⟨nd, rfl⟩⟩) | (go_at_call 51; (with_reducible refine (lexer_capital.calls _ _ _ HCp.out).mono ?_); rintro e w' ⟨rfl, ⟨nd, rfl⟩⟩) | (go_at_call 41; (with_reducible refine (lexer_digit.calls _ _ _ HDg.out).mono ?_); rintro e w' ⟨rfl, ⟨nd, rfl⟩⟩) | (go_at_call 74; (with_reducible refine (lexer_span_digit.calls _ _ _ _ HSP.out).mono ?_); rintro e w' ⟨rfl, ⟨nd, rfl⟩⟩) | (go_at_call 45; (with_reducible refine (lexer_word.calls _ _ _ HW.out).mono ?_); rintro e w' ⟨rfl, ⟨nd, rfl⟩⟩))
            refine bodyPost_ret (results_ctt rfl _ _ w.heap.size 36 #[.int .i64 3, .string (s.extract i n), .int .i64 i] (0, 0) _ rfl (by (with_reducible repeat (first | refine blk_drewN ?_ _ | refine blk_drew ?_ | refine blk_alloc ?_ _)); refine blk_put (cs := #[.int .i64 3, .string (s.extract i n), .int .i64 0]) ?_ 2 _ rfl; (with_reducible repeat (first | refine blk_drewN ?_ _ | refine blk_drew ?_ | refine blk_alloc ?_ _)); refine blk_put (cs := #[.int .i64 3, .string ⟨#[]⟩, .int .i64 0]) ?_ 1 _ rfl; (with_reducible repeat (first | refine blk_drewN ?_ _ | refine blk_drew ?_ | refine blk_alloc ?_ _)); refine blk_put (cs := #[.int .i64 0, .string ⟨#[]⟩, .int .i64 0]) ?_ 0 _ rfl; (with_reducible repeat (first | exact blk_new _ _ | refine blk_drewN ?_ _ | refine blk_drew ?_ | refine blk_far ?_ (Nat.ne_of_lt (Nat.lt_succ_self _)) _ | refine blk_alloc ?_ _))) Tryd.underlying36 rfl (by kernel_rfl)) rfl ⟨?_, ?_⟩
            · obtain ⟨rfl, rfl, rfl⟩ := HT.out
              rfl
            · repeat (first | (with_reducible exact Below.refl _ _) | (with_reducible apply pw_below_drewN) | (with_reducible apply below_drew1) | (with_reducible apply below_alloc) | (with_reducible refine below_set ?_ ?hb _; case hb => omega))
        | false =>
          rw [if_neg (by rintro (h | h | h) <;> first | exact g19 h | exact g0 h | (rw [hw] at h; exact absurd h.2 (by simp)))] at ht
          have HT := Aside0.mk (show _ ∧ _ ∧ _ from ⟨congrArg (·.1) ht, congrArg (·.2.1) ht, congrArg (·.2.2) ht⟩)
          rw [hw] at HW
          clear ht g19 g0 hni hw
          rcases hcase with ⟨g1a, g1b⟩ | ⟨g1a, g1b, g48⟩
          · go_enter Tryd.func62, Tryd.ntmps62
            go_wp2_with (first | (go_at_call 40; (with_reducible refine (lexer_small.calls _ _ _ HS.out).mono ?_); rintro e w' ⟨rfl, ⟨nd, rfl⟩⟩) | (go_at_call 51; (with_reducible refine (lexer_capital.calls _ _ _ HCp.out).mono ?_); rintro e w' ⟨rfl, ⟨nd, rfl⟩⟩) | (go_at_call 41; (with_reducible refine (lexer_digit.calls _ _ _ HDg.out).mono ?_); rintro e w' ⟨rfl, ⟨nd, rfl⟩⟩) | (go_at_call 74; (with_reducible refine (lexer_span_digit.calls _ _ _ _ HSP.out).mono ?_); rintro e w' ⟨rfl, ⟨nd, rfl⟩⟩) | (go_at_call 45; (with_reducible refine (lexer_word.calls _ _ _ HW.out).mono ?_); rintro e w' ⟨rfl, ⟨nd, rfl⟩⟩))
            go_region
            go_wp2_with (first | (go_at_call 40; (with_reducible refine (lexer_small.calls _ _ _ HS.out).mono ?_); rintro e w' ⟨rfl, ⟨nd, rfl⟩⟩) | (go_at_call 51; (with_reducible refine (lexer_capital.calls _ _ _ HCp.out).mono ?_); rintro e w' ⟨rfl, ⟨nd, rfl⟩⟩) | (go_at_call 41; (with_reducible refine (lexer_digit.calls _ _ _ HDg.out).mono ?_); rintro e w' ⟨rfl, ⟨nd, rfl⟩⟩) | (go_at_call 74; (with_reducible refine (lexer_span_digit.calls _ _ _ _ HSP.out).mono ?_); rintro e w' ⟨rfl, ⟨nd, rfl⟩⟩) | (go_at_call 45; (with_reducible refine (lexer_word.calls _ _ _ HW.out).mono ?_); rintro e w' ⟨rfl, ⟨nd, rfl⟩⟩))
            refine bodyPost_ret (results_ctt rfl _ _ w.heap.size 36 #[.int .i64 3, .string (s.extract i n), .int .i64 i] (0, 0) _ rfl (by (with_reducible repeat (first | refine blk_drewN ?_ _ | refine blk_drew ?_ | refine blk_alloc ?_ _)); refine blk_put (cs := #[.int .i64 3, .string (s.extract i n), .int .i64 0]) ?_ 2 _ rfl; (with_reducible repeat (first | refine blk_drewN ?_ _ | refine blk_drew ?_ | refine blk_alloc ?_ _)); refine blk_put (cs := #[.int .i64 3, .string ⟨#[]⟩, .int .i64 0]) ?_ 1 _ rfl; (with_reducible repeat (first | refine blk_drewN ?_ _ | refine blk_drew ?_ | refine blk_alloc ?_ _)); refine blk_put (cs := #[.int .i64 0, .string ⟨#[]⟩, .int .i64 0]) ?_ 0 _ rfl; (with_reducible repeat (first | exact blk_new _ _ | refine blk_drewN ?_ _ | refine blk_drew ?_ | refine blk_far ?_ (Nat.ne_of_lt (Nat.lt_succ_self _)) _ | refine blk_alloc ?_ _))) Tryd.underlying36 rfl (by kernel_rfl)) rfl ⟨?_, ?_⟩
            · obtain ⟨rfl, rfl, rfl⟩ := HT.out
              rfl
            · repeat (first | (with_reducible exact Below.refl _ _) | (with_reducible apply pw_below_drewN) | (with_reducible apply below_drew1) | (with_reducible apply below_alloc) | (with_reducible refine below_set ?_ ?hb _; case hb => omega))
          · go_enter Tryd.func62, Tryd.ntmps62
            go_wp2_with (first | (go_at_call 40; (with_reducible refine (lexer_small.calls _ _ _ HS.out).mono ?_); rintro e w' ⟨rfl, ⟨nd, rfl⟩⟩) | (go_at_call 51; (with_reducible refine (lexer_capital.calls _ _ _ HCp.out).mono ?_); rintro e w' ⟨rfl, ⟨nd, rfl⟩⟩) | (go_at_call 41; (with_reducible refine (lexer_digit.calls _ _ _ HDg.out).mono ?_); rintro e w' ⟨rfl, ⟨nd, rfl⟩⟩) | (go_at_call 74; (with_reducible refine (lexer_span_digit.calls _ _ _ _ HSP.out).mono ?_); rintro e w' ⟨rfl, ⟨nd, rfl⟩⟩) | (go_at_call 45; (with_reducible refine (lexer_word.calls _ _ _ HW.out).mono ?_); rintro e w' ⟨rfl, ⟨nd, rfl⟩⟩))
            go_region
            go_wp2_with (first | (go_at_call 40; (with_reducible refine (lexer_small.calls _ _ _ HS.out).mono ?_); rintro e w' ⟨rfl, ⟨nd, rfl⟩⟩) | (go_at_call 51; (with_reducible refine (lexer_capital.calls _ _ _ HCp.out).mono ?_); rintro e w' ⟨rfl, ⟨nd, rfl⟩⟩) | (go_at_call 41; (with_reducible refine (lexer_digit.calls _ _ _ HDg.out).mono ?_); rintro e w' ⟨rfl, ⟨nd, rfl⟩⟩) | (go_at_call 74; (with_reducible refine (lexer_span_digit.calls _ _ _ _ HSP.out).mono ?_); rintro e w' ⟨rfl, ⟨nd, rfl⟩⟩) | (go_at_call 45; (with_reducible refine (lexer_word.calls _ _ _ HW.out).mono ?_); rintro e w' ⟨rfl, ⟨nd, rfl⟩⟩))
            refine bodyPost_ret (results_ctt rfl _ _ w.heap.size 36 #[.int .i64 3, .string (s.extract i n), .int .i64 i] (0, 0) _ rfl (by (with_reducible repeat (first | refine blk_drewN ?_ _ | refine blk_drew ?_ | refine blk_alloc ?_ _)); refine blk_put (cs := #[.int .i64 3, .string (s.extract i n), .int .i64 0]) ?_ 2 _ rfl; (with_reducible repeat (first | refine blk_drewN ?_ _ | refine blk_drew ?_ | refine blk_alloc ?_ _)); refine blk_put (cs := #[.int .i64 3, .string ⟨#[]⟩, .int .i64 0]) ?_ 1 _ rfl; (with_reducible repeat (first | refine blk_drewN ?_ _ | refine blk_drew ?_ | refine blk_alloc ?_ _)); refine blk_put (cs := #[.int .i64 0, .string ⟨#[]⟩, .int .i64 0]) ?_ 0 _ rfl; (with_reducible repeat (first | exact blk_new _ _ | refine blk_drewN ?_ _ | refine blk_drew ?_ | refine blk_far ?_ (Nat.ne_of_lt (Nat.lt_succ_self _)) _ | refine blk_alloc ?_ _))) Tryd.underlying36 rfl (by kernel_rfl)) rfl ⟨?_, ?_⟩
            · obtain ⟨rfl, rfl, rfl⟩ := HT.out
              rfl
            · repeat (first | (with_reducible exact Below.refl _ _) | (with_reducible apply pw_below_drewN) | (with_reducible apply below_drew1) | (with_reducible apply below_alloc) | (with_reducible refine below_set ?_ ?hb _; case hb => omega))
      · rw [if_neg (by rintro (h | h | h) <;> first | exact g19 h | exact g0 h | exact ge h.1)] at ht
        have HT := Aside0.mk (show _ ∧ _ ∧ _ from ⟨congrArg (·.1) ht, congrArg (·.2.1) ht, congrArg (·.2.2) ht⟩)
        have gea : decide (n < s.size) = false := decide_eq_false ge
        have geb : decide ((n : Int) < (s.size : Int)) = false := decide_eq_false (by omega)
        clear ht g19 g0 hni ge
        rcases hcase with ⟨g1a, g1b⟩ | ⟨g1a, g1b, g48⟩
        · go_enter Tryd.func62, Tryd.ntmps62
          go_wp2_with (first | (go_at_call 40; (with_reducible refine (lexer_small.calls _ _ _ HS.out).mono ?_); rintro e w' ⟨rfl, ⟨nd, rfl⟩⟩) | (go_at_call 51; (with_reducible refine (lexer_capital.calls _ _ _ HCp.out).mono ?_); rintro e w' ⟨rfl, ⟨nd, rfl⟩⟩) | (go_at_call 41; (with_reducible refine (lexer_digit.calls _ _ _ HDg.out).mono ?_); rintro e w' ⟨rfl, ⟨nd, rfl⟩⟩) | (go_at_call 74; (with_reducible refine (lexer_span_digit.calls _ _ _ _ HSP.out).mono ?_); rintro e w' ⟨rfl, ⟨nd, rfl⟩⟩))
          go_region
          go_wp2_with (first | (go_at_call 40; (with_reducible refine (lexer_small.calls _ _ _ HS.out).mono ?_); rintro e w' ⟨rfl, ⟨nd, rfl⟩⟩) | (go_at_call 51; (with_reducible refine (lexer_capital.calls _ _ _ HCp.out).mono ?_); rintro e w' ⟨rfl, ⟨nd, rfl⟩⟩) | (go_at_call 41; (with_reducible refine (lexer_digit.calls _ _ _ HDg.out).mono ?_); rintro e w' ⟨rfl, ⟨nd, rfl⟩⟩) | (go_at_call 74; (with_reducible refine (lexer_span_digit.calls _ _ _ _ HSP.out).mono ?_); rintro e w' ⟨rfl, ⟨nd, rfl⟩⟩))
          refine bodyPost_ret (results_ctt rfl _ _ w.heap.size 36 #[.int .i64 3, .string (s.extract i n), .int .i64 i] (0, 0) _ rfl (by (with_reducible repeat (first | refine blk_drewN ?_ _ | refine blk_drew ?_ | refine blk_alloc ?_ _)); refine blk_put (cs := #[.int .i64 3, .string (s.extract i n), .int .i64 0]) ?_ 2 _ rfl; (with_reducible repeat (first | refine blk_drewN ?_ _ | refine blk_drew ?_ | refine blk_alloc ?_ _)); refine blk_put (cs := #[.int .i64 3, .string ⟨#[]⟩, .int .i64 0]) ?_ 1 _ rfl; (with_reducible repeat (first | refine blk_drewN ?_ _ | refine blk_drew ?_ | refine blk_alloc ?_ _)); refine blk_put (cs := #[.int .i64 0, .string ⟨#[]⟩, .int .i64 0]) ?_ 0 _ rfl; (with_reducible repeat (first | exact blk_new _ _ | refine blk_drewN ?_ _ | refine blk_drew ?_ | refine blk_far ?_ (Nat.ne_of_lt (Nat.lt_succ_self _)) _ | refine blk_alloc ?_ _))) Tryd.underlying36 rfl (by kernel_rfl)) rfl ⟨?_, ?_⟩
          · obtain ⟨rfl, rfl, rfl⟩ := HT.out
            rfl
          · repeat (first | (with_reducible exact Below.refl _ _) | (with_reducible apply pw_below_drewN) | (with_reducible apply below_drew1) | (with_reducible apply below_alloc) | (with_reducible refine below_set ?_ ?hb _; case hb => omega))
        · go_enter Tryd.func62, Tryd.ntmps62
          go_wp2_with (first | (go_at_call 40; (with_reducible refine (lexer_small.calls _ _ _ HS.out).mono ?_); rintro e w' ⟨rfl, ⟨nd, rfl⟩⟩) | (go_at_call 51; (with_reducible refine (lexer_capital.calls _ _ _ HCp.out).mono ?_); rintro e w' ⟨rfl, ⟨nd, rfl⟩⟩) | (go_at_call 41; (with_reducible refine (lexer_digit.calls _ _ _ HDg.out).mono ?_); rintro e w' ⟨rfl, ⟨nd, rfl⟩⟩) | (go_at_call 74; (with_reducible refine (lexer_span_digit.calls _ _ _ _ HSP.out).mono ?_); rintro e w' ⟨rfl, ⟨nd, rfl⟩⟩))
          go_region
          go_wp2_with (first | (go_at_call 40; (with_reducible refine (lexer_small.calls _ _ _ HS.out).mono ?_); rintro e w' ⟨rfl, ⟨nd, rfl⟩⟩) | (go_at_call 51; (with_reducible refine (lexer_capital.calls _ _ _ HCp.out).mono ?_); rintro e w' ⟨rfl, ⟨nd, rfl⟩⟩) | (go_at_call 41; (with_reducible refine (lexer_digit.calls _ _ _ HDg.out).mono ?_); rintro e w' ⟨rfl, ⟨nd, rfl⟩⟩) | (go_at_call 74; (with_reducible refine (lexer_span_digit.calls _ _ _ _ HSP.out).mono ?_); rintro e w' ⟨rfl, ⟨nd, rfl⟩⟩))
          refine bodyPost_ret (results_ctt rfl _ _ w.heap.size 36 #[.int .i64 3, .string (s.extract i n), .int .i64 i] (0, 0) _ rfl (by (with_reducible repeat (first | refine blk_drewN ?_ _ | refine blk_drew ?_ | refine blk_alloc ?_ _)); refine blk_put (cs := #[.int .i64 3, .string (s.extract i n), .int .i64 0]) ?_ 2 _ rfl; (with_reducible repeat (first | refine blk_drewN ?_ _ | refine blk_drew ?_ | refine blk_alloc ?_ _)); refine blk_put (cs := #[.int .i64 3, .string ⟨#[]⟩, .int .i64 0]) ?_ 1 _ rfl; (with_reducible repeat (first | refine blk_drewN ?_ _ | refine blk_drew ?_ | refine blk_alloc ?_ _)); refine blk_put (cs := #[.int .i64 0, .string ⟨#[]⟩, .int .i64 0]) ?_ 0 _ rfl; (with_reducible repeat (first | exact blk_new _ _ | refine blk_drewN ?_ _ | refine blk_drew ?_ | refine blk_far ?_ (Nat.ne_of_lt (Nat.lt_succ_self _)) _ | refine blk_alloc ?_ _))) Tryd.underlying36 rfl (by kernel_rfl)) rfl ⟨?_, ?_⟩
          · obtain ⟨rfl, rfl, rfl⟩ := HT.out
            rfl
          · repeat (first | (with_reducible exact Below.refl _ _) | (with_reducible apply pw_below_drewN) | (with_reducible apply below_drew1) | (with_reducible apply below_alloc) | (with_reducible refine below_set ?_ ?hb _; case hb => omega))
end Go.Proofs.YtmndicibakaceaaDoor.Pr
