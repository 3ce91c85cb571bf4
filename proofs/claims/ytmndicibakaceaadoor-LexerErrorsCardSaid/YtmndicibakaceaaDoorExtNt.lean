/- The contract of lexer.next, continued: printed by a program of this work's own (wip/genN.py). -/
import Derived.Test.YtmndicibakaceaaDoorExtN
namespace Go.Proofs.YtmndicibakaceaaDoor.Pr
open Go.RowKit Go.Proofs.YtmndicibakaceaaDoorW.PrintWords Go.Proofs.YtmndicibakaceaaDoorW.PrintLast Go.Proofs.YtmndicibakaceaaDoorW.PrintMore
theorem blk_new2 (w : World) (o1 o2 : Obj) : ((w.alloc o1).alloc o2).heap[w.heap.size + 1]? = some o2 := by
  have h := blk_new (w.alloc o1) o2
  simpa using h
set_option maxHeartbeats 4000000 in
set_option maxRecDepth 100000 in
theorem next_text (s : ByteArray) (i : Nat) (w : World) (hs : s.size ≤ 1000000000) (h1 : i < s.size) (hc1 : isSmall (bt s i) = false) (hc2 : isCapital (bt s i) = false) (hc3 : isDigit (bt s i) = false) (hc4 : bt s i = 34) (t : S36) (e r : Int) (ht : nextTok s i = (t, e, r)) :
    Calls Tryd.prog 62 #[.string s, .int .i64 i] w fun e' w' => e' = .returned (.tuple #[.agg #[.int .i64 t.f0, .string t.f1, .int .i64 t.f2], .int .i64 e, .int .i64 r]) ∧ Below w.heap.size w w' := by
  have hx := bt_natL s i
  unfold nextTok at ht
  rw [hc1, hc2, hc3] at ht
  simp only [Bool.or_self, Bool.false_eq_true, if_false] at ht
  rw [if_pos hc4] at ht
  have HS := Aside0.mk (small_some (bt s i))
  have HCp := Aside0.mk (capital_some (bt s i))
  have HDg := Aside0.mk (digit_some (bt s i))
  rw [hc1] at HS
  rw [hc2] at HCp
  rw [hc3] at HDg
  have g34 : (bt s i == 34) = true := beq_iff_eq.2 hc4
  have hlit : lexer_literal.f s i = some (litRes (litLoop s (s.size - (i + 1)) (i + 1) [])) := by
    unfold lexer_literal.f; rw [if_pos ⟨hs, by omega, by omega⟩]; rfl
  clear hc1 hc2 hc3 hc4
  cases hq : litLoop s (s.size - (i + 1)) (i + 1) [] with
  | none =>
    rw [hq] at ht hlit
    have HLt := Aside0.mk (show lexer_literal.f s i = some ((⟨#[]⟩ : ByteArray), 0, false) from hlit)
    have HT := Aside0.mk (show _ ∧ _ ∧ _ from ⟨congrArg (·.1) ht, congrArg (·.2.1) ht, congrArg (·.2.2) ht⟩)
    clear ht hlit hq
    go_enter Tryd.func62, Tryd.ntmps62
    go_wp2_with (first | (go_at_call 40; (with_reducible refine (lexer_small.calls _ _ _ HS.out).mono ?_); rintro e w' ⟨rfl, ⟨nd, rfl⟩⟩) | (go_at_call 51; (with_reducible refine (lexer_capital.calls _ _ _ HCp.out).mono ?_); rintro e w' ⟨rfl, ⟨nd, rfl⟩⟩) | (go_at_call 41; (with_reducible refine (lexer_digit.calls _ _ _ HDg.out).mono ?_); rintro e w' ⟨rfl, ⟨nd, rfl⟩⟩) | (go_at_call 75; (with_reducible refine (lexer_literal.calls _ _ _ _ _ _ HLt.out).mono ?_); rintro e w2 ⟨rfl, hb2⟩; have hT : w2.heap[w.heap.size + 1]? = some (.cells #[.int .i64 0, .string ⟨#[]⟩, .int .i64 i] 36 (0, 0)) := blk_below (by (with_reducible repeat (first | refine blk_drewN ?_ _ | refine blk_drew ?_)); exact blk_new2 _ _ _) hb2; have hR : w2.heap[w.heap.size]? = some (.cells #[.int .i64 0, .string ⟨#[]⟩, .int .i64 0] 36 (0, 0)) := blk_below (by (with_reducible repeat (first | exact blk_new _ _ | refine blk_drewN ?_ _ | refine blk_drew ?_ | refine blk_far ?_ (Nat.ne_of_lt (Nat.lt_succ_self _)) _ | refine blk_alloc ?_ _))) hb2; have chT0 := blk_cell hT 0; have fhT0 := blk_frozen hT 0; simp only [List.getElem?_toArray, List.getElem?_cons_zero, List.getElem?_cons_succ] at chT0; have chT1 := blk_cell hT 1; have fhT1 := blk_frozen hT 1; simp only [List.getElem?_toArray, List.getElem?_cons_zero, List.getElem?_cons_succ] at chT1; have chT2 := blk_cell hT 2; have fhT2 := blk_frozen hT 2; simp only [List.getElem?_toArray, List.getElem?_cons_zero, List.getElem?_cons_succ] at chT2; have chR0 := blk_cell hR 0; have fhR0 := blk_frozen hR 0; simp only [List.getElem?_toArray, List.getElem?_cons_zero, List.getElem?_cons_succ] at chR0; have chR1 := blk_cell hR 1; have fhR1 := blk_frozen hR 1; simp only [List.getElem?_toArray, List.getElem?_cons_zero, List.getElem?_cons_succ] at chR1; have chR2 := blk_cell hR 2; have fhR2 := blk_frozen hR 2; simp only [List.getElem?_toArray, List.getElem?_cons_zero, List.getElem?_cons_succ] at chR2; have HB2 := Aside0.mk (Below.trans (B := w.heap.size) (a := w) (by repeat (first | (with_reducible exact Below.refl _ _) | (with_reducible apply pw_below_drewN) | (with_reducible apply below_drew1) | (with_reducible apply below_alloc) | (with_reducible refine below_set ?_ ?hb _; case hb => omega))) (hb2.mono (by simp <;> omega))); have HR := Aside0.mk hR; clear hb2 hT hR))
    refine bodyPost_ret (results_ctt rfl _ _ w.heap.size 36 #[.int .i64 0, .string ⟨#[]⟩, .int .i64 i] (0, 0) _ rfl (by (with_reducible repeat (first | refine blk_drewN ?_ _ | refine blk_drew ?_ | refine blk_alloc ?_ _)); refine blk_put (cs := #[.int .i64 0, .string ⟨#[]⟩, .int .i64 0]) ?_ 2 _ rfl; (with_reducible repeat (first | refine blk_drewN ?_ _ | refine blk_drew ?_ | refine blk_alloc ?_ _)); refine blk_put (cs := #[.int .i64 0, .string ⟨#[]⟩, .int .i64 0]) ?_ 1 _ rfl; (with_reducible repeat (first | refine blk_drewN ?_ _ | refine blk_drew ?_ | refine blk_alloc ?_ _)); refine blk_put (cs := #[.int .i64 0, .string ⟨#[]⟩, .int .i64 0]) ?_ 0 _ rfl; (with_reducible repeat (first | exact HR.out | refine blk_drewN ?_ _ | refine blk_drew ?_ | refine blk_far ?_ (Nat.ne_of_lt (Nat.lt_succ_self _)) _ | refine blk_alloc ?_ _))) Tryd.underlying36 rfl (by kernel_rfl)) rfl ⟨?_, ?_⟩
    · obtain ⟨rfl, rfl, rfl⟩ := HT.out
      rfl
    · repeat (first | (with_reducible exact HB2.out) | (with_reducible apply pw_below_drewN) | (with_reducible apply below_drew1) | (with_reducible apply below_alloc) | (with_reducible refine below_set ?_ ?hb _; case hb => omega))
  | some z =>
    obtain ⟨l, q⟩ := z
    rw [hq] at ht hlit
    have HLt := Aside0.mk (show lexer_literal.f s i = some (strOfNums l, (q : Int), true) from hlit)
    have HT := Aside0.mk (show _ ∧ _ ∧ _ from ⟨congrArg (·.1) ht, congrArg (·.2.1) ht, congrArg (·.2.2) ht⟩)
    clear ht hlit hq
    go_enter Tryd.func62, Tryd.ntmps62
    go_wp2_with (first | (go_at_call 40; (with_reducible refine (lexer_small.calls _ _ _ HS.out).mono ?_); rintro e w' ⟨rfl, ⟨nd, rfl⟩⟩) | (go_at_call 51; (with_reducible refine (lexer_capital.calls _ _ _ HCp.out).mono ?_); rintro e w' ⟨rfl, ⟨nd, rfl⟩⟩) | (go_at_call 41; (with_reducible refine (lexer_digit.calls _ _ _ HDg.out).mono ?_); rintro e w' ⟨rfl, ⟨nd, rfl⟩⟩) | (go_at_call 75; (with_reducible refine (lexer_literal.calls _ _ _ _ _ _ HLt.out).mono ?_); rintro e w2 ⟨rfl, hb2⟩; have hT : w2.heap[w.heap.size + 1]? = some (.cells #[.int .i64 0, .string ⟨#[]⟩, .int .i64 i] 36 (0, 0)) := blk_below (by (with_reducible repeat (first | refine blk_drewN ?_ _ | refine blk_drew ?_)); exact blk_new2 _ _ _) hb2; have hR : w2.heap[w.heap.size]? = some (.cells #[.int .i64 0, .string ⟨#[]⟩, .int .i64 0] 36 (0, 0)) := blk_below (by (with_reducible repeat (first | exact blk_new _ _ | refine blk_drewN ?_ _ | refine blk_drew ?_ | refine blk_far ?_ (Nat.ne_of_lt (Nat.lt_succ_self _)) _ | refine blk_alloc ?_ _))) hb2; have chT0 := blk_cell hT 0; have fhT0 := blk_frozen hT 0; simp only [List.getElem?_toArray, List.getElem?_cons_zero, List.getElem?_cons_succ] at chT0; have chT1 := blk_cell hT 1; have fhT1 := blk_frozen hT 1; simp only [List.getElem?_toArray, List.getElem?_cons_zero, List.getElem?_cons_succ] at chT1; have chT2 := blk_cell hT 2; have fhT2 := blk_frozen hT 2; simp only [List.getElem?_toArray, List.getElem?_cons_zero, List.getElem?_cons_succ] at chT2; have chR0 := blk_cell hR 0; have fhR0 := blk_frozen hR 0; simp only [List.getElem?_toArray, List.getElem?_cons_zero, List.getElem?_cons_succ] at chR0; have chR1 := blk_cell hR 1; have fhR1 := blk_frozen hR 1; simp only [List.getElem?_toArray, List.getElem?_cons_zero, List.getElem?_cons_succ] at chR1; have chR2 := blk_cell hR 2; have fhR2 := blk_frozen hR 2; simp only [List.getElem?_toArray, List.getElem?_cons_zero, List.getElem?_cons_succ] at chR2; have HB2 := Aside0.mk (Below.trans (B := w.heap.size) (a := w) (by repeat (first | (with_reducible exact Below.refl _ _) | (with_reducible apply pw_below_drewN) | (with_reducible apply below_drew1) | (with_reducible apply below_alloc) | (with_reducible refine below_set ?_ ?hb _; case hb => omega))) (hb2.mono (by simp <;> omega))); have HR := Aside0.mk hR; clear hb2 hT hR))
    refine bodyPost_ret (results_ctt rfl _ _ w.heap.size 36 #[.int .i64 4, .string (strOfNums l), .int .i64 i] (0, 0) _ rfl (by (with_reducible repeat (first | refine blk_drewN ?_ _ | refine blk_drew ?_ | refine blk_alloc ?_ _)); refine blk_put (cs := #[.int .i64 4, .string (strOfNums l), .int .i64 0]) ?_ 2 _ rfl; (with_reducible repeat (first | refine blk_drewN ?_ _ | refine blk_drew ?_ | refine blk_alloc ?_ _)); refine blk_put (cs := #[.int .i64 4, .string ⟨#[]⟩, .int .i64 0]) ?_ 1 _ rfl; (with_reducible repeat (first | refine blk_drewN ?_ _ | refine blk_drew ?_ | refine blk_alloc ?_ _)); refine blk_put (cs := #[.int .i64 0, .string ⟨#[]⟩, .int .i64 0]) ?_ 0 _ rfl; (with_reducible repeat (first | exact HR.out | refine blk_drewN ?_ _ | refine blk_drew ?_ | refine blk_far ?_ (Nat.ne_of_lt (Nat.lt_succ_self _)) _ | refine blk_alloc ?_ _))) Tryd.underlying36 rfl (by kernel_rfl)) rfl ⟨?_, ?_⟩
    · obtain ⟨rfl, rfl, rfl⟩ := HT.out
      rfl
    · repeat (first | (with_reducible exact HB2.out) | (with_reducible apply pw_below_drewN) | (with_reducible apply below_drew1) | (with_reducible apply below_alloc) | (with_reducible refine below_set ?_ ?hb _; case hb => omega))
end Go.Proofs.YtmndicibakaceaaDoor.Pr
