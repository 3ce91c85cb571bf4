/- The contract of lexer.next, in the form that the printed texts take: the token at an offset; condition: where '.f' tells 'some'. | The contract of lexer.next, continued: printed by a program of this work's own (wip/genN.py). | The contract of lexer.next, continued: printed by a program of this work's own (wip/genN.py). | The contract of lexer.next, continued: printed by a program of this work's own (wip/genN.py). | The contract of lexer.next at every offset, and where a token ends. -/
import Derived.Lib.Hide
import Derived.Test.YtmndicibakaceaaDoorExtL
import Derived.Test.YtmndicibakaceaaDoorExtC
import Derived.Test.YtmndicibakaceaaDoorPr5
import Derived.Lib.Bytes2
namespace Go.Proofs.YtmndicibakaceaaDoor.Pr
section
open Go.RowKit Go.Proofs.YtmndicibakaceaaDoorW.PrintWords Go.Proofs.YtmndicibakaceaaDoorW.PrintLast Go.Proofs.YtmndicibakaceaaDoorW.PrintMore
def kwB (s : ByteArray) : Bool := Lib.contains kwList (32 :: (s.data.toList ++ [32]))
def isNameB (s : ByteArray) : Bool := decide (0 < s.size) && (decide (s.size ≤ 32) && (isSmall (bt s 0) && (allB isWord s && !kwB s)))
def isTypeB (s : ByteArray) : Bool := decide (0 < s.size) && (decide (s.size ≤ 32) && (isCapital (bt s 0) && allB isWord s))
theorem toList_nil_iff (s : ByteArray) : s.toList = ([] : List UInt8) ↔ s.size = 0 := by
  rw [Lib.toList_data]
  have h4 : s.data.toList.length = s.size := rfl
  constructor
  · intro h; rw [h] at h4; simpa using h4.symm
  · intro h; exact List.eq_nil_of_length_eq_zero (by omega)
theorem IsName_some (s : ByteArray) (hs : s.size ≤ 1000000000) : lexer_IsName.f s = some (isNameB s) := by
  unfold lexer_IsName.f isNameB kwB
  by_cases h0 : s.size = 0
  · rw [if_pos ((toList_nil_iff s).2 h0), decide_eq_false (by omega)]; rfl
  · rw [if_neg (fun h => h0 ((toList_nil_iff s).1 h)), decide_eq_true (by omega)]
    by_cases h1 : s.size ≤ 32
    · rw [if_pos (by omega), if_pos (by omega), decide_eq_true h1, small_some]
      simp only [Option.bind_some, lexer_all_word.f, lexer_keyword.f, if_pos hs, if_pos (show s.size ≤ 9223372036854775807 by omega)]
      cases isSmall (bt s 0) <;> cases allB isWord s <;> simp
    · rw [if_neg (by omega), decide_eq_false h1]; rfl
theorem IsType_some (s : ByteArray) (hs : s.size ≤ 1000000000) : lexer_IsType.f s = some (isTypeB s) := by
  unfold lexer_IsType.f isTypeB
  by_cases h0 : s.size = 0
  · rw [if_pos ((toList_nil_iff s).2 h0), decide_eq_false (by omega)]; rfl
  · rw [if_neg (fun h => h0 ((toList_nil_iff s).1 h)), decide_eq_true (by omega)]
    by_cases h1 : s.size ≤ 32
    · rw [if_pos (by omega), if_pos (by omega), decide_eq_true h1, capital_some]
      simp only [Option.bind_some, lexer_all_word.f, if_pos (show s.size ≤ 9223372036854775807 by omega)]
      cases isCapital (bt s 0) <;> cases allB isWord s <;> simp
    · rw [if_neg (by omega), decide_eq_false h1]; rfl
theorem spanTo_ge (p : Int → Bool) (s : ByteArray) : ∀ (n : Nat) (i : Int), i ≤ spanTo p s n i ∧ spanTo p s n i ≤ i + n
  | 0, i => ⟨Int.le_refl _, by simp [spanTo]⟩
  | n + 1, i => by
    have := spanTo_ge p s n (i + 1)
    unfold spanTo
    split
    · omega
    · omega
/-- where the run of bytes ends that satisfy p. -/
def runEnd (p : Int → Bool) (s : ByteArray) (i : Nat) : Nat := (spanTo p s (s.size - i) i).toNat
theorem runEnd_cast (p : Int → Bool) (s : ByteArray) (i : Nat) : ((runEnd p s i : Nat) : Int) = spanTo p s (s.size - i) i := by
  have := (spanTo_ge p s (s.size - i) i).1
  unfold runEnd; omega
theorem runEnd_ge (p : Int → Bool) (s : ByteArray) (i : Nat) : i ≤ runEnd p s i := by
  have := (spanTo_ge p s (s.size - i) i).1
  have := runEnd_cast p s i
  omega
theorem runEnd_le (p : Int → Bool) (s : ByteArray) (i : Nat) (h : i ≤ s.size) : runEnd p s i ≤ s.size := by
  have := (spanTo_ge p s (s.size - i) i).2
  have := runEnd_cast p s i
  omega
/-- the token at i, where it ends, and the error. -/
def nextTok (s : ByteArray) (i : Nat) : S36 × Int × Int :=
  if isSmall (bt s i) || isCapital (bt s i) then
    if kwB (s.extract i (runEnd isWord s i)) then (⟨5, s.extract i (runEnd isWord s i), i⟩, runEnd isWord s i, 0)
    else if isNameB (s.extract i (runEnd isWord s i)) then (⟨1, s.extract i (runEnd isWord s i), i⟩, runEnd isWord s i, 0)
    else if isTypeB (s.extract i (runEnd isWord s i)) then (⟨2, s.extract i (runEnd isWord s i), i⟩, runEnd isWord s i, 0)
    else (⟨0, s.extract i (runEnd isWord s i), i⟩, i, 4)
  else if isDigit (bt s i) then
    if 19 < runEnd isDigit s i - i ∨ (1 < runEnd isDigit s i - i ∧ bt s i = 48) ∨ (runEnd isDigit s i < s.size ∧ isWord (bt s (runEnd isDigit s i : Nat)) = true) then (⟨3, s.extract i (runEnd isDigit s i), i⟩, i, 3)
    else (⟨3, s.extract i (runEnd isDigit s i), i⟩, runEnd isDigit s i, 0)
  else if bt s i = 34 then
    match litLoop s (s.size - (i + 1)) (i + 1) [] with
    | some (l, e) => (⟨4, strOfNums l, i⟩, (e : Int), 0)
    | none => (⟨0, ⟨#[]⟩, i⟩, i, 3)
  else if (symbolOf (s.extract i s.size)).size = 0 then (⟨6, symbolOf (s.extract i s.size), i⟩, i, 3)
  else (⟨6, symbolOf (s.extract i s.size), i⟩, i + (symbolOf (s.extract i s.size)).size, 0)
def lexer_next.f (a0 : ByteArray) (a1 : Int) : Option (Int × ByteArray × Int × Int × Int) :=
  if a0.size ≤ 1000000000 ∧ 0 ≤ a1 ∧ a1 < a0.size then some ((nextTok a0 a1.toNat).1.f0, (nextTok a0 a1.toNat).1.f1, (nextTok a0 a1.toNat).1.f2, (nextTok a0 a1.toNat).2) else none
theorem ext_size (s : ByteArray) (i e : Nat) (h : e ≤ s.size) : (s.extract i e).size = e - i := by
  rw [ByteArray.size_extract]; omega
theorem below_putN {w W : World} (h : Below w.heap.size w W) {b o : Nat} (hb : w.heap.size ≤ b) (v : Value) : Below w.heap.size w (W.setCell ⟨b, o, none⟩ v) := h.setCell (p := ⟨b, o, none⟩) hb v
set_option maxHeartbeats 2000000 in
set_option maxRecDepth 100000 in
theorem next_word (s : ByteArray) (i : Nat) (w : World) (hG : Gd w) (hs : s.size ≤ 1000000000) (h1 : i < s.size) (hc : (isSmall (bt s i) || isCapital (bt s i)) = true) (t : S36) (e r : Int) (ht : nextTok s i = (t, e, r)) :
    Calls Tryd.prog 62 #[.string s, .int .i64 i] w fun e' w' => e' = .returned (.tuple #[.agg #[.int .i64 t.f0, .string t.f1, .int .i64 t.f2], .int .i64 e, .int .i64 r]) ∧ Below w.heap.size w w' := by
  have hx := bt_natL s i
  have hg := runEnd_ge isWord s i
  have hl := runEnd_le isWord s i (by omega)
  have hz := ext_size s i (runEnd isWord s i) hl
  have HSP := Aside0.mk (show lexer_span_word.f s i = some ((runEnd isWord s i : Nat) : Int) from by
    unfold lexer_span_word.f; rw [if_pos ⟨by omega, by omega, by omega⟩, runEnd_cast]; rfl)
  unfold nextTok at ht
  rw [if_pos hc] at ht
  have HT := Aside0.mk ht
  have HG := Aside0.mk hG
  have HS := Aside0.mk (small_some (bt s i))
  have HCp := Aside0.mk (capital_some (bt s i))
  have HN := Aside0.mk (IsName_some (s.extract i (runEnd isWord s i)) (by omega))
  have HY := Aside0.mk (IsType_some (s.extract i (runEnd isWord s i)) (by omega))
  have HK := Aside0.mk (show lexer_keyword.f (s.extract i (runEnd isWord s i)) = some (kwB (s.extract i (runEnd isWord s i))) from by
    unfold lexer_keyword.f kwB; rw [if_pos (by omega)])
  clear ht hG hz
  generalize runEnd isWord s i = n at *
  generalize kwB (s.extract i n) = bk at *
  generalize isNameB (s.extract i n) = bn at *
  generalize isTypeB (s.extract i n) = by_ at *
  generalize isSmall (bt s i) = b1 at *
  generalize isCapital (bt s i) = b2 at *
  cases b1 with
  | true =>
    clear hc
    cases bk with
    | true =>
      go_enter Tryd.func62, Tryd.ntmps62
      go_wp2_with (first | (go_at_call 40; (with_reducible refine (lexer_small.calls _ _ _ HS.out).mono ?_); rintro e w' ⟨rfl, ⟨nd, rfl⟩⟩) | (go_at_call 51; (with_reducible refine (lexer_capital.calls _ _ _ HCp.out).mono ?_); rintro e w' ⟨rfl, ⟨nd, rfl⟩⟩) | (go_at_call 74; (with_reducible refine (lexer_span_word.calls _ _ _ _ HSP.out).mono ?_); rintro e w' ⟨rfl, ⟨nd, rfl⟩⟩) | (go_at_call 46; (with_reducible refine (lexer_keyword.calls _ _ _ HK.out ?gd).mono ?_); (case gd => exact Gd.below HG.out (by repeat (first | (with_reducible exact Below.refl _ _) | (with_reducible apply pw_below_drewN) | (with_reducible apply below_drew1) | (with_reducible apply below_alloc) | (with_reducible refine below_putN ?_ ?hb _; case hb => omega)))); rintro e w' ⟨rfl, ⟨nd, rfl⟩⟩) | (go_at_call 17; (with_reducible refine (lexer_IsName.calls _ _ _ HN.out ?gd).mono ?_); (case gd => exact Gd.below HG.out (by repeat (first | (with_reducible exact Below.refl _ _) | (with_reducible apply pw_below_drewN) | (with_reducible apply below_drew1) | (with_reducible apply below_alloc) | (with_reducible refine below_putN ?_ ?hb _; case hb => omega)))); rintro e w' ⟨rfl, ⟨nd, rfl⟩⟩) | (go_at_call 19; (with_reducible refine (lexer_IsType.calls _ _ _ HY.out).mono ?_); rintro e w' ⟨rfl, ⟨nd, rfl⟩⟩))
      refine bodyPost_ret (results_ctt rfl _ _ w.heap.size 36 #[.int .i64 5, .string (s.extract i n), .int .i64 i] (0, 0) _ rfl (by (with_reducible repeat (first | refine blk_drewN ?_ _ | refine blk_drew ?_ | refine blk_alloc ?_ _)); refine blk_put (cs := #[.int .i64 5, .string (s.extract i n), .int .i64 0]) ?_ 2 _ rfl; (with_reducible repeat (first | refine blk_drewN ?_ _ | refine blk_drew ?_ | refine blk_alloc ?_ _)); refine blk_put (cs := #[.int .i64 5, .string ⟨#[]⟩, .int .i64 0]) ?_ 1 _ rfl; (with_reducible repeat (first | refine blk_drewN ?_ _ | refine blk_drew ?_ | refine blk_alloc ?_ _)); refine blk_put (cs := #[.int .i64 0, .string ⟨#[]⟩, .int .i64 0]) ?_ 0 _ rfl; (with_reducible repeat (first | exact blk_new _ _ | refine blk_drewN ?_ _ | refine blk_drew ?_ | refine blk_far ?_ (Nat.ne_of_lt (Nat.lt_succ_self _)) _ | refine blk_alloc ?_ _))) Tryd.underlying36 rfl (by kernel_rfl)) rfl ⟨?_, ?_⟩
      · have ht := HT.out
        simp [Prod.mk.injEq] at ht
        obtain ⟨rfl, rfl, rfl⟩ := ht
        rfl
      · repeat (first | (with_reducible exact Below.refl _ _) | (with_reducible apply pw_below_drewN) | (with_reducible apply below_drew1) | (with_reducible apply below_alloc) | (with_reducible refine below_putN ?_ ?hb _; case hb => omega))
    | false =>
      cases bn with
      | true =>
        go_enter Tryd.func62, Tryd.ntmps62
        go_wp2_with (first | (go_at_call 40; (with_reducible refine (lexer_small.calls _ _ _ HS.out).mono ?_); rintro e w' ⟨rfl, ⟨nd, rfl⟩⟩) | (go_at_call 51; (with_reducible refine (lexer_capital.calls _ _ _ HCp.out).mono ?_); rintro e w' ⟨rfl, ⟨nd, rfl⟩⟩) | (go_at_call 74; (with_reducible refine (lexer_span_word.calls _ _ _ _ HSP.out).mono ?_); rintro e w' ⟨rfl, ⟨nd, rfl⟩⟩) | (go_at_call 46; (with_reducible refine (lexer_keyword.calls _ _ _ HK.out ?gd).mono ?_); (case gd => exact Gd.below HG.out (by repeat (first | (with_reducible exact Below.refl _ _) | (with_reducible apply pw_below_drewN) | (with_reducible apply below_drew1) | (with_reducible apply below_alloc) | (with_reducible refine below_putN ?_ ?hb _; case hb => omega)))); rintro e w' ⟨rfl, ⟨nd, rfl⟩⟩) | (go_at_call 17; (with_reducible refine (lexer_IsName.calls _ _ _ HN.out ?gd).mono ?_); (case gd => exact Gd.below HG.out (by repeat (first | (with_reducible exact Below.refl _ _) | (with_reducible apply pw_below_drewN) | (with_reducible apply below_drew1) | (with_reducible apply below_alloc) | (with_reducible refine below_putN ?_ ?hb _; case hb => omega)))); rintro e w' ⟨rfl, ⟨nd, rfl⟩⟩) | (go_at_call 19; (with_reducible refine (lexer_IsType.calls _ _ _ HY.out).mono ?_); rintro e w' ⟨rfl, ⟨nd, rfl⟩⟩))
        refine bodyPost_ret (results_ctt rfl _ _ w.heap.size 36 #[.int .i64 1, .string (s.extract i n), .int .i64 i] (0, 0) _ rfl (by (with_reducible repeat (first | refine blk_drewN ?_ _ | refine blk_drew ?_ | refine blk_alloc ?_ _)); refine blk_put (cs := #[.int .i64 1, .string (s.extract i n), .int .i64 0]) ?_ 2 _ rfl; (with_reducible repeat (first | refine blk_drewN ?_ _ | refine blk_drew ?_ | refine blk_alloc ?_ _)); refine blk_put (cs := #[.int .i64 1, .string ⟨#[]⟩, .int .i64 0]) ?_ 1 _ rfl; (with_reducible repeat (first | refine blk_drewN ?_ _ | refine blk_drew ?_ | refine blk_alloc ?_ _)); refine blk_put (cs := #[.int .i64 0, .string ⟨#[]⟩, .int .i64 0]) ?_ 0 _ rfl; (with_reducible repeat (first | exact blk_new _ _ | refine blk_drewN ?_ _ | refine blk_drew ?_ | refine blk_far ?_ (Nat.ne_of_lt (Nat.lt_succ_self _)) _ | refine blk_alloc ?_ _))) Tryd.underlying36 rfl (by kernel_rfl)) rfl ⟨?_, ?_⟩
        · have ht := HT.out
          simp [Prod.mk.injEq] at ht
          obtain ⟨rfl, rfl, rfl⟩ := ht
          rfl
        · repeat (first | (with_reducible exact Below.refl _ _) | (with_reducible apply pw_below_drewN) | (with_reducible apply below_drew1) | (with_reducible apply below_alloc) | (with_reducible refine below_putN ?_ ?hb _; case hb => omega))
      | false =>
        cases by_ with
        | true =>
          go_enter Tryd.func62, Tryd.ntmps62
          go_wp2_with (first | (go_at_call 40; (with_reducible refine (lexer_small.calls _ _ _ HS.out).mono ?_); rintro e w' ⟨rfl, ⟨nd, rfl⟩⟩) | (go_at_call 51; (with_reducible refine (lexer_capital.calls _ _ _ HCp.out).mono ?_); rintro e w' ⟨rfl, ⟨nd, rfl⟩⟩) | (go_at_call 74; (with_reducible refine (lexer_span_word.calls _ _ _ _ HSP.out).mono ?_); rintro e w' ⟨rfl, ⟨nd, rfl⟩⟩) | (go_at_call 46; (with_reducible refine (lexer_keyword.calls _ _ _ HK.out ?gd).mono ?_); (case gd => exact Gd.below HG.out (by repeat (first | (with_reducible exact Below.refl _ _) | (with_reducible apply pw_below_drewN) | (with_reducible apply below_drew1) | (with_reducible apply below_alloc) | (with_reducible refine below_putN ?_ ?hb _; case hb => omega)))); rintro e w' ⟨rfl, ⟨nd, rfl⟩⟩) | (go_at_call 17; (with_reducible refine (lexer_IsName.calls _ _ _ HN.out ?gd).mono ?_); (case gd => exact Gd.below HG.out (by repeat (first | (with_reducible exact Below.refl _ _) | (with_reducible apply pw_below_drewN) | (with_reducible apply below_drew1) | (with_reducible apply below_alloc) | (with_reducible refine below_putN ?_ ?hb _; case hb => omega)))); rintro e w' ⟨rfl, ⟨nd, rfl⟩⟩) | (go_at_call 19; (with_reducible refine (lexer_IsType.calls _ _ _ HY.out).mono ?_); rintro e w' ⟨rfl, ⟨nd, rfl⟩⟩))
          refine bodyPost_ret (results_ctt rfl _ _ w.heap.size 36 #[.int .i64 2, .string (s.extract i n), .int .i64 i] (0, 0) _ rfl (by (with_reducible repeat (first | refine blk_drewN ?_ _ | refine blk_drew ?_ | refine blk_alloc ?_ _)); refine blk_put (cs := #[.int .i64 2, .string (s.extract i n), .int .i64 0]) ?_ 2 _ rfl; (with_reducible repeat (first | refine blk_drewN ?_ _ | refine blk_drew ?_ | refine blk_alloc ?_ _)); refine blk_put (cs := #[.int .i64 2, .string ⟨#[]⟩, .int .i64 0]) ?_ 1 _ rfl; (with_reducible repeat (first | refine blk_drewN ?_ _ | refine blk_drew ?_ | refine blk_alloc ?_ _)); refine blk_put (cs := #[.int .i64 0, .string ⟨#[]⟩, .int .i64 0]) ?_ 0 _ rfl; (with_reducible repeat (first | exact blk_new _ _ | refine blk_drewN ?_ _ | refine blk_drew ?_ | refine blk_far ?_ (Nat.ne_of_lt (Nat.lt_succ_self _)) _ | refine blk_alloc ?_ _))) Tryd.underlying36 rfl (by kernel_rfl)) rfl ⟨?_, ?_⟩
          · have ht := HT.out
            simp [Prod.mk.injEq] at ht
            obtain ⟨rfl, rfl, rfl⟩ := ht
            rfl
          · repeat (first | (with_reducible exact Below.refl _ _) | (with_reducible apply pw_below_drewN) | (with_reducible apply below_drew1) | (with_reducible apply below_alloc) | (with_reducible refine below_putN ?_ ?hb _; case hb => omega))
        | false =>
          go_enter Tryd.func62, Tryd.ntmps62
          go_wp2_with (first | (go_at_call 40; (with_reducible refine (lexer_small.calls _ _ _ HS.out).mono ?_); rintro e w' ⟨rfl, ⟨nd, rfl⟩⟩) | (go_at_call 51; (with_reducible refine (lexer_capital.calls _ _ _ HCp.out).mono ?_); rintro e w' ⟨rfl, ⟨nd, rfl⟩⟩) | (go_at_call 74; (with_reducible refine (lexer_span_word.calls _ _ _ _ HSP.out).mono ?_); rintro e w' ⟨rfl, ⟨nd, rfl⟩⟩) | (go_at_call 46; (with_reducible refine (lexer_keyword.calls _ _ _ HK.out ?gd).mono ?_); (case gd => exact Gd.below HG.out (by repeat (first | (with_reducible exact Below.refl _ _) | (with_reducible apply pw_below_drewN) | (with_reducible apply below_drew1) | (with_reducible apply below_alloc) | (with_reducible refine below_putN ?_ ?hb _; case hb => omega)))); rintro e w' ⟨rfl, ⟨nd, rfl⟩⟩) | (go_at_call 17; (with_reducible refine (lexer_IsName.calls _ _ _ HN.out ?gd).mono ?_); (case gd => exact Gd.below HG.out (by repeat (first | (with_reducible exact Below.refl _ _) | (with_reducible apply pw_below_drewN) | (with_reducible apply below_drew1) | (with_reducible apply below_alloc) | (with_reducible refine below_putN ?_ ?hb _; case hb => omega)))); rintro e w' ⟨rfl, ⟨nd, rfl⟩⟩) | (go_at_call 19; (with_reducible refine (lexer_IsType.calls _ _ _ HY.out).mono ?_); rintro e w' ⟨rfl, ⟨nd, rfl⟩⟩))
          refine bodyPost_ret (results_ctt rfl _ _ w.heap.size 36 #[.int .i64 0, .string (s.extract i n), .int .i64 i] (0, 0) _ rfl (by (with_reducible repeat (first | refine blk_drewN ?_ _ | refine blk_drew ?_ | refine blk_alloc ?_ _)); refine blk_put (cs := #[.int .i64 0, .string (s.extract i n), .int .i64 0]) ?_ 2 _ rfl; (with_reducible repeat (first | refine blk_drewN ?_ _ | refine blk_drew ?_ | refine blk_alloc ?_ _)); refine blk_put (cs := #[.int .i64 0, .string ⟨#[]⟩, .int .i64 0]) ?_ 1 _ rfl; (with_reducible repeat (first | refine blk_drewN ?_ _ | refine blk_drew ?_ | refine blk_alloc ?_ _)); refine blk_put (cs := #[.int .i64 0, .string ⟨#[]⟩, .int .i64 0]) ?_ 0 _ rfl; (with_reducible repeat (first | exact blk_new _ _ | refine blk_drewN ?_ _ | refine blk_drew ?_ | refine blk_far ?_ (Nat.ne_of_lt (Nat.lt_succ_self _)) _ | refine blk_alloc ?_ _))) Tryd.underlying36 rfl (by kernel_rfl)) rfl ⟨?_, ?_⟩
          · have ht := HT.out
            simp [Prod.mk.injEq] at ht
            obtain ⟨rfl, rfl, rfl⟩ := ht
            rfl
          · repeat (first | (with_reducible exact Below.refl _ _) | (with_reducible apply pw_below_drewN) | (with_reducible apply below_drew1) | (with_reducible apply below_alloc) | (with_reducible refine below_putN ?_ ?hb _; case hb => omega))
  | false =>
    obtain rfl : b2 = true := by simpa using hc
    clear hc
    cases bk with
    | true =>
      go_enter Tryd.func62, Tryd.ntmps62
      go_wp2_with (first | (go_at_call 40; (with_reducible refine (lexer_small.calls _ _ _ HS.out).mono ?_); rintro e w' ⟨rfl, ⟨nd, rfl⟩⟩) | (go_at_call 51; (with_reducible refine (lexer_capital.calls _ _ _ HCp.out).mono ?_); rintro e w' ⟨rfl, ⟨nd, rfl⟩⟩) | (go_at_call 74; (with_reducible refine (lexer_span_word.calls _ _ _ _ HSP.out).mono ?_); rintro e w' ⟨rfl, ⟨nd, rfl⟩⟩) | (go_at_call 46; (with_reducible refine (lexer_keyword.calls _ _ _ HK.out ?gd).mono ?_); (case gd => exact Gd.below HG.out (by repeat (first | (with_reducible exact Below.refl _ _) | (with_reducible apply pw_below_drewN) | (with_reducible apply below_drew1) | (with_reducible apply below_alloc) | (with_reducible refine below_putN ?_ ?hb _; case hb => omega)))); rintro e w' ⟨rfl, ⟨nd, rfl⟩⟩) | (go_at_call 17; (with_reducible refine (lexer_IsName.calls _ _ _ HN.out ?gd).mono ?_); (case gd => exact Gd.below HG.out (by repeat (first | (with_reducible exact Below.refl _ _) | (with_reducible apply pw_below_drewN) | (with_reducible apply below_drew1) | (with_reducible apply below_alloc) | (with_reducible refine below_putN ?_ ?hb _; case hb => omega)))); rintro e w' ⟨rfl, ⟨nd, rfl⟩⟩) | (go_at_call 19; (with_reducible refine (lexer_IsType.calls _ _ _ HY.out).mono ?_); rintro e w' ⟨rfl, ⟨nd, rfl⟩⟩))
      refine bodyPost_ret (results_ctt rfl _ _ w.heap.size 36 #[.int .i64 5, .string (s.extract i n), .int .i64 i] (0, 0) _ rfl (by (with_reducible repeat (first | refine blk_drewN ?_ _ | refine blk_drew ?_ | refine blk_alloc ?_ _)); refine blk_put (cs := #[.int .i64 5, .string (s.extract i n), .int .i64 0]) ?_ 2 _ rfl; (with_reducible repeat (first | refine blk_drewN ?_ _ | refine blk_drew ?_ | refine blk_alloc ?_ _)); refine blk_put (cs := #[.int .i64 5, .string ⟨#[]⟩, .int .i64 0]) ?_ 1 _ rfl; (with_reducible repeat (first | refine blk_drewN ?_ _ | refine blk_drew ?_ | refine blk_alloc ?_ _)); refine blk_put (cs := #[.int .i64 0, .string ⟨#[]⟩, .int .i64 0]) ?_ 0 _ rfl; (with_reducible repeat (first | exact blk_new _ _ | refine blk_drewN ?_ _ | refine blk_drew ?_ | refine blk_far ?_ (Nat.ne_of_lt (Nat.lt_succ_self _)) _ | refine blk_alloc ?_ _))) Tryd.underlying36 rfl (by kernel_rfl)) rfl ⟨?_, ?_⟩
      · have ht := HT.out
        simp [Prod.mk.injEq] at ht
        obtain ⟨rfl, rfl, rfl⟩ := ht
        rfl
      · repeat (first | (with_reducible exact Below.refl _ _) | (with_reducible apply pw_below_drewN) | (with_reducible apply below_drew1) | (with_reducible apply below_alloc) | (with_reducible refine below_putN ?_ ?hb _; case hb => omega))
    | false =>
      cases bn with
      | true =>
        go_enter Tryd.func62, Tryd.ntmps62
        go_wp2_with (first | (go_at_call 40; (with_reducible refine (lexer_small.calls _ _ _ HS.out).mono ?_); rintro e w' ⟨rfl, ⟨nd, rfl⟩⟩) | (go_at_call 51; (with_reducible refine (lexer_capital.calls _ _ _ HCp.out).mono ?_); rintro e w' ⟨rfl, ⟨nd, rfl⟩⟩) | (go_at_call 74; (with_reducible refine (lexer_span_word.calls _ _ _ _ HSP.out).mono ?_); rintro e w' ⟨rfl, ⟨nd, rfl⟩⟩) | (go_at_call 46; (with_reducible refine (lexer_keyword.calls _ _ _ HK.out ?gd).mono ?_); (case gd => exact Gd.below HG.out (by repeat (first | (with_reducible exact Below.refl _ _) | (with_reducible apply pw_below_drewN) | (with_reducible apply below_drew1) | (with_reducible apply below_alloc) | (with_reducible refine below_putN ?_ ?hb _; case hb => omega)))); rintro e w' ⟨rfl, ⟨nd, rfl⟩⟩) | (go_at_call 17; (with_reducible refine (lexer_IsName.calls _ _ _ HN.out ?gd).mono ?_); (case gd => exact Gd.below HG.out (by repeat (first | (with_reducible exact Below.refl _ _) | (with_reducible apply pw_below_drewN) | (with_reducible apply below_drew1) | (with_reducible apply below_alloc) | (with_reducible refine below_putN ?_ ?hb _; case hb => omega)))); rintro e w' ⟨rfl, ⟨nd, rfl⟩⟩) | (go_at_call 19; (with_reducible refine (lexer_IsType.calls _ _ _ HY.out).mono ?_); rintro e w' ⟨rfl, ⟨nd, rfl⟩⟩))
        refine bodyPost_ret (results_ctt rfl _ _ w.heap.size 36 #[.int .i64 1, .string (s.extract i n), .int .i64 i] (0, 0) _ rfl (by (with_reducible repeat (first | refine blk_drewN ?_ _ | refine blk_drew ?_ | refine blk_alloc ?_ _)); refine blk_put (cs := #[.int .i64 1, .string (s.extract i n), .int .i64 0]) ?_ 2 _ rfl; (with_reducible repeat (first | refine blk_drewN ?_ _ | refine blk_drew ?_ | refine blk_alloc ?_ _)); refine blk_put (cs := #[.int .i64 1, .string ⟨#[]⟩, .int .i64 0]) ?_ 1 _ rfl; (with_reducible repeat (first | refine blk_drewN ?_ _ | refine blk_drew ?_ | refine blk_alloc ?_ _)); refine blk_put (cs := #[.int .i64 0, .string ⟨#[]⟩, .int .i64 0]) ?_ 0 _ rfl; (with_reducible repeat (first | exact blk_new _ _ | refine blk_drewN ?_ _ | refine blk_drew ?_ | refine blk_far ?_ (Nat.ne_of_lt (Nat.lt_succ_self _)) _ | refine blk_alloc ?_ _))) Tryd.underlying36 rfl (by kernel_rfl)) rfl ⟨?_, ?_⟩
        · have ht := HT.out
          simp [Prod.mk.injEq] at ht
          obtain ⟨rfl, rfl, rfl⟩ := ht
          rfl
        · repeat (first | (with_reducible exact Below.refl _ _) | (with_reducible apply pw_below_drewN) | (with_reducible apply below_drew1) | (with_reducible apply below_alloc) | (with_reducible refine below_putN ?_ ?hb _; case hb => omega))
      | false =>
        cases by_ with
        | true =>
          go_enter Tryd.func62, Tryd.ntmps62
          go_wp2_with (first | (go_at_call 40; (with_reducible refine (lexer_small.calls _ _ _ HS.out).mono ?_); rintro e w' ⟨rfl, ⟨nd, rfl⟩⟩) | (go_at_call 51; (with_reducible refine (lexer_capital.calls _ _ _ HCp.out).mono ?_); rintro e w' ⟨rfl, ⟨nd, rfl⟩⟩) | (go_at_call 74; (with_reducible refine (lexer_span_word.calls _ _ _ _ HSP.out).mono ?_); rintro e w' ⟨rfl, ⟨nd, rfl⟩⟩) | (go_at_call 46; (with_reducible refine (lexer_keyword.calls _ _ _ HK.out ?gd).mono ?_); (case gd => exact Gd.below HG.out (by repeat (first | (with_reducible exact Below.refl _ _) | (with_reducible apply pw_below_drewN) | (with_reducible apply below_drew1) | (with_reducible apply below_alloc) | (with_reducible refine below_putN ?_ ?hb _; case hb => omega)))); rintro e w' ⟨rfl, ⟨nd, rfl⟩⟩) | (go_at_call 17; (with_reducible refine (lexer_IsName.calls _ _ _ HN.out ?gd).mono ?_); (case gd => exact Gd.below HG.out (by repeat (first | (with_reducible exact Below.refl _ _) | (with_reducible apply pw_below_drewN) | (with_reducible apply below_drew1) | (with_reducible apply below_alloc) | (with_reducible refine below_putN ?_ ?hb _; case hb => omega)))); rintro e w' ⟨rfl, ⟨nd, rfl⟩⟩) | (go_at_call 19; (with_reducible refine (lexer_IsType.calls _ _ _ HY.out).mono ?_); rintro e w' ⟨rfl, ⟨nd, rfl⟩⟩))
          refine bodyPost_ret (results_ctt rfl _ _ w.heap.size 36 #[.int .i64 2, .string (s.extract i n), .int .i64 i] (0, 0) _ rfl (by (with_reducible repeat (first | refine blk_drewN ?_ _ | refine blk_drew ?_ | refine blk_alloc ?_ _)); refine blk_put (cs := #[.int .i64 2, .string (s.extract i n), .int .i64 0]) ?_ 2 _ rfl; (with_reducible repeat (first | refine blk_drewN ?_ _ | refine blk_drew ?_ | refine blk_alloc ?_ _)); refine blk_put (cs := #[.int .i64 2, .string ⟨#[]⟩, .int .i64 0]) ?_ 1 _ rfl; (with_reducible repeat (first | refine blk_drewN ?_ _ | refine blk_drew ?_ | refine blk_alloc ?_ _)); refine blk_put (cs := #[.int .i64 0, .string ⟨#[]⟩, .int .i64 0]) ?_ 0 _ rfl; (with_reducible repeat (first | exact blk_new _ _ | refine blk_drewN ?_ _ | refine blk_drew ?_ | refine blk_far ?_ (Nat.ne_of_lt (Nat.lt_succ_self _)) _ | refine blk_alloc ?_ _))) Tryd.underlying36 rfl (by kernel_rfl)) rfl ⟨?_, ?_⟩
          · have ht := HT.out
            simp [Prod.mk.injEq] at ht
            obtain ⟨rfl, rfl, rfl⟩ := ht
            rfl
          · repeat (first | (with_reducible exact Below.refl _ _) | (with_reducible apply pw_below_drewN) | (with_reducible apply below_drew1) | (with_reducible apply below_alloc) | (with_reducible refine below_putN ?_ ?hb _; case hb => omega))
        | false =>
          go_enter Tryd.func62, Tryd.ntmps62
          go_wp2_with (first | (go_at_call 40; (with_reducible refine (lexer_small.calls _ _ _ HS.out).mono ?_); rintro e w' ⟨rfl, ⟨nd, rfl⟩⟩) | (go_at_call 51; (with_reducible refine (lexer_capital.calls _ _ _ HCp.out).mono ?_); rintro e w' ⟨rfl, ⟨nd, rfl⟩⟩) | (go_at_call 74; (with_reducible refine (lexer_span_word.calls _ _ _ _ HSP.out).mono ?_); rintro e w' ⟨rfl, ⟨nd, rfl⟩⟩) | (go_at_call 46; (with_reducible refine (lexer_keyword.calls _ _ _ HK.out ?gd).mono ?_); (case gd => exact Gd.below HG.out (by repeat (first | (with_reducible exact Below.refl _ _) | (with_reducible apply pw_below_drewN) | (with_reducible apply below_drew1) | (with_reducible apply below_alloc) | (with_reducible refine below_putN ?_ ?hb _; case hb => omega)))); rintro e w' ⟨rfl, ⟨nd, rfl⟩⟩) | (go_at_call 17; (with_reducible refine (lexer_IsName.calls _ _ _ HN.out ?gd).mono ?_); (case gd => exact Gd.below HG.out (by repeat (first | (with_reducible exact Below.refl _ _) | (with_reducible apply pw_below_drewN) | (with_reducible apply below_drew1) | (with_reducible apply below_alloc) | (with_reducible refine below_putN ?_ ?hb _; case hb => omega)))); rintro e w' ⟨rfl, ⟨nd, rfl⟩⟩) | (go_at_call 19; (with_reducible refine (lexer_IsType.calls _ _ _ HY.out).mono ?_); rintro e w' ⟨rfl, ⟨nd, rfl⟩⟩))
          refine bodyPost_ret (results_ctt rfl _ _ w.heap.size 36 #[.int .i64 0, .string (s.extract i n), .int .i64 i] (0, 0) _ rfl (by (with_reducible repeat (first | refine blk_drewN ?_ _ | refine blk_drew ?_ | refine blk_alloc ?_ _)); refine blk_put (cs := #[.int .i64 0, .string (s.extract i n), .int .i64 0]) ?_ 2 _ rfl; (with_reducible repeat (first | refine blk_drewN ?_ _ | refine blk_drew ?_ | refine blk_alloc ?_ _)); refine blk_put (cs := #[.int .i64 0, .string ⟨#[]⟩, .int .i64 0]) ?_ 1 _ rfl; (with_reducible repeat (first | refine blk_drewN ?_ _ | refine blk_drew ?_ | refine blk_alloc ?_ _)); refine blk_put (cs := #[.int .i64 0, .string ⟨#[]⟩, .int .i64 0]) ?_ 0 _ rfl; (with_reducible repeat (first | exact blk_new _ _ | refine blk_drewN ?_ _ | refine blk_drew ?_ | refine blk_far ?_ (Nat.ne_of_lt (Nat.lt_succ_self _)) _ | refine blk_alloc ?_ _))) Tryd.underlying36 rfl (by kernel_rfl)) rfl ⟨?_, ?_⟩
          · have ht := HT.out
            simp [Prod.mk.injEq] at ht
            obtain ⟨rfl, rfl, rfl⟩ := ht
            rfl
          · repeat (first | (with_reducible exact Below.refl _ _) | (with_reducible apply pw_below_drewN) | (with_reducible apply below_drew1) | (with_reducible apply below_alloc) | (with_reducible refine below_putN ?_ ?hb _; case hb => omega))
end
section
set_option linter.unusedSimpArgs false
open Go.RowKit Go.Proofs.YtmndicibakaceaaDoorW.PrintWords Go.Proofs.YtmndicibakaceaaDoorW.PrintLast Go.Proofs.YtmndicibakaceaaDoorW.PrintMore
set_option maxHeartbeats 4000000 in
set_option maxRecDepth 100000 in
theorem next_digit (s : ByteArray) (i : Nat) (w : World) (hs : s.size ≤ 1000000000) (h1 : i < s.size) (hc1 : isSmall (bt s i) = false) (hc2 : isCapital (bt s i) = false) (hc3 : isDigit (bt s i) = true) (t : S36) (e r : Int) (ht : nextTok s i = (t, e, r)) :
    Calls Tryd.prog 62 #[.string s, .int .i64 i] w fun e' w' => e' = .returned (.tuple #[.agg #[.int .i64 t.f0, .string t.f1, .int .i64 t.f2], .int .i64 e, .int .i64 r]) ∧ Below w.heap.size w w' := by
  have hx := bt_natL s i
  have hg := runEnd_ge isDigit s i
  have hl := runEnd_le isDigit s i (by omega)
  have HSP := Aside0.mk (show lexer_span_digit.f s i = some ((runEnd isDigit s i : Nat) : Int) from by
    unfold lexer_span_digit.f; rw [if_pos ⟨by omega, by omega, by omega⟩, runEnd_cast]; rfl)
  unfold nextTok at ht
  rw [hc1, hc2] at ht
  simp only [Bool.or_self, Bool.false_eq_true, if_false] at ht
  rw [if_pos hc3] at ht
  have HS := Aside0.mk (small_some (bt s i))
  have HCp := Aside0.mk (capital_some (bt s i))
  have HDg := Aside0.mk (digit_some (bt s i))
  generalize runEnd isDigit s i = n at *
  rw [hc1] at HS
  rw [hc2] at HCp
  rw [hc3] at HDg
  clear hc1 hc2 hc3
  have hxn := bt_natL s n
  have HW := Aside0.mk (word_some (bt s n))
  have hni : (((n - i : Nat)) : Int) = (n : Int) - (i : Int) := by omega
  by_cases g19 : 19 < n - i
  · rw [if_pos (Or.inl g19)] at ht
    have HT := Aside0.mk (show _ ∧ _ ∧ _ from ⟨congrArg (·.1) ht, congrArg (·.2.1) ht, congrArg (·.2.2) ht⟩)
    have g19a : decide (19 < n - i) = true := decide_eq_true g19
    have g19b : decide ((19 : Int) < (((n - i : Nat)) : Int)) = true := decide_eq_true (by omega)
    clear ht g19 hni
    go_enter Tryd.func62, Tryd.ntmps62
    go_wp2_with (first | (go_at_call 40; (with_reducible refine (lexer_small.calls _ _ _ HS.out).mono ?_); rintro e w' ⟨rfl, ⟨nd, rfl⟩⟩) | (go_at_call 51; (with_reducible refine (lexer_capital.calls _ _ _ HCp.out).mono ?_); rintro e w' ⟨rfl, ⟨nd, rfl⟩⟩) | (go_at_call 41; (with_reducible refine (lexer_digit.calls _ _ _ HDg.out).mono ?_); rintro e w' ⟨rfl, ⟨nd, rfl⟩⟩) | (go_at_call 74; (with_reducible refine (lexer_span_digit.calls _ _ _ _ HSP.out).mono ?_); rintro e w' ⟨rfl, ⟨nd, rfl⟩⟩))
    go_region
    go_wp2_with (first | (go_at_call 40; (with_reducible refine (lexer_small.calls _ _ _ HS.out).mono ?_); rintro e w' ⟨rfl, ⟨nd, rfl⟩⟩) | (go_at_call 51; (with_reducible refine (lexer_capital.calls _ _ _ HCp.out).mono ?_); rintro e w' ⟨rfl, ⟨nd, rfl⟩⟩) | (go_at_call 41; (with_reducible refine (lexer_digit.calls _ _ _ HDg.out).mono ?_); rintro e w' ⟨rfl, ⟨nd, rfl⟩⟩) | (go_at_call 74; (with_reducible refine (lexer_span_digit.calls _ _ _ _ HSP.out).mono ?_); rintro e w' ⟨rfl, ⟨nd, rfl⟩⟩))
    refine bodyPost_ret (results_ctt rfl _ _ w.heap.size 36 #[.int .i64 3, .string (s.extract i n), .int .i64 i] (0, 0) _ rfl (by (with_reducible repeat (first | refine blk_drewN ?_ _ | refine blk_drew ?_ | refine blk_alloc ?_ _)); refine blk_put (cs := #[.int .i64 3, .string (s.extract i n), .int .i64 0]) ?_ 2 _ rfl; (with_reducible repeat (first | refine blk_drewN ?_ _ | refine blk_drew ?_ | refine blk_alloc ?_ _)); refine blk_put (cs := #[.int .i64 3, .string ⟨#[]⟩, .int .i64 0]) ?_ 1 _ rfl; (with_reducible repeat (first | refine blk_drewN ?_ _ | refine blk_drew ?_ | refine blk_alloc ?_ _)); refine blk_put (cs := #[.int .i64 0, .string ⟨#[]⟩, .int .i64 0]) ?_ 0 _ rfl; (with_reducible repeat (first | exact blk_new _ _ | refine blk_drewN ?_ _ | refine blk_drew ?_ | refine blk_far ?_ (Nat.ne_of_lt (Nat.lt_succ_self _)) _ | refine blk_alloc ?_ _))) Tryd.underlying36 rfl (by kernel_rfl)) rfl ⟨?_, ?_⟩
    · obtain ⟨rfl, rfl, rfl⟩ := HT.out
      rfl
    · repeat (first | (with_reducible exact Below.refl _ _) | (with_reducible apply pw_below_drewN) | (with_reducible apply below_drew1) | (with_reducible apply below_alloc) | (with_reducible refine below_putN ?_ ?hb _; case hb => omega))
  · have g19a : decide (19 < n - i) = false := decide_eq_false g19
    have g19b : decide ((19 : Int) < (((n - i : Nat)) : Int)) = false := decide_eq_false (by omega)
    by_cases g0 : 1 < n - i ∧ bt s i = 48
    · rw [if_pos (Or.inr (Or.inl g0))] at ht
      have HT := Aside0.mk (show _ ∧ _ ∧ _ from ⟨congrArg (·.1) ht, congrArg (·.2.1) ht, congrArg (·.2.2) ht⟩)
      have g1a : decide (1 < n - i) = true := decide_eq_true g0.1
      have g1b : decide ((1 : Int) < (((n - i : Nat)) : Int)) = true := decide_eq_true (by omega)
      have g48 : (bt s i == 48) = true := beq_iff_eq.2 g0.2
      clear ht g19 g0 hni
      go_enter Tryd.func62, Tryd.ntmps62
      go_wp2_with (first | (go_at_call 40; (with_reducible refine (lexer_small.calls _ _ _ HS.out).mono ?_); rintro e w' ⟨rfl, ⟨nd, rfl⟩⟩) | (go_at_call 51; (with_reducible refine (lexer_capital.calls _ _ _ HCp.out).mono ?_); rintro e w' ⟨rfl, ⟨nd, rfl⟩⟩) | (go_at_call 41; (with_reducible refine (lexer_digit.calls _ _ _ HDg.out).mono ?_); rintro e w' ⟨rfl, ⟨nd, rfl⟩⟩) | (go_at_call 74; (with_reducible refine (lexer_span_digit.calls _ _ _ _ HSP.out).mono ?_); rintro e w' ⟨rfl, ⟨nd, rfl⟩⟩))
      go_region
      go_wp2_with (first | (go_at_call 40; (with_reducible refine (lexer_small.calls _ _ _ HS.out).mono ?_); rintro e w' ⟨rfl, ⟨nd, rfl⟩⟩) | (go_at_call 51; (with_reducible refine (lexer_capital.calls _ _ _ HCp.out).mono ?_); rintro e w' ⟨rfl, ⟨nd, rfl⟩⟩) | (go_at_call 41; (with_reducible refine (lexer_digit.calls _ _ _ HDg.out).mono ?_); rintro e w' ⟨rfl, ⟨nd, rfl⟩⟩) | (go_at_call 74; (with_reducible refine (lexer_span_digit.calls _ _ _ _ HSP.out).mono ?_); rintro e w' ⟨rfl, ⟨nd, rfl⟩⟩))
      refine bodyPost_ret (results_ctt rfl _ _ w.heap.size 36 #[.int .i64 3, .string (s.extract i n), .int .i64 i] (0, 0) _ rfl (by (with_reducible repeat (first | refine blk_drewN ?_ _ | refine blk_drew ?_ | refine blk_alloc ?_ _)); refine blk_put (cs := #[.int .i64 3, .string (s.extract i n), .int .i64 0]) ?_ 2 _ rfl; (with_reducible repeat (first | refine blk_drewN ?_ _ | refine blk_drew ?_ | refine blk_alloc ?_ _)); refine blk_put (cs := #[.int .i64 3, .string ⟨#[]⟩, .int .i64 0]) ?_ 1 _ rfl; (with_reducible repeat (first | refine blk_drewN ?_ _ | refine blk_drew ?_ | refine blk_alloc ?_ _)); refine blk_put (cs := #[.int .i64 0, .string ⟨#[]⟩, .int .i64 0]) ?_ 0 _ rfl; (with_reducible repeat (first | exact blk_new _ _ | refine blk_drewN ?_ _ | refine blk_drew ?_ | refine blk_far ?_ (Nat.ne_of_lt (Nat.lt_succ_self _)) _ | refine blk_alloc ?_ _))) Tryd.underlying36 rfl (by kernel_rfl)) rfl ⟨?_, ?_⟩
      · obtain ⟨rfl, rfl, rfl⟩ := HT.out
        rfl
      · repeat (first | (with_reducible exact Below.refl _ _) | (with_reducible apply pw_below_drewN) | (with_reducible apply below_drew1) | (with_reducible apply below_alloc) | (with_reducible refine below_putN ?_ ?hb _; case hb => omega))
    · have hcase : (decide (1 < n - i) = false ∧ decide ((1 : Int) < (((n - i : Nat)) : Int)) = false) ∨ (decide (1 < n - i) = true ∧ decide ((1 : Int) < (((n - i : Nat)) : Int)) = true ∧ (bt s i == 48) = false) := by
        by_cases h : 1 < n - i
        · exact .inr ⟨decide_eq_true h, decide_eq_true (by omega), beq_eq_false_iff_ne.2 (fun e => g0 ⟨h, e⟩)⟩
        · exact .inl ⟨decide_eq_false h, decide_eq_false (by omega)⟩
      by_cases ge : n < s.size
      · have gea : decide (n < s.size) = true := decide_eq_true ge
        have geb : decide ((n : Int) < (s.size : Int)) = true := decide_eq_true (by omega)
        cases hw : isWord (bt s n) with
        | true =>
          rw [if_pos (Or.inr (Or.inr ⟨ge, hw⟩))] at ht
          have HT := Aside0.mk (show _ ∧ _ ∧ _ from ⟨congrArg (·.1) ht, congrArg (·.2.1) ht, congrArg (·.2.2) ht⟩)
          rw [hw] at HW
          clear ht g19 g0 hni hw
          rcases hcase with ⟨g1a, g1b⟩ | ⟨g1a, g1b, g48⟩
          · go_enter Tryd.func62, Tryd.ntmps62
            go_wp2_with (first | (go_at_call 40; (with_reducible refine (lexer_small.calls _ _ _ HS.out).mono ?_); rintro e w' ⟨rfl, ⟨nd, rfl⟩⟩) | (go_at_call 51; (with_reducible refine (lexer_capital.calls _ _ _ HCp.out).mono ?_); rintro e w' ⟨rfl, ⟨nd, rfl⟩⟩) | (go_at_call 41; (with_reducible refine (lexer_digit.calls _ _ _ HDg.out).mono ?_); rintro e w' ⟨rfl, ⟨nd, rfl⟩⟩) | (go_at_call 74; (with_reducible refine (lexer_span_digit.calls _ _ _ _ HSP.out).mono ?_); rintro e w' ⟨rfl, ⟨nd, rfl⟩⟩) | (go_at_call 45; (with_reducible refine (lexer_word.calls _ _ _ HW.out).mono ?_); rintro e w' ⟨rfl, ⟨nd, rfl⟩⟩))
            go_region
            go_wp2_with (first | (go_at_call 40; (with_reducible refine (lexer_small.calls _ _ _ HS.out).mono ?_); rintro e w' ⟨rfl, ⟨nd, rfl⟩⟩) | (go_at_call 51; (with_reducible refine (lexer_capital.calls _ _ _ HCp.out).mono ?_); rintro e w' ⟨rfl, ⟨nd, rfl⟩⟩) | (go_at_call 41; (with_reducible refine (lexer_digit.calls _ _ _ HDg.out).mono ?_); rintro e w' ⟨rfl, ⟨nd, rfl⟩⟩) | (go_at_call 74; (with_reducible refine (lexer_span_digit.calls _ _ _ _ HSP.out).mono ?_); rintro e w' ⟨rfl, ⟨nd, rfl⟩⟩) | (go_at_call 45; (with_reducible refine (lexer_word.calls _ _ _ HW.out).mono ?_); rintro e w' ⟨rfl, ⟨nd, rfl⟩⟩))
            refine bodyPost_ret (results_ctt rfl _ _ w.heap.size 36 #[.int .i64 3, .string (s.extract i n), .int .i64 i] (0, 0) _ rfl (by (with_reducible repeat (first | refine blk_drewN ?_ _ | refine blk_drew ?_ | refine blk_alloc ?_ _)); refine blk_put (cs := #[.int .i64 3, .string (s.extract i n), .int .i64 0]) ?_ 2 _ rfl; (with_reducible repeat (first | refine blk_drewN ?_ _ | refine blk_drew ?_ | refine blk_alloc ?_ _)); refine blk_put (cs := #[.int .i64 3, .string ⟨#[]⟩, .int .i64 0]) ?_ 1 _ rfl; (with_reducible repeat (first | refine blk_drewN ?_ _ | refine blk_drew ?_ | refine blk_alloc ?_ _)); refine blk_put (cs := #[.int .i64 0, .string ⟨#[]⟩, .int .i64 0]) ?_ 0 _ rfl; (with_reducible repeat (first | exact blk_new _ _ | refine blk_drewN ?_ _ | refine blk_drew ?_ | refine blk_far ?_ (Nat.ne_of_lt (Nat.lt_succ_self _)) _ | refine blk_alloc ?_ _))) Tryd.underlying36 rfl (by kernel_rfl)) rfl ⟨?_, ?_⟩
            · obtain ⟨rfl, rfl, rfl⟩ := HT.out
              rfl
            · repeat (first | (with_reducible exact Below.refl _ _) | (with_reducible apply pw_below_drewN) | (with_reducible apply below_drew1) | (with_reducible apply below_alloc) | (with_reducible refine below_putN ?_ ?hb _; case hb => omega))
          · go_enter Tryd.func62, Tryd.ntmps62
            go_wp2_with (first | (go_at_call 40; (with_reducible refine (lexer_small.calls _ _ _ HS.out).mono ?_); rintro e w' ⟨rfl, ⟨nd, rfl⟩⟩) | (go_at_call 51; (with_reducible refine (lexer_capital.calls _ _ _ HCp.out).mono ?_); rintro e w' ⟨rfl, ⟨nd, rfl⟩⟩) | (go_at_call 41; (with_reducible refine (lexer_digit.calls _ _ _ HDg.out).mono ?_); rintro e w' ⟨rfl, ⟨nd, rfl⟩⟩) | (go_at_call 74; (with_reducible refine (lexer_span_digit.calls _ _ _ _ HSP.out).mono ?_); rintro e w' ⟨rfl, ⟨nd, rfl⟩⟩) | (go_at_call 45; (with_reducible refine (lexer_word.calls _ _ _ HW.out).mono ?_); rintro e w' ⟨rfl, ⟨nd, rfl⟩⟩))
            go_region
            go_wp2_with (first | (go_at_call 40; (with_reducible refine (lexer_small.calls _ _ _ HS.out).mono ?_); rintro e w' ⟨rfl, ⟨nd, rfl⟩⟩) | (go_at_call 51; (with_reducible refine (lexer_capital.calls _ _ _ HCp.out).mono ?_); rintro e w' ⟨rfl, ⟨nd, rfl⟩⟩) | (go_at_call 41; (with_reducible refine (lexer_digit.calls _ _ _ HDg.out).mono ?_); rintro e w' ⟨rfl, ⟨nd, rfl⟩⟩) | (go_at_call 74; (with_reducible refine (lexer_span_digit.calls _ _ _ _ HSP.out).mono ?_); rintro e w' ⟨rfl, ⟨nd, rfl⟩⟩) | (go_at_call 45; (with_reducible refine (lexer_word.calls _ _ _ HW.out).mono ?_); rintro e w' ⟨rfl, ⟨nd, rfl⟩⟩))
            refine bodyPost_ret (results_ctt rfl _ _ w.heap.size 36 #[.int .i64 3, .string (s.extract i n), .int .i64 i] (0, 0) _ rfl (by (with_reducible repeat (first | refine blk_drewN ?_ _ | refine blk_drew ?_ | refine blk_alloc ?_ _)); refine blk_put (cs := #[.int .i64 3, .string (s.extract i n), .int .i64 0]) ?_ 2 _ rfl; (with_reducible repeat (first | refine blk_drewN ?_ _ | refine blk_drew ?_ | refine blk_alloc ?_ _)); refine blk_put (cs := #[.int .i64 3, .string ⟨#[]⟩, .int .i64 0]) ?_ 1 _ rfl; (with_reducible repeat (first | refine blk_drewN ?_ _ | refine blk_drew ?_ | refine blk_alloc ?_ _)); refine blk_put (cs := #[.int .i64 0, .string ⟨#[]⟩, .int .i64 0]) ?_ 0 _ rfl; (with_reducible repeat (first | exact blk_new _ _ | refine blk_drewN ?_ _ | refine blk_drew ?_ | refine blk_far ?_ (Nat.ne_of_lt (Nat.lt_succ_self _)) _ | refine blk_alloc ?_ _))) Tryd.underlying36 rfl (by kernel_rfl)) rfl ⟨?_, ?_⟩
            · obtain ⟨rfl, rfl, rfl⟩ := HT.out
              rfl
            · repeat (first | (with_reducible exact Below.refl _ _) | (with_reducible apply pw_below_drewN) | (with_reducible apply below_drew1) | (with_reducible apply below_alloc) | (with_reducible refine below_putN ?_ ?hb _; case hb => omega))
        | false =>
          rw [if_neg (by rintro (h | h | h) <;> first | exact g19 h | exact g0 h | (rw [hw] at h; exact absurd h.2 (by simp)))] at ht
          have HT := Aside0.mk (show _ ∧ _ ∧ _ from ⟨congrArg (·.1) ht, congrArg (·.2.1) ht, congrArg (·.2.2) ht⟩)
          rw [hw] at HW
          clear ht g19 g0 hni hw
          rcases hcase with ⟨g1a, g1b⟩ | ⟨g1a, g1b, g48⟩
          · go_enter Tryd.func62, Tryd.ntmps62
            go_wp2_with (first | (go_at_call 40; (with_reducible refine (lexer_small.calls _ _ _ HS.out).mono ?_); rintro e w' ⟨rfl, ⟨nd, rfl⟩⟩) | (go_at_call 51; (with_reducible refine (lexer_capital.calls _ _ _ HCp.out).mono ?_); rintro e w' ⟨rfl, ⟨nd, rfl⟩⟩) | (go_at_call 41; (with_reducible refine (lexer_digit.calls _ _ _ HDg.out).mono ?_); rintro e w' ⟨rfl, ⟨nd, rfl⟩⟩) | (go_at_call 74; (with_reducible refine (lexer_span_digit.calls _ _ _ _ HSP.out).mono ?_); rintro e w' ⟨rfl, ⟨nd, rfl⟩⟩) | (go_at_call 45; (with_reducible refine (lexer_word.calls _ _ _ HW.out).mono ?_); rintro e w' ⟨rfl, ⟨nd, rfl⟩⟩))
            go_region
            go_wp2_with (first | (go_at_call 40; (with_reducible refine (lexer_small.calls _ _ _ HS.out).mono ?_); rintro e w' ⟨rfl, ⟨nd, rfl⟩⟩) | (go_at_call 51; (with_reducible refine (lexer_capital.calls _ _ _ HCp.out).mono ?_); rintro e w' ⟨rfl, ⟨nd, rfl⟩⟩) | (go_at_call 41; (with_reducible refine (lexer_digit.calls _ _ _ HDg.out).mono ?_); rintro e w' ⟨rfl, ⟨nd, rfl⟩⟩) | (go_at_call 74; (with_reducible refine (lexer_span_digit.calls _ _ _ _ HSP.out).mono ?_); rintro e w' ⟨rfl, ⟨nd, rfl⟩⟩) | (go_at_call 45; (with_reducible refine (lexer_word.calls _ _ _ HW.out).mono ?_); rintro e w' ⟨rfl, ⟨nd, rfl⟩⟩))
            refine bodyPost_ret (results_ctt rfl _ _ w.heap.size 36 #[.int .i64 3, .string (s.extract i n), .int .i64 i] (0, 0) _ rfl (by (with_reducible repeat (first | refine blk_drewN ?_ _ | refine blk_drew ?_ | refine blk_alloc ?_ _)); refine blk_put (cs := #[.int .i64 3, .string (s.extract i n), .int .i64 0]) ?_ 2 _ rfl; (with_reducible repeat (first | refine blk_drewN ?_ _ | refine blk_drew ?_ | refine blk_alloc ?_ _)); refine blk_put (cs := #[.int .i64 3, .string ⟨#[]⟩, .int .i64 0]) ?_ 1 _ rfl; (with_reducible repeat (first | refine blk_drewN ?_ _ | refine blk_drew ?_ | refine blk_alloc ?_ _)); refine blk_put (cs := #[.int .i64 0, .string ⟨#[]⟩, .int .i64 0]) ?_ 0 _ rfl; (with_reducible repeat (first | exact blk_new _ _ | refine blk_drewN ?_ _ | refine blk_drew ?_ | refine blk_far ?_ (Nat.ne_of_lt (Nat.lt_succ_self _)) _ | refine blk_alloc ?_ _))) Tryd.underlying36 rfl (by kernel_rfl)) rfl ⟨?_, ?_⟩
            · obtain ⟨rfl, rfl, rfl⟩ := HT.out
              rfl
            · repeat (first | (with_reducible exact Below.refl _ _) | (with_reducible apply pw_below_drewN) | (with_reducible apply below_drew1) | (with_reducible apply below_alloc) | (with_reducible refine below_putN ?_ ?hb _; case hb => omega))
          · go_enter Tryd.func62, Tryd.ntmps62
            go_wp2_with (first | (go_at_call 40; (with_reducible refine (lexer_small.calls _ _ _ HS.out).mono ?_); rintro e w' ⟨rfl, ⟨nd, rfl⟩⟩) | (go_at_call 51; (with_reducible refine (lexer_capital.calls _ _ _ HCp.out).mono ?_); rintro e w' ⟨rfl, ⟨nd, rfl⟩⟩) | (go_at_call 41; (with_reducible refine (lexer_digit.calls _ _ _ HDg.out).mono ?_); rintro e w' ⟨rfl, ⟨nd, rfl⟩⟩) | (go_at_call 74; (with_reducible refine (lexer_span_digit.calls _ _ _ _ HSP.out).mono ?_); rintro e w' ⟨rfl, ⟨nd, rfl⟩⟩) | (go_at_call 45; (with_reducible refine (lexer_word.calls _ _ _ HW.out).mono ?_); rintro e w' ⟨rfl, ⟨nd, rfl⟩⟩))
            go_region
            go_wp2_with (first | (go_at_call 40; (with_reducible refine (lexer_small.calls _ _ _ HS.out).mono ?_); rintro e w' ⟨rfl, ⟨nd, rfl⟩⟩) | (go_at_call 51; (with_reducible refine (lexer_capital.calls _ _ _ HCp.out).mono ?_); rintro e w' ⟨rfl, ⟨nd, rfl⟩⟩) | (go_at_call 41; (with_reducible refine (lexer_digit.calls _ _ _ HDg.out).mono ?_); rintro e w' ⟨rfl, ⟨nd, rfl⟩⟩) | (go_at_call 74; (with_reducible refine (lexer_span_digit.calls _ _ _ _ HSP.out).mono ?_); rintro e w' ⟨rfl, ⟨nd, rfl⟩⟩) | (go_at_call 45; (with_reducible refine (lexer_word.calls _ _ _ HW.out).mono ?_); rintro e w' ⟨rfl, ⟨nd, rfl⟩⟩))
            refine bodyPost_ret (results_ctt rfl _ _ w.heap.size 36 #[.int .i64 3, .string (s.extract i n), .int .i64 i] (0, 0) _ rfl (by (with_reducible repeat (first | refine blk_drewN ?_ _ | refine blk_drew ?_ | refine blk_alloc ?_ _)); refine blk_put (cs := #[.int .i64 3, .string (s.extract i n), .int .i64 0]) ?_ 2 _ rfl; (with_reducible repeat (first | refine blk_drewN ?_ _ | refine blk_drew ?_ | refine blk_alloc ?_ _)); refine blk_put (cs := #[.int .i64 3, .string ⟨#[]⟩, .int .i64 0]) ?_ 1 _ rfl; (with_reducible repeat (first | refine blk_drewN ?_ _ | refine blk_drew ?_ | refine blk_alloc ?_ _)); refine blk_put (cs := #[.int .i64 0, .string ⟨#[]⟩, .int .i64 0]) ?_ 0 _ rfl; (with_reducible repeat (first | exact blk_new _ _ | refine blk_drewN ?_ _ | refine blk_drew ?_ | refine blk_far ?_ (Nat.ne_of_lt (Nat.lt_succ_self _)) _ | refine blk_alloc ?_ _))) Tryd.underlying36 rfl (by kernel_rfl)) rfl ⟨?_, ?_⟩
            · obtain ⟨rfl, rfl, rfl⟩ := HT.out
              rfl
            · repeat (first | (with_reducible exact Below.refl _ _) | (with_reducible apply pw_below_drewN) | (with_reducible apply below_drew1) | (with_reducible apply below_alloc) | (with_reducible refine below_putN ?_ ?hb _; case hb => omega))
      · rw [if_neg (by rintro (h | h | h) <;> first | exact g19 h | exact g0 h | exact ge h.1)] at ht
        have HT := Aside0.mk (show _ ∧ _ ∧ _ from ⟨congrArg (·.1) ht, congrArg (·.2.1) ht, congrArg (·.2.2) ht⟩)
        have gea : decide (n < s.size) = false := decide_eq_false ge
        have geb : decide ((n : Int) < (s.size : Int)) = false := decide_eq_false (by omega)
        clear ht g19 g0 hni ge
        rcases hcase with ⟨g1a, g1b⟩ | ⟨g1a, g1b, g48⟩
        · go_enter Tryd.func62, Tryd.ntmps62
          go_wp2_with (first | (go_at_call 40; (with_reducible refine (lexer_small.calls _ _ _ HS.out).mono ?_); rintro e w' ⟨rfl, ⟨nd, rfl⟩⟩) | (go_at_call 51; (with_reducible refine (lexer_capital.calls _ _ _ HCp.out).mono ?_); rintro e w' ⟨rfl, ⟨nd, rfl⟩⟩) | (go_at_call 41; (with_reducible refine (lexer_digit.calls _ _ _ HDg.out).mono ?_); rintro e w' ⟨rfl, ⟨nd, rfl⟩⟩) | (go_at_call 74; (with_reducible refine (lexer_span_digit.calls _ _ _ _ HSP.out).mono ?_); rintro e w' ⟨rfl, ⟨nd, rfl⟩⟩))
          go_region
          go_wp2_with (first | (go_at_call 40; (with_reducible refine (lexer_small.calls _ _ _ HS.out).mono ?_); rintro e w' ⟨rfl, ⟨nd, rfl⟩⟩) | (go_at_call 51; (with_reducible refine (lexer_capital.calls _ _ _ HCp.out).mono ?_); rintro e w' ⟨rfl, ⟨nd, rfl⟩⟩) | (go_at_call 41; (with_reducible refine (lexer_digit.calls _ _ _ HDg.out).mono ?_); rintro e w' ⟨rfl, ⟨nd, rfl⟩⟩) | (go_at_call 74; (with_reducible refine (lexer_span_digit.calls _ _ _ _ HSP.out).mono ?_); rintro e w' ⟨rfl, ⟨nd, rfl⟩⟩))
          refine bodyPost_ret (results_ctt rfl _ _ w.heap.size 36 #[.int .i64 3, .string (s.extract i n), .int .i64 i] (0, 0) _ rfl (by (with_reducible repeat (first | refine blk_drewN ?_ _ | refine blk_drew ?_ | refine blk_alloc ?_ _)); refine blk_put (cs := #[.int .i64 3, .string (s.extract i n), .int .i64 0]) ?_ 2 _ rfl; (with_reducible repeat (first | refine blk_drewN ?_ _ | refine blk_drew ?_ | refine blk_alloc ?_ _)); refine blk_put (cs := #[.int .i64 3, .string ⟨#[]⟩, .int .i64 0]) ?_ 1 _ rfl; (with_reducible repeat (first | refine blk_drewN ?_ _ | refine blk_drew ?_ | refine blk_alloc ?_ _)); refine blk_put (cs := #[.int .i64 0, .string ⟨#[]⟩, .int .i64 0]) ?_ 0 _ rfl; (with_reducible repeat (first | exact blk_new _ _ | refine blk_drewN ?_ _ | refine blk_drew ?_ | refine blk_far ?_ (Nat.ne_of_lt (Nat.lt_succ_self _)) _ | refine blk_alloc ?_ _))) Tryd.underlying36 rfl (by kernel_rfl)) rfl ⟨?_, ?_⟩
          · obtain ⟨rfl, rfl, rfl⟩ := HT.out
            rfl
          · repeat (first | (with_reducible exact Below.refl _ _) | (with_reducible apply pw_below_drewN) | (with_reducible apply below_drew1) | (with_reducible apply below_alloc) | (with_reducible refine below_putN ?_ ?hb _; case hb => omega))
        · go_enter Tryd.func62, Tryd.ntmps62
          go_wp2_with (first | (go_at_call 40; (with_reducible refine (lexer_small.calls _ _ _ HS.out).mono ?_); rintro e w' ⟨rfl, ⟨nd, rfl⟩⟩) | (go_at_call 51; (with_reducible refine (lexer_capital.calls _ _ _ HCp.out).mono ?_); rintro e w' ⟨rfl, ⟨nd, rfl⟩⟩) | (go_at_call 41; (with_reducible refine (lexer_digit.calls _ _ _ HDg.out).mono ?_); rintro e w' ⟨rfl, ⟨nd, rfl⟩⟩) | (go_at_call 74; (with_reducible refine (lexer_span_digit.calls _ _ _ _ HSP.out).mono ?_); rintro e w' ⟨rfl, ⟨nd, rfl⟩⟩))
          go_region
          go_wp2_with (first | (go_at_call 40; (with_reducible refine (lexer_small.calls _ _ _ HS.out).mono ?_); rintro e w' ⟨rfl, ⟨nd, rfl⟩⟩) | (go_at_call 51; (with_reducible refine (lexer_capital.calls _ _ _ HCp.out).mono ?_); rintro e w' ⟨rfl, ⟨nd, rfl⟩⟩) | (go_at_call 41; (with_reducible refine (lexer_digit.calls _ _ _ HDg.out).mono ?_); rintro e w' ⟨rfl, ⟨nd, rfl⟩⟩) | (go_at_call 74; (with_reducible refine (lexer_span_digit.calls _ _ _ _ HSP.out).mono ?_); rintro e w' ⟨rfl, ⟨nd, rfl⟩⟩))
          refine bodyPost_ret (results_ctt rfl _ _ w.heap.size 36 #[.int .i64 3, .string (s.extract i n), .int .i64 i] (0, 0) _ rfl (by (with_reducible repeat (first | refine blk_drewN ?_ _ | refine blk_drew ?_ | refine blk_alloc ?_ _)); refine blk_put (cs := #[.int .i64 3, .string (s.extract i n), .int .i64 0]) ?_ 2 _ rfl; (with_reducible repeat (first | refine blk_drewN ?_ _ | refine blk_drew ?_ | refine blk_alloc ?_ _)); refine blk_put (cs := #[.int .i64 3, .string ⟨#[]⟩, .int .i64 0]) ?_ 1 _ rfl; (with_reducible repeat (first | refine blk_drewN ?_ _ | refine blk_drew ?_ | refine blk_alloc ?_ _)); refine blk_put (cs := #[.int .i64 0, .string ⟨#[]⟩, .int .i64 0]) ?_ 0 _ rfl; (with_reducible repeat (first | exact blk_new _ _ | refine blk_drewN ?_ _ | refine blk_drew ?_ | refine blk_far ?_ (Nat.ne_of_lt (Nat.lt_succ_self _)) _ | refine blk_alloc ?_ _))) Tryd.underlying36 rfl (by kernel_rfl)) rfl ⟨?_, ?_⟩
          · obtain ⟨rfl, rfl, rfl⟩ := HT.out
            rfl
          · repeat (first | (with_reducible exact Below.refl _ _) | (with_reducible apply pw_below_drewN) | (with_reducible apply below_drew1) | (with_reducible apply below_alloc) | (with_reducible refine below_putN ?_ ?hb _; case hb => omega))
end
section
open Go.RowKit Go.Proofs.YtmndicibakaceaaDoorW.PrintWords Go.Proofs.YtmndicibakaceaaDoorW.PrintLast Go.Proofs.YtmndicibakaceaaDoorW.PrintMore
theorem blk_new2 (w : World) (o1 o2 : Obj) : ((w.alloc o1).alloc o2).heap[w.heap.size + 1]? = some o2 := by
  have h := blk_new (w.alloc o1) o2
  simpa using h
set_option maxHeartbeats 4000000 in
set_option maxRecDepth 100000 in
theorem next_text (s : ByteArray) (i : Nat) (w : World) (hs : s.size ≤ 1000000000) (h1 : i < s.size) (hc1 : isSmall (bt s i) = false) (hc2 : isCapital (bt s i) = false) (hc3 : isDigit (bt s i) = false) (hc4 : bt s i = 34) (t : S36) (e r : Int) (ht : nextTok s i = (t, e, r)) :
    Calls Tryd.prog 62 #[.string s, .int .i64 i] w fun e' w' => e' = .returned (.tuple #[.agg #[.int .i64 t.f0, .string t.f1, .int .i64 t.f2], .int .i64 e, .int .i64 r]) ∧ Below w.heap.size w w' := by
  have hx := bt_natL s i
  unfold nextTok at ht
  rw [hc1, hc2, hc3] at ht
  simp only [Bool.or_self, Bool.false_eq_true, if_false] at ht
  rw [if_pos hc4] at ht
  have HS := Aside0.mk (small_some (bt s i))
  have HCp := Aside0.mk (capital_some (bt s i))
  have HDg := Aside0.mk (digit_some (bt s i))
  rw [hc1] at HS
  rw [hc2] at HCp
  rw [hc3] at HDg
  have g34 : (bt s i == 34) = true := beq_iff_eq.2 hc4
  have hlit : lexer_literal.f s i = some (litRes (litLoop s (s.size - (i + 1)) (i + 1) [])) := by
    unfold lexer_literal.f; rw [if_pos ⟨hs, by omega, by omega⟩]; rfl
  clear hc1 hc2 hc3 hc4
  cases hq : litLoop s (s.size - (i + 1)) (i + 1) [] with
  | none =>
    rw [hq] at ht hlit
    have HLt := Aside0.mk (show lexer_literal.f s i = some ((⟨#[]⟩ : ByteArray), 0, false) from hlit)
    have HT := Aside0.mk (show _ ∧ _ ∧ _ from ⟨congrArg (·.1) ht, congrArg (·.2.1) ht, congrArg (·.2.2) ht⟩)
    clear ht hlit hq
    go_enter Tryd.func62, Tryd.ntmps62
    go_wp2_with (first | (go_at_call 40; (with_reducible refine (lexer_small.calls _ _ _ HS.out).mono ?_); rintro e w' ⟨rfl, ⟨nd, rfl⟩⟩) | (go_at_call 51; (with_reducible refine (lexer_capital.calls _ _ _ HCp.out).mono ?_); rintro e w' ⟨rfl, ⟨nd, rfl⟩⟩) | (go_at_call 41; (with_reducible refine (lexer_digit.calls _ _ _ HDg.out).mono ?_); rintro e w' ⟨rfl, ⟨nd, rfl⟩⟩) | (go_at_call 75; (with_reducible refine (lexer_literal.calls _ _ _ _ _ _ HLt.out).mono ?_); rintro e w2 ⟨rfl, hb2⟩; have hT : w2.heap[w.heap.size + 1]? = some (.cells #[.int .i64 0, .string ⟨#[]⟩, .int .i64 i] 36 (0, 0)) := blk_below (by (with_reducible repeat (first | refine blk_drewN ?_ _ | refine blk_drew ?_)); exact blk_new2 _ _ _) hb2; have hR : w2.heap[w.heap.size]? = some (.cells #[.int .i64 0, .string ⟨#[]⟩, .int .i64 0] 36 (0, 0)) := blk_below (by (with_reducible repeat (first | exact blk_new _ _ | refine blk_drewN ?_ _ | refine blk_drew ?_ | refine blk_far ?_ (Nat.ne_of_lt (Nat.lt_succ_self _)) _ | refine blk_alloc ?_ _))) hb2; have chT0 := blk_cell hT 0; have fhT0 := blk_frozen hT 0; simp only [List.getElem?_toArray, List.getElem?_cons_zero, List.getElem?_cons_succ] at chT0; have chT1 := blk_cell hT 1; have fhT1 := blk_frozen hT 1; simp only [List.getElem?_toArray, List.getElem?_cons_zero, List.getElem?_cons_succ] at chT1; have chT2 := blk_cell hT 2; have fhT2 := blk_frozen hT 2; simp only [List.getElem?_toArray, List.getElem?_cons_zero, List.getElem?_cons_succ] at chT2; have chR0 := blk_cell hR 0; have fhR0 := blk_frozen hR 0; simp only [List.getElem?_toArray, List.getElem?_cons_zero, List.getElem?_cons_succ] at chR0; have chR1 := blk_cell hR 1; have fhR1 := blk_frozen hR 1; simp only [List.getElem?_toArray, List.getElem?_cons_zero, List.getElem?_cons_succ] at chR1; have chR2 := blk_cell hR 2; have fhR2 := blk_frozen hR 2; simp only [List.getElem?_toArray, List.getElem?_cons_zero, List.getElem?_cons_succ] at chR2; have HB2 := Aside0.mk (Below.trans (B := w.heap.size) (a := w) (by repeat (first | (with_reducible exact Below.refl _ _) | (with_reducible apply pw_below_drewN) | (with_reducible apply below_drew1) | (with_reducible apply below_alloc) | (with_reducible refine below_putN ?_ ?hb _; case hb => omega))) (hb2.mono (by simp <;> omega))); have HR := Aside0.mk hR; clear hb2 hT hR))
    refine bodyPost_ret (results_ctt rfl _ _ w.heap.size 36 #[.int .i64 0, .string ⟨#[]⟩, .int .i64 i] (0, 0) _ rfl (by (with_reducible repeat (first | refine blk_drewN ?_ _ | refine blk_drew ?_ | refine blk_alloc ?_ _)); refine blk_put (cs := #[.int .i64 0, .string ⟨#[]⟩, .int .i64 0]) ?_ 2 _ rfl; (with_reducible repeat (first | refine blk_drewN ?_ _ | refine blk_drew ?_ | refine blk_alloc ?_ _)); refine blk_put (cs := #[.int .i64 0, .string ⟨#[]⟩, .int .i64 0]) ?_ 1 _ rfl; (with_reducible repeat (first | refine blk_drewN ?_ _ | refine blk_drew ?_ | refine blk_alloc ?_ _)); refine blk_put (cs := #[.int .i64 0, .string ⟨#[]⟩, .int .i64 0]) ?_ 0 _ rfl; (with_reducible repeat (first | exact HR.out | refine blk_drewN ?_ _ | refine blk_drew ?_ | refine blk_far ?_ (Nat.ne_of_lt (Nat.lt_succ_self _)) _ | refine blk_alloc ?_ _))) Tryd.underlying36 rfl (by kernel_rfl)) rfl ⟨?_, ?_⟩
    · obtain ⟨rfl, rfl, rfl⟩ := HT.out
      rfl
    · repeat (first | (with_reducible exact HB2.out) | (with_reducible apply pw_below_drewN) | (with_reducible apply below_drew1) | (with_reducible apply below_alloc) | (with_reducible refine below_putN ?_ ?hb _; case hb => omega))
  | some z =>
    obtain ⟨l, q⟩ := z
    rw [hq] at ht hlit
    have HLt := Aside0.mk (show lexer_literal.f s i = some (strOfNums l, (q : Int), true) from hlit)
    have HT := Aside0.mk (show _ ∧ _ ∧ _ from ⟨congrArg (·.1) ht, congrArg (·.2.1) ht, congrArg (·.2.2) ht⟩)
    clear ht hlit hq
    go_enter Tryd.func62, Tryd.ntmps62
    go_wp2_with (first | (go_at_call 40; (with_reducible refine (lexer_small.calls _ _ _ HS.out).mono ?_); rintro e w' ⟨rfl, ⟨nd, rfl⟩⟩) | (go_at_call 51; (with_reducible refine (lexer_capital.calls _ _ _ HCp.out).mono ?_); rintro e w' ⟨rfl, ⟨nd, rfl⟩⟩) | (go_at_call 41; (with_reducible refine (lexer_digit.calls _ _ _ HDg.out).mono ?_); rintro e w' ⟨rfl, ⟨nd, rfl⟩⟩) | (go_at_call 75; (with_reducible refine (lexer_literal.calls _ _ _ _ _ _ HLt.out).mono ?_); rintro e w2 ⟨rfl, hb2⟩; have hT : w2.heap[w.heap.size + 1]? = some (.cells #[.int .i64 0, .string ⟨#[]⟩, .int .i64 i] 36 (0, 0)) := blk_below (by (with_reducible repeat (first | refine blk_drewN ?_ _ | refine blk_drew ?_)); exact blk_new2 _ _ _) hb2; have hR : w2.heap[w.heap.size]? = some (.cells #[.int .i64 0, .string ⟨#[]⟩, .int .i64 0] 36 (0, 0)) := blk_below (by (with_reducible repeat (first | exact blk_new _ _ | refine blk_drewN ?_ _ | refine blk_drew ?_ | refine blk_far ?_ (Nat.ne_of_lt (Nat.lt_succ_self _)) _ | refine blk_alloc ?_ _))) hb2; have chT0 := blk_cell hT 0; have fhT0 := blk_frozen hT 0; simp only [List.getElem?_toArray, List.getElem?_cons_zero, List.getElem?_cons_succ] at chT0; have chT1 := blk_cell hT 1; have fhT1 := blk_frozen hT 1; simp only [List.getElem?_toArray, List.getElem?_cons_zero, List.getElem?_cons_succ] at chT1; have chT2 := blk_cell hT 2; have fhT2 := blk_frozen hT 2; simp only [List.getElem?_toArray, List.getElem?_cons_zero, List.getElem?_cons_succ] at chT2; have chR0 := blk_cell hR 0; have fhR0 := blk_frozen hR 0; simp only [List.getElem?_toArray, List.getElem?_cons_zero, List.getElem?_cons_succ] at chR0; have chR1 := blk_cell hR 1; have fhR1 := blk_frozen hR 1; simp only [List.getElem?_toArray, List.getElem?_cons_zero, List.getElem?_cons_succ] at chR1; have chR2 := blk_cell hR 2; have fhR2 := blk_frozen hR 2; simp only [List.getElem?_toArray, List.getElem?_cons_zero, List.getElem?_cons_succ] at chR2; have HB2 := Aside0.mk (Below.trans (B := w.heap.size) (a := w) (by repeat (first | (with_reducible exact Below.refl _ _) | (with_reducible apply pw_below_drewN) | (with_reducible apply below_drew1) | (with_reducible apply below_alloc) | (with_reducible refine below_putN ?_ ?hb _; case hb => omega))) (hb2.mono (by simp <;> omega))); have HR := Aside0.mk hR; clear hb2 hT hR))
    refine bodyPost_ret (results_ctt rfl _ _ w.heap.size 36 #[.int .i64 4, .string (strOfNums l), .int .i64 i] (0, 0) _ rfl (by (with_reducible repeat (first | refine blk_drewN ?_ _ | refine blk_drew ?_ | refine blk_alloc ?_ _)); refine blk_put (cs := #[.int .i64 4, .string (strOfNums l), .int .i64 0]) ?_ 2 _ rfl; (with_reducible repeat (first | refine blk_drewN ?_ _ | refine blk_drew ?_ | refine blk_alloc ?_ _)); refine blk_put (cs := #[.int .i64 4, .string ⟨#[]⟩, .int .i64 0]) ?_ 1 _ rfl; (with_reducible repeat (first | refine blk_drewN ?_ _ | refine blk_drew ?_ | refine blk_alloc ?_ _)); refine blk_put (cs := #[.int .i64 0, .string ⟨#[]⟩, .int .i64 0]) ?_ 0 _ rfl; (with_reducible repeat (first | exact HR.out | refine blk_drewN ?_ _ | refine blk_drew ?_ | refine blk_far ?_ (Nat.ne_of_lt (Nat.lt_succ_self _)) _ | refine blk_alloc ?_ _))) Tryd.underlying36 rfl (by kernel_rfl)) rfl ⟨?_, ?_⟩
    · obtain ⟨rfl, rfl, rfl⟩ := HT.out
      rfl
    · repeat (first | (with_reducible exact HB2.out) | (with_reducible apply pw_below_drewN) | (with_reducible apply below_drew1) | (with_reducible apply below_alloc) | (with_reducible refine below_putN ?_ ?hb _; case hb => omega))
end
section
open Go.RowKit Go.Proofs.YtmndicibakaceaaDoorW.PrintWords Go.Proofs.YtmndicibakaceaaDoorW.PrintLast Go.Proofs.YtmndicibakaceaaDoorW.PrintMore
theorem symbolOf_size (s : ByteArray) : (symbolOf s).size ≤ 3 := by
  unfold symbolOf
  split
  · rename_i x hx
    have hm := List.mem_of_find?_eq_some hx
    have hall : ∀ x ∈ longSyms, x.size ≤ 3 := by decide
    exact hall x hm
  · split
    · rw [ByteArray.size_extract]; omega
    · exact Nat.zero_le _
theorem symbol_some (s : ByteArray) (h : s.size ≤ 1000000000) : lexer_symbol.f s = some (symbolOf s) := by
  unfold lexer_symbol.f; rw [if_pos (by omega)]
theorem eq_empty_of_size {s : ByteArray} (h : s.size = 0) : s = ⟨#[]⟩ := by
  apply ByteArray.ext
  exact Array.eq_empty_of_size_eq_zero h
set_option maxHeartbeats 4000000 in
set_option maxRecDepth 100000 in
theorem next_symbol (s : ByteArray) (i : Nat) (w : World) (hs : s.size ≤ 1000000000) (h1 : i < s.size) (hc1 : isSmall (bt s i) = false) (hc2 : isCapital (bt s i) = false) (hc3 : isDigit (bt s i) = false) (hc4 : bt s i ≠ 34) (t : S36) (e r : Int) (ht : nextTok s i = (t, e, r)) :
    Calls Tryd.prog 62 #[.string s, .int .i64 i] w fun e' w' => e' = .returned (.tuple #[.agg #[.int .i64 t.f0, .string t.f1, .int .i64 t.f2], .int .i64 e, .int .i64 r]) ∧ Below w.heap.size w w' := by
  have hx := bt_natL s i
  unfold nextTok at ht
  rw [hc1, hc2, hc3] at ht
  simp only [Bool.or_self, Bool.false_eq_true, if_false] at ht
  rw [if_neg hc4] at ht
  have HS := Aside0.mk (small_some (bt s i))
  have HCp := Aside0.mk (capital_some (bt s i))
  have HDg := Aside0.mk (digit_some (bt s i))
  rw [hc1] at HS
  rw [hc2] at HCp
  rw [hc3] at HDg
  have g34 : (bt s i == 34) = false := beq_eq_false_iff_ne.2 hc4
  have hyz := ext_size s i s.size (Nat.le_refl _)
  have HSy := Aside0.mk (symbol_some (s.extract i s.size) (by omega))
  have hle := symbolOf_size (s.extract i s.size)
  clear hc1 hc2 hc3 hc4
  generalize symbolOf (s.extract i s.size) = y at *
  by_cases h0 : y.size = 0
  · rw [if_pos h0] at ht
    have HT := Aside0.mk (show _ ∧ _ ∧ _ from ⟨congrArg (·.1) ht, congrArg (·.2.1) ht, congrArg (·.2.2) ht⟩)
    have hy0 : y = ⟨#[]⟩ := eq_empty_of_size h0
    have hy1 : y.toList = ([] : List UInt8) := (toList_nil_iff y).2 h0
    clear ht h0 hy0
    go_enter Tryd.func62, Tryd.ntmps62
    go_wp2_with (first | (go_at_call 40; (with_reducible refine (lexer_small.calls _ _ _ HS.out).mono ?_); rintro e w' ⟨rfl, ⟨nd, rfl⟩⟩) | (go_at_call 51; (with_reducible refine (lexer_capital.calls _ _ _ HCp.out).mono ?_); rintro e w' ⟨rfl, ⟨nd, rfl⟩⟩) | (go_at_call 41; (with_reducible refine (lexer_digit.calls _ _ _ HDg.out).mono ?_); rintro e w' ⟨rfl, ⟨nd, rfl⟩⟩) | (go_at_call 76; (with_reducible refine (lexer_symbol.calls _ _ _ HSy.out).mono ?_); rintro e w2 ⟨rfl, hb2⟩; have hT : w2.heap[w.heap.size + 1]? = some (.cells #[.int .i64 0, .string ⟨#[]⟩, .int .i64 i] 36 (0, 0)) := blk_below (by (with_reducible repeat (first | refine blk_drewN ?_ _ | refine blk_drew ?_)); exact blk_new2 _ _ _) hb2; have hR : w2.heap[w.heap.size]? = some (.cells #[.int .i64 0, .string ⟨#[]⟩, .int .i64 0] 36 (0, 0)) := blk_below (by (with_reducible repeat (first | exact blk_new _ _ | refine blk_drewN ?_ _ | refine blk_drew ?_ | refine blk_far ?_ (Nat.ne_of_lt (Nat.lt_succ_self _)) _ | refine blk_alloc ?_ _))) hb2; have chT0 := blk_cell hT 0; have fhT0 := blk_frozen hT 0; simp only [List.getElem?_toArray, List.getElem?_cons_zero, List.getElem?_cons_succ] at chT0; have chT1 := blk_cell hT 1; have fhT1 := blk_frozen hT 1; simp only [List.getElem?_toArray, List.getElem?_cons_zero, List.getElem?_cons_succ] at chT1; have chT2 := blk_cell hT 2; have fhT2 := blk_frozen hT 2; simp only [List.getElem?_toArray, List.getElem?_cons_zero, List.getElem?_cons_succ] at chT2; have chR0 := blk_cell hR 0; have fhR0 := blk_frozen hR 0; simp only [List.getElem?_toArray, List.getElem?_cons_zero, List.getElem?_cons_succ] at chR0; have chR1 := blk_cell hR 1; have fhR1 := blk_frozen hR 1; simp only [List.getElem?_toArray, List.getElem?_cons_zero, List.getElem?_cons_succ] at chR1; have chR2 := blk_cell hR 2; have fhR2 := blk_frozen hR 2; simp only [List.getElem?_toArray, List.getElem?_cons_zero, List.getElem?_cons_succ] at chR2; have HB2 := Aside0.mk (Below.trans (B := w.heap.size) (a := w) (by repeat (first | (with_reducible exact Below.refl _ _) | (with_reducible apply pw_below_drewN) | (with_reducible apply below_drew1) | (with_reducible apply below_alloc) | (with_reducible refine below_putN ?_ ?hb _; case hb => omega))) (hb2.mono (by simp <;> omega))); have HR := Aside0.mk hR; clear hb2 hT hR))
    refine bodyPost_ret (results_ctt rfl _ _ w.heap.size 36 #[.int .i64 6, .string y, .int .i64 i] (0, 0) _ rfl (by (with_reducible repeat (first | refine blk_drewN ?_ _ | refine blk_drew ?_ | refine blk_alloc ?_ _)); refine blk_put (cs := #[.int .i64 6, .string y, .int .i64 0]) ?_ 2 _ rfl; (with_reducible repeat (first | refine blk_drewN ?_ _ | refine blk_drew ?_ | refine blk_alloc ?_ _)); refine blk_put (cs := #[.int .i64 6, .string ⟨#[]⟩, .int .i64 0]) ?_ 1 _ rfl; (with_reducible repeat (first | refine blk_drewN ?_ _ | refine blk_drew ?_ | refine blk_alloc ?_ _)); refine blk_put (cs := #[.int .i64 0, .string ⟨#[]⟩, .int .i64 0]) ?_ 0 _ rfl; (with_reducible repeat (first | exact HR.out | refine blk_drewN ?_ _ | refine blk_drew ?_ | refine blk_far ?_ (Nat.ne_of_lt (Nat.lt_succ_self _)) _ | refine blk_alloc ?_ _))) Tryd.underlying36 rfl (by kernel_rfl)) rfl ⟨?_, ?_⟩
    · obtain ⟨rfl, rfl, rfl⟩ := HT.out
      rfl
    · repeat (first | (with_reducible exact HB2.out) | (with_reducible apply pw_below_drewN) | (with_reducible apply below_drew1) | (with_reducible apply below_alloc) | (with_reducible refine below_putN ?_ ?hb _; case hb => omega))
  · rw [if_neg h0] at ht
    have HT := Aside0.mk (show _ ∧ _ ∧ _ from ⟨congrArg (·.1) ht, congrArg (·.2.1) ht, congrArg (·.2.2) ht⟩)
    have hy1 : y.toList.isEmpty = false := ne_isEmpty (by omega)
    clear ht h0
    go_enter Tryd.func62, Tryd.ntmps62
    go_wp2_with (first | (go_at_call 40; (with_reducible refine (lexer_small.calls _ _ _ HS.out).mono ?_); rintro e w' ⟨rfl, ⟨nd, rfl⟩⟩) | (go_at_call 51; (with_reducible refine (lexer_capital.calls _ _ _ HCp.out).mono ?_); rintro e w' ⟨rfl, ⟨nd, rfl⟩⟩) | (go_at_call 41; (with_reducible refine (lexer_digit.calls _ _ _ HDg.out).mono ?_); rintro e w' ⟨rfl, ⟨nd, rfl⟩⟩) | (go_at_call 76; (with_reducible refine (lexer_symbol.calls _ _ _ HSy.out).mono ?_); rintro e w2 ⟨rfl, hb2⟩; have hT : w2.heap[w.heap.size + 1]? = some (.cells #[.int .i64 0, .string ⟨#[]⟩, .int .i64 i] 36 (0, 0)) := blk_below (by (with_reducible repeat (first | refine blk_drewN ?_ _ | refine blk_drew ?_)); exact blk_new2 _ _ _) hb2; have hR : w2.heap[w.heap.size]? = some (.cells #[.int .i64 0, .string ⟨#[]⟩, .int .i64 0] 36 (0, 0)) := blk_below (by (with_reducible repeat (first | exact blk_new _ _ | refine blk_drewN ?_ _ | refine blk_drew ?_ | refine blk_far ?_ (Nat.ne_of_lt (Nat.lt_succ_self _)) _ | refine blk_alloc ?_ _))) hb2; have chT0 := blk_cell hT 0; have fhT0 := blk_frozen hT 0; simp only [List.getElem?_toArray, List.getElem?_cons_zero, List.getElem?_cons_succ] at chT0; have chT1 := blk_cell hT 1; have fhT1 := blk_frozen hT 1; simp only [List.getElem?_toArray, List.getElem?_cons_zero, List.getElem?_cons_succ] at chT1; have chT2 := blk_cell hT 2; have fhT2 := blk_frozen hT 2; simp only [List.getElem?_toArray, List.getElem?_cons_zero, List.getElem?_cons_succ] at chT2; have chR0 := blk_cell hR 0; have fhR0 := blk_frozen hR 0; simp only [List.getElem?_toArray, List.getElem?_cons_zero, List.getElem?_cons_succ] at chR0; have chR1 := blk_cell hR 1; have fhR1 := blk_frozen hR 1; simp only [List.getElem?_toArray, List.getElem?_cons_zero, List.getElem?_cons_succ] at chR1; have chR2 := blk_cell hR 2; have fhR2 := blk_frozen hR 2; simp only [List.getElem?_toArray, List.getElem?_cons_zero, List.getElem?_cons_succ] at chR2; have HB2 := Aside0.mk (Below.trans (B := w.heap.size) (a := w) (by repeat (first | (with_reducible exact Below.refl _ _) | (with_reducible apply pw_below_drewN) | (with_reducible apply below_drew1) | (with_reducible apply below_alloc) | (with_reducible refine below_putN ?_ ?hb _; case hb => omega))) (hb2.mono (by simp <;> omega))); have HR := Aside0.mk hR; clear hb2 hT hR))
    go_region
    go_wp2_with (first | (go_at_call 40; (with_reducible refine (lexer_small.calls _ _ _ HS.out).mono ?_); rintro e w' ⟨rfl, ⟨nd, rfl⟩⟩) | (go_at_call 51; (with_reducible refine (lexer_capital.calls _ _ _ HCp.out).mono ?_); rintro e w' ⟨rfl, ⟨nd, rfl⟩⟩) | (go_at_call 41; (with_reducible refine (lexer_digit.calls _ _ _ HDg.out).mono ?_); rintro e w' ⟨rfl, ⟨nd, rfl⟩⟩) | (go_at_call 76; (with_reducible refine (lexer_symbol.calls _ _ _ HSy.out).mono ?_); rintro e w2 ⟨rfl, hb2⟩; have hT : w2.heap[w.heap.size + 1]? = some (.cells #[.int .i64 0, .string ⟨#[]⟩, .int .i64 i] 36 (0, 0)) := blk_below (by (with_reducible repeat (first | refine blk_drewN ?_ _ | refine blk_drew ?_)); exact blk_new2 _ _ _) hb2; have hR : w2.heap[w.heap.size]? = some (.cells #[.int .i64 0, .string ⟨#[]⟩, .int .i64 0] 36 (0, 0)) := blk_below (by (with_reducible repeat (first | exact blk_new _ _ | refine blk_drewN ?_ _ | refine blk_drew ?_ | refine blk_far ?_ (Nat.ne_of_lt (Nat.lt_succ_self _)) _ | refine blk_alloc ?_ _))) hb2; have chT0 := blk_cell hT 0; have fhT0 := blk_frozen hT 0; simp only [List.getElem?_toArray, List.getElem?_cons_zero, List.getElem?_cons_succ] at chT0; have chT1 := blk_cell hT 1; have fhT1 := blk_frozen hT 1; simp only [List.getElem?_toArray, List.getElem?_cons_zero, List.getElem?_cons_succ] at chT1; have chT2 := blk_cell hT 2; have fhT2 := blk_frozen hT 2; simp only [List.getElem?_toArray, List.getElem?_cons_zero, List.getElem?_cons_succ] at chT2; have chR0 := blk_cell hR 0; have fhR0 := blk_frozen hR 0; simp only [List.getElem?_toArray, List.getElem?_cons_zero, List.getElem?_cons_succ] at chR0; have chR1 := blk_cell hR 1; have fhR1 := blk_frozen hR 1; simp only [List.getElem?_toArray, List.getElem?_cons_zero, List.getElem?_cons_succ] at chR1; have chR2 := blk_cell hR 2; have fhR2 := blk_frozen hR 2; simp only [List.getElem?_toArray, List.getElem?_cons_zero, List.getElem?_cons_succ] at chR2; have HB2 := Aside0.mk (Below.trans (B := w.heap.size) (a := w) (by repeat (first | (with_reducible exact Below.refl _ _) | (with_reducible apply pw_below_drewN) | (with_reducible apply below_drew1) | (with_reducible apply below_alloc) | (with_reducible refine below_putN ?_ ?hb _; case hb => omega))) (hb2.mono (by simp <;> omega))); have HR := Aside0.mk hR; clear hb2 hT hR))
    refine bodyPost_ret (results_ctt rfl _ _ w.heap.size 36 #[.int .i64 6, .string y, .int .i64 i] (0, 0) _ rfl (by (with_reducible repeat (first | refine blk_drewN ?_ _ | refine blk_drew ?_ | refine blk_alloc ?_ _)); refine blk_put (cs := #[.int .i64 6, .string y, .int .i64 0]) ?_ 2 _ rfl; (with_reducible repeat (first | refine blk_drewN ?_ _ | refine blk_drew ?_ | refine blk_alloc ?_ _)); refine blk_put (cs := #[.int .i64 6, .string ⟨#[]⟩, .int .i64 0]) ?_ 1 _ rfl; (with_reducible repeat (first | refine blk_drewN ?_ _ | refine blk_drew ?_ | refine blk_alloc ?_ _)); refine blk_put (cs := #[.int .i64 0, .string ⟨#[]⟩, .int .i64 0]) ?_ 0 _ rfl; (with_reducible repeat (first | exact HR.out | refine blk_drewN ?_ _ | refine blk_drew ?_ | refine blk_far ?_ (Nat.ne_of_lt (Nat.lt_succ_self _)) _ | refine blk_alloc ?_ _))) Tryd.underlying36 rfl (by kernel_rfl)) rfl ⟨?_, ?_⟩
    · obtain ⟨rfl, rfl, rfl⟩ := HT.out
      rfl
    · repeat (first | (with_reducible exact HB2.out) | (with_reducible apply pw_below_drewN) | (with_reducible apply below_drew1) | (with_reducible apply below_alloc) | (with_reducible refine below_putN ?_ ?hb _; case hb => omega))
end
section
open Go.RowKit Go.Proofs.YtmndicibakaceaaDoorW.PrintWords Go.Proofs.YtmndicibakaceaaDoorW.PrintLast Go.Proofs.YtmndicibakaceaaDoorW.PrintMore
theorem next_calls (s : ByteArray) (i : Nat) (w : World) (hG : Gd w) (hs : s.size ≤ 1000000000) (h1 : i < s.size) (t : S36) (e r : Int) (ht : nextTok s i = (t, e, r)) :
    Calls Tryd.prog 62 #[.string s, .int .i64 i] w fun e' w' => e' = .returned (.tuple #[.agg #[.int .i64 t.f0, .string t.f1, .int .i64 t.f2], .int .i64 e, .int .i64 r]) ∧ Below w.heap.size w w' := by
  by_cases hc : (isSmall (bt s i) || isCapital (bt s i)) = true
  · exact next_word s i w hG hs h1 hc t e r ht
  · have hc' : isSmall (bt s i) = false ∧ isCapital (bt s i) = false := by
      cases h1 : isSmall (bt s i) <;> cases h2 : isCapital (bt s i) <;> simp_all
    cases h3 : isDigit (bt s i) with
    | true => exact next_digit s i w hs h1 hc'.1 hc'.2 h3 t e r ht
    | false =>
      by_cases h4 : bt s i = 34
      · exact next_text s i w hs h1 hc'.1 hc'.2 h3 h4 t e r ht
      · exact next_symbol s i w hs h1 hc'.1 hc'.2 h3 h4 t e r ht
theorem litLoop_end (s : ByteArray) : ∀ (n i : Nat) (acc l : List Int) (e : Nat), i + n = s.size → litLoop s n i acc = some (l, e) → i < e ∧ e ≤ s.size := by
  intro n
  induction n using Nat.strongRecOn with
  | _ n ih =>
    intro i acc l e hn h
    cases n with
    | zero => simp [litLoop] at h
    | succ n =>
      unfold litLoop at h
      split at h
      · injection h with h; injection h with _ h; omega
      · split at h
        · cases h
        · split at h
          · have := ih n (by omega) (i + 1) _ _ _ (by omega) h; omega
          · split at h
            · split at h
              · have := ih (n - 1) (by omega) (i + 2) _ _ _ (by omega) h; omega
              · split at h
                · have := ih (n - 1) (by omega) (i + 2) _ _ _ (by omega) h; omega
                · split at h
                  · rename_i hx
                    have := ih (n - 3) (by omega) (i + 4) _ _ _ (by omega) h; omega
                  · cases h
            · cases h
theorem runEnd_gt (p : Int → Bool) (s : ByteArray) (i : Nat) (h : i < s.size) (hp : p (bt s i) = true) : i < runEnd p s i := by
  have h1 := runEnd_cast p s i
  rw [spanTo_yes h hp] at h1
  have h2 := (spanTo_ge p s (s.size - (i + 1)) ((i + 1 : Nat) : Int)).1
  omega
theorem begins_len {s x : ByteArray} (h : begins s x = true) : x.size ≤ s.size := Lib.hasPrefix_le (s := s.data.toList) (p := x.data.toList) h
theorem symbolOf_len (s : ByteArray) : (symbolOf s).size ≤ s.size := by
  unfold symbolOf
  split
  · rename_i x hx
    exact begins_len (by have := List.find?_some hx; simpa using this)
  · split
    · rw [ByteArray.size_extract]; omega
    · exact Nat.zero_le _
theorem nextTok_end (s : ByteArray) (i : Nat) (h : i < s.size) (t : S36) (e : Int) (ht : nextTok s i = (t, e, 0)) : ∃ n : Nat, e = n ∧ i < n ∧ n ≤ s.size := by
  unfold nextTok at ht
  have hw : (isSmall (bt s i) || isCapital (bt s i)) = true → i < runEnd isWord s i := fun hc => runEnd_gt isWord s i h (by
    unfold isWord; rw [← Bool.or_assoc, hc]; rfl)
  have hl := runEnd_le isWord s i (by omega)
  split at ht
  · rename_i hc
    have hg := hw (by simpa using hc)
    split at ht
    · injection ht with _ ht; injection ht with h1 h2; exact ⟨_, h1.symm, hg, hl⟩
    · split at ht
      · injection ht with _ ht; injection ht with h1 h2; exact ⟨_, h1.symm, hg, hl⟩
      · split at ht
        · injection ht with _ ht; injection ht with h1 h2; exact ⟨_, h1.symm, hg, hl⟩
        · injection ht with _ ht; injection ht with h1 h2; exact absurd h2 (by decide)
  · split at ht
    · rename_i hd
      have hg := runEnd_gt isDigit s i h hd
      have hl := runEnd_le isDigit s i (by omega)
      split at ht
      · injection ht with _ ht; injection ht with h1 h2; exact absurd h2 (by decide)
      · injection ht with _ ht; injection ht with h1 h2; exact ⟨_, h1.symm, hg, hl⟩
    · split at ht
      · cases hq : litLoop s (s.size - (i + 1)) (i + 1) [] with
        | none =>
          rw [hq] at ht
          injection ht with _ ht; injection ht with h1 h2; exact absurd h2 (by decide)
        | some z =>
          obtain ⟨l, q⟩ := z
          rw [hq] at ht
          have := litLoop_end s _ _ _ _ _ (by omega) hq
          injection ht with _ ht; injection ht with h1 h2; exact ⟨q, h1.symm, by omega, by omega⟩
      · have hy := symbolOf_len (s.extract i s.size)
        have hz := ext_size s i s.size (Nat.le_refl _)
        generalize symbolOf (s.extract i s.size) = y at *
        split at ht
        · injection ht with _ ht; injection ht with h1 h2; exact absurd h2 (by decide)
        · injection ht with _ ht; injection ht with h1 h2; exact ⟨i + y.size, by rw [← h1]; simp, by omega, by omega⟩
end
end Go.Proofs.YtmndicibakaceaaDoor.Pr
