/- The contract of lexer.next, in the form that the printed texts take: the token at an offset; condition: where '.f' tells 'some'. -/
import Derived.Lib.Hide
import Derived.Test.YtmndicibakaceaaDoorExtL
import Derived.Test.YtmndicibakaceaaDoorExtC
import Derived.Test.YtmndicibakaceaaDoorPr5
namespace Go.Proofs.YtmndicibakaceaaDoor.Pr
open Go.RowKit Go.Proofs.YtmndicibakaceaaDoorW.PrintWords Go.Proofs.YtmndicibakaceaaDoorW.PrintLast Go.Proofs.YtmndicibakaceaaDoorW.PrintMore
def kwB (s : ByteArray) : Bool := Lib.contains kwList (32 :: (s.data.toList ++ [32]))
def isNameB (s : ByteArray) : Bool := decide (0 < s.size) && (decide (s.size ≤ 32) && (isSmall (bt s 0) && (allB isWord s && !kwB s)))
def isTypeB (s : ByteArray) : Bool := decide (0 < s.size) && (decide (s.size ≤ 32) && (isCapital (bt s 0) && allB isWord s))
theorem toList_nil_iff (s : ByteArray) : s.toList = ([] : List UInt8) ↔ s.size = 0 := by
  rw [Lib.toList_data]
  have h4 : s.data.toList.length = s.size := rfl
  constructor
  · intro h; rw [h] at h4; simpa using h4.symm
  · intro h; exact List.eq_nil_of_length_eq_zero (by omega)
theorem IsName_some (s : ByteArray) (hs : s.size ≤ 1000000000) : lexer_IsName.f s = some (isNameB s) := by
  unfold lexer_IsName.f isNameB kwB
  by_cases h0 : s.size = 0
  · rw [if_pos ((toList_nil_iff s).2 h0), decide_eq_false (by omega)]; rfl
  · rw [if_neg (fun h => h0 ((toList_nil_iff s).1 h)), decide_eq_true (by omega)]
    by_cases h1 : s.size ≤ 32
    · rw [if_pos (by omega), if_pos (by omega), decide_eq_true h1, small_some]
      simp only [Option.bind_some, lexer_all_word.f, lexer_keyword.f, if_pos hs, if_pos (show s.size ≤ 9223372036854775807 by omega)]
      cases isSmall (bt s 0) <;> cases allB isWord s <;> simp
    · rw [if_neg (by omega), decide_eq_false h1]; rfl
theorem IsType_some (s : ByteArray) (hs : s.size ≤ 1000000000) : lexer_IsType.f s = some (isTypeB s) := by
  unfold lexer_IsType.f isTypeB
  by_cases h0 : s.size = 0
  · rw [if_pos ((toList_nil_iff s).2 h0), decide_eq_false (by omega)]; rfl
  · rw [if_neg (fun h => h0 ((toList_nil_iff s).1 h)), decide_eq_true (by omega)]
    by_cases h1 : s.size ≤ 32
    · rw [if_pos (by omega), if_pos (by omega), decide_eq_true h1, capital_some]
      simp only [Option.bind_some, lexer_all_word.f, if_pos (show s.size ≤ 9223372036854775807 by omega)]
      cases isCapital (bt s 0) <;> cases allB isWord s <;> simp
    · rw [if_neg (by omega), decide_eq_false h1]; rfl
theorem spanTo_ge (p : Int → Bool) (s : ByteArray) : ∀ (n : Nat) (i : Int), i ≤ spanTo p s n i ∧ spanTo p s n i ≤ i + n
  | 0, i => ⟨Int.le_refl _, by simp [spanTo]⟩
  | n + 1, i => by
    have := spanTo_ge p s n (i + 1)
    unfold spanTo
    split
    · omega
    · omega
/-- where the run of bytes ends that satisfy p. -/
def runEnd (p : Int → Bool) (s : ByteArray) (i : Nat) : Nat := (spanTo p s (s.size - i) i).toNat
theorem runEnd_cast (p : Int → Bool) (s : ByteArray) (i : Nat) : ((runEnd p s i : Nat) : Int) = spanTo p s (s.size - i) i := by
  have := (spanTo_ge p s (s.size - i) i).1
  unfold runEnd; omega
theorem runEnd_ge (p : Int → Bool) (s : ByteArray) (i : Nat) : i ≤ runEnd p s i := by
  have := (spanTo_ge p s (s.size - i) i).1
  have := runEnd_cast p s i
  omega
theorem runEnd_le (p : Int → Bool) (s : ByteArray) (i : Nat) (h : i ≤ s.size) : runEnd p s i ≤ s.size := by
  have := (spanTo_ge p s (s.size - i) i).2
  have := runEnd_cast p s i
  omega
/-- the token at i, where it ends, and the error. -/
def nextTok (s : ByteArray) (i : Nat) : S36 × Int × Int :=
  if isSmall (bt s i) || isCapital (bt s i) then
    if kwB (s.extract i (runEnd isWord s i)) then (⟨5, s.extract i (runEnd isWord s i), i⟩, runEnd isWord s i, 0)
    else if isNameB (s.extract i (runEnd isWord s i)) then (⟨1, s.extract i (runEnd isWord s i), i⟩, runEnd isWord s i, 0)
    else if isTypeB (s.extract i (runEnd isWord s i)) then (⟨2, s.extract i (runEnd isWord s i), i⟩, runEnd isWord s i, 0)
    else (⟨0, s.extract i (runEnd isWord s i), i⟩, i, 4)
  else if isDigit (bt s i) then
    if 19 < runEnd isDigit s i - i ∨ (1 < runEnd isDigit s i - i ∧ bt s i = 48) ∨ (runEnd isDigit s i < s.size ∧ isWord (bt s (runEnd isDigit s i : Nat)) = true) then (⟨3, s.extract i (runEnd isDigit s i), i⟩, i, 3)
    else (⟨3, s.extract i (runEnd isDigit s i), i⟩, runEnd isDigit s i, 0)
  else if bt s i = 34 then
    match litLoop s (s.size - (i + 1)) (i + 1) [] with
    | some (l, e) => (⟨4, strOfNums l, i⟩, (e : Int), 0)
    | none => (⟨0, ⟨#[]⟩, i⟩, i, 3)
  else if (symbolOf (s.extract i s.size)).size = 0 then (⟨6, symbolOf (s.extract i s.size), i⟩, i, 3)
  else (⟨6, symbolOf (s.extract i s.size), i⟩, i + (symbolOf (s.extract i s.size)).size, 0)
def lexer_next.f (a0 : ByteArray) (a1 : Int) : Option (Int × ByteArray × Int × Int × Int) :=
  if a0.size ≤ 1000000000 ∧ 0 ≤ a1 ∧ a1 < a0.size then some ((nextTok a0 a1.toNat).1.f0, (nextTok a0 a1.toNat).1.f1, (nextTok a0 a1.toNat).1.f2, (nextTok a0 a1.toNat).2) else none
theorem ext_size (s : ByteArray) (i e : Nat) (h : e ≤ s.size) : (s.extract i e).size = e - i := by
  rw [ByteArray.size_extract]; omega
theorem below_putN {w W : World} (h : Below w.heap.size w W) {b o : Nat} (hb : w.heap.size ≤ b) (v : Value) : Below w.heap.size w (W.setCell ⟨b, o, none⟩ v) := h.setCell (p := ⟨b, o, none⟩) hb v
set_option maxHeartbeats 2000000 in
set_option maxRecDepth 100000 in
theorem next_word (s : ByteArray) (i : Nat) (w : World) (hG : Gd w) (hs : s.size ≤ 1000000000) (h1 : i < s.size) (hc : (isSmall (bt s i) || isCapital (bt s i)) = true) (t : S36) (e r : Int) (ht : nextTok s i = (t, e, r)) :
    Calls Tryd.prog 62 #[.string s, .int .i64 i] w fun e' w' => e' = .returned (.tuple #[.agg #[.int .i64 t.f0, .string t.f1, .int .i64 t.f2], .int .i64 e, .int .i64 r]) ∧ Below w.heap.size w w' := by
  have hx := bt_natL s i
  have hg := runEnd_ge isWord s i
  have hl := runEnd_le isWord s i (by omega)
  have hz := ext_size s i (runEnd isWord s i) hl
  have HSP := Aside0.mk (show lexer_span_word.f s i = some ((runEnd isWord s i : Nat) : Int) from by
    unfold lexer_span_word.f; rw [if_pos ⟨by omega, by omega, by omega⟩, runEnd_cast]; rfl)
  unfold nextTok at ht
  rw [if_pos hc] at ht
  have HT := Aside0.mk ht
  have HG := Aside0.mk hG
  have HS := Aside0.mk (small_some (bt s i))
  have HCp := Aside0.mk (capital_some (bt s i))
  have HN := Aside0.mk (IsName_some (s.extract i (runEnd isWord s i)) (by omega))
  have HY := Aside0.mk (IsType_some (s.extract i (runEnd isWord s i)) (by omega))
  have HK := Aside0.mk (show lexer_keyword.f (s.extract i (runEnd isWord s i)) = some (kwB (s.extract i (runEnd isWord s i))) from by
    unfold lexer_keyword.f kwB; rw [if_pos (by omega)])
  clear ht hG hz
  generalize runEnd isWord s i = n at *
  generalize kwB (s.extract i n) = bk at *
  generalize isNameB (s.extract i n) = bn at *
  generalize isTypeB (s.extract i n) = by_ at *
  generalize isSmall (bt s i) = b1 at *
  generalize isCapital (bt s i) = b2 at *
  cases b1 with
  | true =>
    clear hc
    cases bk with
    | true =>
      go_enter Tryd.func62, Tryd.ntmps62
      go_wp2_with (first | (go_at_call 40; (with_reducible refine (lexer_small.calls _ _ _ HS.out).mono ?_); rintro e w' ⟨rfl, ⟨nd, rfl⟩⟩) | (go_at_call 51; (with_reducible refine (lexer_capital.calls _ _ _ HCp.out).mono ?_); rintro e w' ⟨rfl, ⟨nd, rfl⟩⟩) | (go_at_call 74; (with_reducible refine (lexer_span_word.calls _ _ _ _ HSP.out).mono ?_); rintro e w' ⟨rfl, ⟨nd, rfl⟩⟩) | (go_at_call 46; (with_reducible refine (lexer_keyword.calls _ _ _ HK.out ?gd).mono ?_); (case gd => exact Gd.below HG.out (by repeat (first | (with_reducible exact Below.refl _ _) | (with_reducible apply pw_below_drewN) | (with_reducible apply below_drew1) | (with_reducible apply below_alloc) | (with_reducible refine below_putN ?_ ?hb _; case hb => omega)))); rintro e w' ⟨rfl, ⟨nd, rfl⟩⟩) | (go_at_call 17; (with_reducible refine (lexer_IsName.calls _ _ _ HN.out ?gd).mono ?_); (case gd => exact Gd.below HG.out (by repeat (first | (with_reducible exact Below.refl _ _) | (with_reducible apply pw_below_drewN) | (with_reducible apply below_drew1) | (with_reducible apply below_alloc) | (with_reducible refine below_putN ?_ ?hb _; case hb => omega)))); rintro e w' ⟨rfl, ⟨nd, rfl⟩⟩) | (go_at_call 19; (with_reducible refine (lexer_IsType.calls _ _ _ HY.out).mono ?_); rintro e w' ⟨rfl, ⟨nd, rfl⟩⟩))
      refine bodyPost_ret (results_ctt rfl _ _ w.heap.size 36 #[.int .i64 5, .string (s.extract i n), .int .i64 i] (0, 0) _ rfl (by (with_reducible repeat (first | refine blk_drewN ?_ _ | refine blk_drew ?_ | refine blk_alloc ?_ _)); refine blk_put (cs := #[.int .i64 5, .string (s.extract i n), .int .i64 0]) ?_ 2 _ rfl; (with_reducible repeat (first | refine blk_drewN ?_ _ | refine blk_drew ?_ | refine blk_alloc ?_ _)); refine blk_put (cs := #[.int .i64 5, .string ⟨#[]⟩, .int .i64 0]) ?_ 1 _ rfl; (with_reducible repeat (first | refine blk_drewN ?_ _ | refine blk_drew ?_ | refine blk_alloc ?_ _)); refine blk_put (cs := #[.int .i64 0, .string ⟨#[]⟩, .int .i64 0]) ?_ 0 _ rfl; (with_reducible repeat (first | exact blk_new _ _ | refine blk_drewN ?_ _ | refine blk_drew ?_ | refine blk_far ?_ (Nat.ne_of_lt (Nat.lt_succ_self _)) _ | refine blk_alloc ?_ _))) Tryd.underlying36 rfl (by kernel_rfl)) rfl ⟨?_, ?_⟩
      · have ht := HT.out
        simp [Prod.mk.injEq] at ht
        obtain ⟨rfl, rfl, rfl⟩ := ht
        rfl
      · repeat (first | (with_reducible exact Below.refl _ _) | (with_reducible apply pw_below_drewN) | (with_reducible apply below_drew1) | (with_reducible apply below_alloc) | (with_reducible refine below_putN ?_ ?hb _; case hb => omega))
    | false =>
      cases bn with
      | true =>
        go_enter Tryd.func62, Tryd.ntmps62
        go_wp2_with (first | (go_at_call 40; (with_reducible refine (lexer_small.calls _ _ _ HS.out).mono ?_); rintro e w' ⟨rfl, ⟨nd, rfl⟩⟩) | (go_at_call 51; (with_reducible refine (lexer_capital.calls _ _ _ HCp.out).mono ?_); rintro e w' ⟨rfl, ⟨nd, rfl⟩⟩) | (go_at_call 74; (with_reducible refine (lexer_span_word.calls _ _ _ _ HSP.out).mono ?_); rintro e w' ⟨rfl, ⟨nd, rfl⟩⟩) | (go_at_call 46; (with_reducible refine (lexer_keyword.calls _ _ _ HK.out ?gd).mono ?_); (case gd => exact Gd.below HG.out (by repeat (first | (with_reducible exact Below.refl _ _) | (with_reducible apply pw_below_drewN) | (with_reducible apply below_drew1) | (with_reducible apply below_alloc) | (with_reducible refine below_putN ?_ ?hb _; case hb => omega)))); rintro e w' ⟨rfl, ⟨nd, rfl⟩⟩) | (go_at_call 17; (with_reducible refine (lexer_IsName.calls _ _ _ HN.out ?gd).mono ?_); (case gd => exact Gd.below HG.out (by repeat (first | (with_reducible exact Below.refl _ _) | (with_reducible apply pw_below_drewN) | (with_reducible apply below_drew1) | (with_reducible apply below_alloc) | (with_reducible refine below_putN ?_ ?hb _; case hb => omega)))); rintro e w' ⟨rfl, ⟨nd, rfl⟩⟩) | (go_at_call 19; (with_reducible refine (lexer_IsType.calls _ _ _ HY.out).mono ?_); rintro e w' ⟨rfl, ⟨nd, rfl⟩⟩))
        refine bodyPost_ret (results_ctt rfl _ _ w.heap.size 36 #[.int .i64 1, .string (s.extract i n), .int .i64 i] (0, 0) _ rfl (by (with_reducible repeat (first | refine blk_drewN ?_ _ | refine blk_drew ?_ | refine blk_alloc ?_ _)); refine blk_put (cs := #[.int .i64 1, .string (s.extract i n), .int .i64 0]) ?_ 2 _ rfl; (with_reducible repeat (first | refine blk_drewN ?_ _ | refine blk_drew ?_ | refine blk_alloc ?_ _)); refine blk_put (cs := #[.int .i64 1, .string ⟨#[]⟩, .int .i64 0]) ?_ 1 _ rfl; (with_reducible repeat (first | refine blk_drewN ?_ _ | refine blk_drew ?_ | refine blk_alloc ?_ _)); refine blk_put (cs := #[.int .i64 0, .string ⟨#[]⟩, .int .i64 0]) ?_ 0 _ rfl; (with_reducible repeat (first | exact blk_new _ _ | refine blk_drewN ?_ _ | refine blk_drew ?_ | refine blk_far ?_ (Nat.ne_of_lt (Nat.lt_succ_self _)) _ | refine blk_alloc ?_ _))) Tryd.underlying36 rfl (by kernel_rfl)) rfl ⟨?_, ?_⟩
        · have ht := HT.out
          simp [Prod.mk.injEq] at ht
          obtain ⟨rfl, rfl, rfl⟩ := ht
          rfl
        · repeat (first | (with_reducible exact Below.refl _ _) | (with_reducible apply pw_below_drewN) | (with_reducible apply below_drew1) | (with_reducible apply below_alloc) | (with_reducible refine below_putN ?_ ?hb _; case hb => omega))
      | false =>
        cases by_ with
        | true =>
          go_enter Tryd.func62, Tryd.ntmps62
          go_wp2_with (first | (go_at_call 40; (with_reducible refine (lexer_small.calls _ _ _ HS.out).mono ?_); rintro e w' ⟨rfl, ⟨nd, rfl⟩⟩) | (go_at_call 51; (with_reducible refine (lexer_capital.calls _ _ _ HCp.out).mono ?_); rintro e w' ⟨rfl, ⟨nd, rfl⟩⟩) | (go_at_call 74; (with_reducible refine (lexer_span_word.calls _ _ _ _ HSP.out).mono ?_); rintro e w' ⟨rfl, ⟨nd, rfl⟩⟩) | (go_at_call 46; (with_reducible refine (lexer_keyword.calls _ _ _ HK.out ?gd).mono ?_); (case gd => exact Gd.below HG.out (by repeat (first | (with_reducible exact Below.refl _ _) | (with_reducible apply pw_below_drewN) | (with_reducible apply below_drew1) | (with_reducible apply below_alloc) | (with_reducible refine below_putN ?_ ?hb _; case hb => omega)))); rintro e w' ⟨rfl, ⟨nd, rfl⟩⟩) | (go_at_call 17; (with_reducible refine (lexer_IsName.calls _ _ _ HN.out ?gd).mono ?_); (case gd => exact Gd.below HG.out (by repeat (first | (with_reducible exact Below.refl _ _) | (with_reducible apply pw_below_drewN) | (with_reducible apply below_drew1) | (with_reducible apply below_alloc) | (with_reducible refine below_putN ?_ ?hb _; case hb => omega)))); rintro e w' ⟨rfl, ⟨nd, rfl⟩⟩) | (go_at_call 19; (with_reducible refine (lexer_IsType.calls _ _ _ HY.out).mono ?_); rintro e w' ⟨rfl, ⟨nd, rfl⟩⟩))
          refine bodyPost_ret (results_ctt rfl _ _ w.heap.size 36 #[.int .i64 2, .string (s.extract i n), .int .i64 i] (0, 0) _ rfl (by (with_reducible repeat (first | refine blk_drewN ?_ _ | refine blk_drew ?_ | refine blk_alloc ?_ _)); refine blk_put (cs := #[.int .i64 2, .string (s.extract i n), .int .i64 0]) ?_ 2 _ rfl; (with_reducible repeat (first | refine blk_drewN ?_ _ | refine blk_drew ?_ | refine blk_alloc ?_ _)); refine blk_put (cs := #[.int .i64 2, .string ⟨#[]⟩, .int .i64 0]) ?_ 1 _ rfl; (with_reducible repeat (first | refine blk_drewN ?_ _ | refine blk_drew ?_ | refine blk_alloc ?_ _)); refine blk_put (cs := #[.int .i64 0, .string ⟨#[]⟩, .int .i64 0]) ?_ 0 _ rfl; (with_reducible repeat (first | exact blk_new _ _ | refine blk_drewN ?_ _ | refine blk_drew ?_ | refine blk_far ?_ (Nat.ne_of_lt (Nat.lt_succ_self _)) _ | refine blk_alloc ?_ _))) Tryd.underlying36 rfl (by kernel_rfl)) rfl ⟨?_, ?_⟩
          · have ht := HT.out
            simp [Prod.mk.injEq] at ht
            obtain ⟨rfl, rfl, rfl⟩ := ht
            rfl
          · repeat (first | (with_reducible exact Below.refl _ _) | (with_reducible apply pw_below_drewN) | (with_reducible apply below_drew1) | (with_reducible apply below_alloc) | (with_reducible refine below_putN ?_ ?hb _; case hb => omega))
        | false =>
          go_enter Tryd.func62, Tryd.ntmps62
          go_wp2_with (first | (go_at_call 40; (with_reducible refine (lexer_small.calls _ _ _ HS.out).mono ?_); rintro e w' ⟨rfl, ⟨nd, rfl⟩⟩) | (go_at_call 51; (with_reducible refine (lexer_capital.calls _ _ _ HCp.out).mono ?_); rintro e w' ⟨rfl, ⟨nd, rfl⟩⟩) | (go_at_call 74; (with_reducible refine (lexer_span_word.calls _ _ _ _ HSP.out).mono ?_); rintro e w' ⟨rfl, ⟨nd, rfl⟩⟩) | (go_at_call 46; (with_reducible refine (lexer_keyword.calls _ _ _ HK.out ?gd).mono ?_); (case gd => exact Gd.below HG.out (by repeat (first | (with_reducible exact Below.refl _ _) | (with_reducible apply pw_below_drewN) | (with_reducible apply below_drew1) | (with_reducible apply below_alloc) | (with_reducible refine below_putN ?_ ?hb _; case hb => omega)))); rintro e w' ⟨rfl, ⟨nd, rfl⟩⟩) | (go_at_call 17; (with_reducible refine (lexer_IsName.calls _ _ _ HN.out ?gd).mono ?_); (case gd => exact Gd.below HG.out (by repeat (first | (with_reducible exact Below.refl _ _) | (with_reducible apply pw_below_drewN) | (with_reducible apply below_drew1) | (with_reducible apply below_alloc) | (with_reducible refine below_putN ?_ ?hb _; case hb => omega)))); rintro e w' ⟨rfl, ⟨nd, rfl⟩⟩) | (go_at_call 19; (with_reducible refine (lexer_IsType.calls _ _ _ HY.out).mono ?_); rintro e w' ⟨rfl, ⟨nd, rfl⟩⟩))
          refine bodyPost_ret (results_ctt rfl _ _ w.heap.size 36 #[.int .i64 0, .string (s.extract i n), .int .i64 i] (0, 0) _ rfl (by (with_reducible repeat (first | refine blk_drewN ?_ _ | refine blk_drew ?_ | refine blk_alloc ?_ _)); refine blk_put (cs := #[.int .i64 0, .string (s.extract i n), .int .i64 0]) ?_ 2 _ rfl; (with_reducible repeat (first | refine blk_drewN ?_ _ | refine blk_drew ?_ | refine blk_alloc ?_ _)); refine blk_put (cs := #[.int .i64 0, .string ⟨#[]⟩, .int .i64 0]) ?_ 1 _ rfl; (with_reducible repeat (first | refine blk_drewN ?_ _ | refine blk_drew ?_ | refine blk_alloc ?_ _)); refine blk_put (cs := #[.int .i64 0, .string ⟨#[]⟩, .int .i64 0]) ?_ 0 _ rfl; (with_reducible repeat (first | exact blk_new _ _ | refine blk_drewN ?_ _ | refine blk_drew ?_ | refine blk_far ?_ (Nat.ne_of_lt (Nat.lt_succ_self _)) _ | refine blk_alloc ?_ _))) Tryd.underlying36 rfl (by kernel_rfl)) rfl ⟨?_, ?_⟩
          · have ht := HT.out
            simp [Prod.mk.injEq] at ht
            obtain ⟨rfl, rfl, rfl⟩ := ht
            rfl
          · repeat (first | (with_reducible exact Below.refl _ _) | (with_reducible apply pw_below_drewN) | (with_reducible apply below_drew1) | (with_reducible apply below_alloc) | (with_reducible refine below_putN ?_ ?hb _; case hb => omega))
  | false =>
    obtain rfl : b2 = true := by simpa using hc
    clear hc
    cases bk with
    | true =>
      go_enter Tryd.func62, Tryd.ntmps62
      go_wp2_with (first | (go_at_call 40; (with_reducible refine (lexer_small.calls _ _ _ HS.out).mono ?_); rintro e w' ⟨rfl, ⟨nd, rfl⟩⟩) | (go_at_call 51; (with_reducible refine (lexer_capital.calls _ _ _ HCp.out).mono ?_); rintro e w' ⟨rfl, ⟨nd, rfl⟩⟩) | (go_at_call 74; (with_reducible refine (lexer_span_word.calls _ _ _ _ HSP.out).mono ?_); rintro e w' ⟨rfl, ⟨nd, rfl⟩⟩) | (go_at_call 46; (with_reducible refine (lexer_keyword.calls _ _ _ HK.out ?gd).mono ?_); (case gd => exact Gd.below HG.out (by repeat (first | (with_reducible exact Below.refl _ _) | (with_reducible apply pw_below_drewN) | (with_reducible apply below_drew1) | (with_reducible apply below_alloc) | (with_reducible refine below_putN ?_ ?hb _; case hb => omega)))); rintro e w' ⟨rfl, ⟨nd, rfl⟩⟩) | (go_at_call 17; (with_reducible refine (lexer_IsName.calls _ _ _ HN.out ?gd).mono ?_); (case gd => exact Gd.below HG.out (by repeat (first | (with_reducible exact Below.refl _ _) | (with_reducible apply pw_below_drewN) | (with_reducible apply below_drew1) | (with_reducible apply below_alloc) | (with_reducible refine below_putN ?_ ?hb _; case hb => omega)))); rintro e w' ⟨rfl, ⟨nd, rfl⟩⟩) | (go_at_call 19; (with_reducible refine (lexer_IsType.calls _ _ _ HY.out).mono ?_); rintro e w' ⟨rfl, ⟨nd, rfl⟩⟩))
      refine bodyPost_ret (results_ctt rfl _ _ w.heap.size 36 #[.int .i64 5, .string (s.extract i n), .int .i64 i] (0, 0) _ rfl (by (with_reducible repeat (first | refine blk_drewN ?_ _ | refine blk_drew ?_ | refine blk_alloc ?_ _)); refine blk_put (cs := #[.int .i64 5, .string (s.extract i n), .int .i64 0]) ?_ 2 _ rfl; (with_reducible repeat (first | refine blk_drewN ?_ _ | refine blk_drew ?_ | refine blk_alloc ?_ _)); refine blk_put (cs := #[.int .i64 5, .string ⟨#[]⟩, .int .i64 0]) ?_ 1 _ rfl; (with_reducible repeat (first | refine blk_drewN ?_ _ | refine blk_drew ?_ | refine blk_alloc ?_ _)); refine blk_put (cs := #[.int .i64 0, .string ⟨#[]⟩, .int .i64 0]) ?_ 0 _ rfl; (with_reducible repeat (first | exact blk_new _ _ | refine blk_drewN ?_ _ | refine blk_drew ?_ | refine blk_far ?_ (Nat.ne_of_lt (Nat.lt_succ_self _)) _ | refine blk_alloc ?_ _))) Tryd.underlying36 rfl (by kernel_rfl)) rfl ⟨?_, ?_⟩
      · have ht := HT.out
        simp [Prod.mk.injEq] at ht
        obtain ⟨rfl, rfl, rfl⟩ := ht
        rfl
      · repeat (first | (with_reducible exact Below.refl _ _) | (with_reducible apply pw_below_drewN) | (with_reducible apply below_drew1) | (with_reducible apply below_alloc) | (with_reducible refine below_putN ?_ ?hb _; case hb => omega))
    | false =>
      cases bn with
      | true =>
        go_enter Tryd.func62, Tryd.ntmps62
        go_wp2_with (first | (go_at_call 40; (with_reducible refine (lexer_small.calls _ _ _ HS.out).mono ?_); rintro e w' ⟨rfl, ⟨nd, rfl⟩⟩) | (go_at_call 51; (with_reducible refine (lexer_capital.calls _ _ _ HCp.out).mono ?_); rintro e w' ⟨rfl, ⟨nd, rfl⟩⟩) | (go_at_call 74; (with_reducible refine (lexer_span_word.calls _ _ _ _ HSP.out).mono ?_); rintro e w' ⟨rfl, ⟨nd, rfl⟩⟩) | (go_at_call 46; (with_reducible refine (lexer_keyword.calls _ _ _ HK.out ?gd).mono ?_); (case gd => exact Gd.below HG.out (by repeat (first | (with_reducible exact Below.refl _ _) | (with_reducible apply pw_below_drewN) | (with_reducible apply below_drew1) | (with_reducible apply below_alloc) | (with_reducible refine below_putN ?_ ?hb _; case hb => omega)))); rintro e w' ⟨rfl, ⟨nd, rfl⟩⟩) | (go_at_call 17; (with_reducible refine (lexer_IsName.calls _ _ _ HN.out ?gd).mono ?_); (case gd => exact Gd.below HG.out (by repeat (first | (with_reducible exact Below.refl _ _) | (with_reducible apply pw_below_drewN) | (with_reducible apply below_drew1) | (with_reducible apply below_alloc) | (with_reducible refine below_putN ?_ ?hb _; case hb => omega)))); rintro e w' ⟨rfl, ⟨nd, rfl⟩⟩) | (go_at_call 19; (with_reducible refine (lexer_IsType.calls _ _ _ HY.out).mono ?_); rintro e w' ⟨rfl, ⟨nd, rfl⟩⟩))
        refine bodyPost_ret (results_ctt rfl _ _ w.heap.size 36 #[.int .i64 1, .string (s.extract i n), .int .i64 i] (0, 0) _ rfl (by (with_reducible repeat (first | refine blk_drewN ?_ _ | refine blk_drew ?_ | refine blk_alloc ?_ _)); refine blk_put (cs := #[.int .i64 1, .string (s.extract i n), .int .i64 0]) ?_ 2 _ rfl; (with_reducible repeat (first | refine blk_drewN ?_ _ | refine blk_drew ?_ | refine blk_alloc ?_ _)); refine blk_put (cs := #[.int .i64 1, .string ⟨#[]⟩, .int .i64 0]) ?_ 1 _ rfl; (with_reducible repeat (first | refine blk_drewN ?_ _ | refine blk_drew ?_ | refine blk_alloc ?_ _)); refine blk_put (cs := #[.int .i64 0, .string ⟨#[]⟩, .int .i64 0]) ?_ 0 _ rfl; (with_reducible repeat (first | exact blk_new _ _ | refine blk_drewN ?_ _ | refine blk_drew ?_ | refine blk_far ?_ (Nat.ne_of_lt (Nat.lt_succ_self _)) _ | refine blk_alloc ?_ _))) Tryd.underlying36 rfl (by kernel_rfl)) rfl ⟨?_, ?_⟩
        · have ht := HT.out
          simp [Prod.mk.injEq] at ht
          obtain ⟨rfl, rfl, rfl⟩ := ht
          rfl
        · repeat (first | (with_reducible exact Below.refl _ _) | (with_reducible apply pw_below_drewN) | (with_reducible apply below_drew1) | (with_reducible apply below_alloc) | (with_reducible refine below_putN ?_ ?hb _; case hb => omega))
      | false =>
        cases by_ with
        | true =>
          go_enter Tryd.func62, Tryd.ntmps62
          go_wp2_with (first | (go_at_call 40; (with_reducible refine (lexer_small.calls _ _ _ HS.out).mono ?_); rintro e w' ⟨rfl, ⟨nd, rfl⟩⟩) | (go_at_call 51; (with_reducible refine (lexer_capital.calls _ _ _ HCp.out).mono ?_); rintro e w' ⟨rfl, ⟨nd, rfl⟩⟩) | (go_at_call 74; (with_reducible refine (lexer_span_word.calls _ _ _ _ HSP.out).mono ?_); rintro e w' ⟨rfl, ⟨nd, rfl⟩⟩) | (go_at_call 46; (with_reducible refine (lexer_keyword.calls _ _ _ HK.out ?gd).mono ?_); (case gd => exact Gd.below HG.out (by repeat (first | (with_reducible exact Below.refl _ _) | (with_reducible apply pw_below_drewN) | (with_reducible apply below_drew1) | (with_reducible apply below_alloc) | (with_reducible refine below_putN ?_ ?hb _; case hb => omega)))); rintro e w' ⟨rfl, ⟨nd, rfl⟩⟩) | (go_at_call 17; (with_reducible refine (lexer_IsName.calls _ _ _ HN.out ?gd).mono ?_); (case gd => exact Gd.below HG.out (by repeat (first | (with_reducible exact Below.refl _ _) | (with_reducible apply pw_below_drewN) | (with_reducible apply below_drew1) | (with_reducible apply below_alloc) | (with_reducible refine below_putN ?_ ?hb _; case hb => omega)))); rintro e w' ⟨rfl, ⟨nd, rfl⟩⟩) | (go_at_call 19; (with_reducible refine (lexer_IsType.calls _ _ _ HY.out).mono ?_); rintro e w' ⟨rfl, ⟨nd, rfl⟩⟩))
          refine bodyPost_ret (results_ctt rfl _ _ w.heap.size 36 #[.int .i64 2, .string (s.extract i n), .int .i64 i] (0, 0) _ rfl (by (with_reducible repeat (first | refine blk_drewN ?_ _ | refine blk_drew ?_ | refine blk_alloc ?_ _)); refine blk_put (cs := #[.int .i64 2, .string (s.extract i n), .int .i64 0]) ?_ 2 _ rfl; (with_reducible repeat (first | refine blk_drewN ?_ _ | refine blk_drew ?_ | refine blk_alloc ?_ _)); refine blk_put (cs := #[.int .i64 2, .string ⟨#[]⟩, .int .i64 0]) ?_ 1 _ rfl; (with_reducible repeat (first | refine blk_drewN ?_ _ | refine blk_drew ?_ | refine blk_alloc ?_ _)); refine blk_put (cs := #[.int .i64 0, .string ⟨#[]⟩, .int .i64 0]) ?_ 0 _ rfl; (with_reducible repeat (first | exact blk_new _ _ | refine blk_drewN ?_ _ | refine blk_drew ?_ | refine blk_far ?_ (Nat.ne_of_lt (Nat.lt_succ_self _)) _ | refine blk_alloc ?_ _))) Tryd.underlying36 rfl (by kernel_rfl)) rfl ⟨?_, ?_⟩
          · have ht := HT.out
            simp [Prod.mk.injEq] at ht
            obtain ⟨rfl, rfl, rfl⟩ := ht
            rfl
          · repeat (first | (with_reducible exact Below.refl _ _) | (with_reducible apply pw_below_drewN) | (with_reducible apply below_drew1) | (with_reducible apply below_alloc) | (with_reducible refine below_putN ?_ ?hb _; case hb => omega))
        | false =>
          go_enter Tryd.func62, Tryd.ntmps62
          go_wp2_with (first | (go_at_call 40; (with_reducible refine (lexer_small.calls _ _ _ HS.out).mono ?_); rintro e w' ⟨rfl, ⟨nd, rfl⟩⟩) | (go_at_call 51; (with_reducible refine (lexer_capital.calls _ _ _ HCp.out).mono ?_); rintro e w' ⟨rfl, ⟨nd, rfl⟩⟩) | (go_at_call 74; (with_reducible refine (lexer_span_word.calls _ _ _ _ HSP.out).mono ?_); rintro e w' ⟨rfl, ⟨nd, rfl⟩⟩) | (go_at_call 46; (with_reducible refine (lexer_keyword.calls _ _ _ HK.out ?gd).mono ?_); (case gd => exact Gd.below HG.out (by repeat (first | (with_reducible exact Below.refl _ _) | (with_reducible apply pw_below_drewN) | (with_reducible apply below_drew1) | (with_reducible apply below_alloc) | (with_reducible refine below_putN ?_ ?hb _; case hb => omega)))); rintro e w' ⟨rfl, ⟨nd, rfl⟩⟩) | (go_at_call 17; (with_reducible refine (lexer_IsName.calls _ _ _ HN.out ?gd).mono ?_); (case gd => exact Gd.below HG.out (by repeat (first | (with_reducible exact Below.refl _ _) | (with_reducible apply pw_below_drewN) | (with_reducible apply below_drew1) | (with_reducible apply below_alloc) | (with_reducible refine below_putN ?_ ?hb _; case hb => omega)))); rintro e w' ⟨rfl, ⟨nd, rfl⟩⟩) | (go_at_call 19; (with_reducible refine (lexer_IsType.calls _ _ _ HY.out).mono ?_); rintro e w' ⟨rfl, ⟨nd, rfl⟩⟩))
          refine bodyPost_ret (results_ctt rfl _ _ w.heap.size 36 #[.int .i64 0, .string (s.extract i n), .int .i64 i] (0, 0) _ rfl (by (with_reducible repeat (first | refine blk_drewN ?_ _ | refine blk_drew ?_ | refine blk_alloc ?_ _)); refine blk_put (cs := #[.int .i64 0, .string (s.extract i n), .int .i64 0]) ?_ 2 _ rfl; (with_reducible repeat (first | refine blk_drewN ?_ _ | refine blk_drew ?_ | refine blk_alloc ?_ _)); refine blk_put (cs := #[.int .i64 0, .string ⟨#[]⟩, .int .i64 0]) ?_ 1 _ rfl; (with_reducible repeat (first | refine blk_drewN ?_ _ | refine blk_drew ?_ | refine blk_alloc ?_ _)); refine blk_put (cs := #[.int .i64 0, .string ⟨#[]⟩, .int .i64 0]) ?_ 0 _ rfl; (with_reducible repeat (first | exact blk_new _ _ | refine blk_drewN ?_ _ | refine blk_drew ?_ | refine blk_far ?_ (Nat.ne_of_lt (Nat.lt_succ_self _)) _ | refine blk_alloc ?_ _))) Tryd.underlying36 rfl (by kernel_rfl)) rfl ⟨?_, ?_⟩
          · have ht := HT.out
            simp [Prod.mk.injEq] at ht
            obtain ⟨rfl, rfl, rfl⟩ := ht
            rfl
          · repeat (first | (with_reducible exact Below.refl _ _) | (with_reducible apply pw_below_drewN) | (with_reducible apply below_drew1) | (with_reducible apply below_alloc) | (with_reducible refine below_putN ?_ ?hb _; case hb => omega))
end Go.Proofs.YtmndicibakaceaaDoor.Pr
