/- The contract of the function that lexer.tokens hands back: an iterator over the tokens of a source. -/
import Derived.RangeFuncBox
import Derived.RangeFuncLeaves
import Derived.RangeFuncCalls
import Derived.Shelf.Abstract
import Derived.WalkKit
import Derived.OwnWalkIn
import Derived.TacticsIn
import Derived.TacticsInMore
import Derived.RegionIn
import Derived.LoopNIn
import Derived.LoopIn
import Derived.Maps.AppendAt
import Derived.Test.YtmndicibakaceaaDoorExtNx
import Derived.Test.YtmndicibakaceaaDoorExtBl
namespace Go.Proofs.YtmndicibakaceaaDoor.Pr
open Go.RowKit Go.Proofs.YtmndicibakaceaaDoorW.PrintWords Go.Proofs.YtmndicibakaceaaDoorW.PrintLast Go.Proofs.YtmndicibakaceaaDoorW.PrintMore
attribute [local go_sem] Oper.semAt_some
/-- the tokens from an offset on, each one with its error: the first error is the last one. -/
def toksAt (s : ByteArray) : Nat → Nat → List (S36 × Int)
  | 0, _ => []
  | k + 1, i =>
    if i < s.size then
      if (nextTok s i).2.2 = 0 then ((nextTok s i).1, 0) :: toksAt s k (blanksTo s (nextTok s i).2.1.toNat)
      else [((nextTok s i).1, (nextTok s i).2.2)]
    else [(⟨0, ⟨#[]⟩, s.size⟩, 0)]
def toks (s : ByteArray) : List (S36 × Int) := toksAt s (s.size + 1) (blanksTo s 0)
def tokEnc (x : S36 × Int) : Array Value := #[.agg #[.int .i64 x.1.f0, .string x.1.f1, .int .i64 x.1.f2], .int .i64 x.2]
/-- what the loop's body keeps: the box of the source, and what lay when Lex began. -/
def KpL (B n₀ : Nat) (W W' : World) : Prop := Below n₀ W W' ∧ W'.heap[B]? = W.heap[B]?
theorem KpL.trans {B n₀ : Nat} {X Y Z : World} (h : KpL B n₀ X Y) (k : KpL B n₀ Y Z) : KpL B n₀ X Z := ⟨h.1.trans k.1, k.2.trans h.2⟩
theorem grown_of_below {W W' : World} (h : Below W.heap.size W W') : W.grownBy W' none := ⟨h.os, h.tape, h.output, h.size, fun k hk _ => h.block k hk⟩
theorem grown_drewN (W : World) (n : Nat) : W.grownBy (W.drewN n) none := grown_of_below (pw_below_drewN (Below.refl _ _) n)
theorem toksAt_pos (s : ByteArray) (k i : Nat) : 0 < (toksAt s (k + 1) i).length := by
  unfold toksAt
  split
  · split <;> simp
  · simp
theorem toksAt_ok {s : ByteArray} {k i : Nat} (h : i < s.size) {t : S36} {n : Nat} (ht : nextTok s i = (t, (n : Int), 0)) : toksAt s (k + 1) i = (t, 0) :: toksAt s k (blanksTo s n) := by
  rw [toksAt, if_pos h, ht]; rfl
theorem toksAt_err {s : ByteArray} {k i : Nat} (h : i < s.size) {t : S36} {e r : Int} (ht : nextTok s i = (t, e, r)) (hr : r ≠ 0) : toksAt s (k + 1) i = [(t, r)] := by
  rw [toksAt, if_pos h, ht, if_neg hr]
theorem toksAt_end {s : ByteArray} {k i : Nat} (h : ¬ i < s.size) : toksAt s (k + 1) i = [(⟨0, ⟨#[]⟩, s.size⟩, 0)] := by
  rw [toksAt, if_neg h]
theorem Gd.kept {n₀ : Nat} {w w1 : World} (h : Gd w) (h0 : 0 < n₀) (hb : Below n₀ w w1) : Gd w1 := by
  obtain ⟨m, hm⟩ := h
  exact ⟨m, (hb.cell (p := ⟨0, 0, none⟩) h0).trans hm⟩
set_option maxRecDepth 100000 in
set_option maxHeartbeats 4000000 in
theorem tokens1_in (n l Bs n₀ : Nat) (hn : 1 ≤ n) (h0n : 0 < n₀) (s : ByteArray) (hs : s.size ≤ 1000000000) (J Jx : List (S36 × Int) → World → Prop) (W0 : World) (hJ : AbidesFrom W0.heap.size J)
    (hY : ∀ pre x W, J pre W → pre.length < (toks s).length → YieldAt Fence.wide (n - 1) Tryd.prog l (tokEnc x) W fun e W' =>
      (e = .returned (.bool true) ∧ J (pre ++ [x]) W' ∧ KpL Bs n₀ W W') ∨ (e = .returned (.bool false) ∧ Jx (pre ++ [x]) W'))
    (hBs : W0.heap[Bs]? = some (.cells #[.string s] 9 (0, 0))) (hG : Gd W0) (h0 : J [] W0) :
    CallsIn Fence.wide n Tryd.prog 60 #[.func (.yield l) #[] #[], .pointer (some ⟨Bs, 0, none⟩)] W0 fun e W' => (∃ v, e = .returned v) ∧
      ((∃ ys, ys = toks s ∧ J ys W') ∨ (∃ pre, pre <+: toks s ∧ Jx pre W')) := by
  refine callsIn_of_wp Tryd.func60 rfl trivial ?_ rfl
  simp only [Tryd.ntmps60, List.size_toArray, List.length_cons, List.length_nil, Nat.reduceAdd, Nat.reduceSub, Array.replicate_succ, Array.replicate_zero, List.push_toArray, List.append_toArray, List.nil_append, List.cons_append]
  have hc0 := blk_cell hBs 0
  simp only [List.getElem?_toArray, List.getElem?_cons_zero] at hc0
  gi_wp2_with (refine ⟨trivial, ?_⟩; gi_at_call 61; refine (callsIn_wide.2 (lexer_blanks.calls _ _ _ _ _ (blanks_some s hs 0 (Nat.zero_le _)))).mono ?_; rintro e w' ⟨rfl, nd, rfl⟩)
  gi_loopw [3] (fun p wr => ∃ (pre : List (S36 × Int)) (k i : Nat), p = .int .i64 (i : Int) ∧ i ≤ s.size ∧ s.size - i ≤ k ∧ toks s = pre ++ toksAt s (k + 1) i ∧ wr.heap[Bs]? = some (.cells #[.string s] 9 (0, 0)) ∧ Gd wr ∧ J pre wr ∧ W0.heap.size ≤ wr.heap.size)
    (fun p _ => match p with | .int _ i => s.size + 1 - i.toNat | _ => 0)
  case atStart =>
    exact ⟨[], s.size, blanksTo s 0, rfl, blanksTo_le s 0 (Nat.zero_le _), by omega, rfl, hBs, hG, hJ _ _ _ none h0 (grown_drewN _ _) (fun r e => by cases e), Nat.le_refl _⟩
  case round =>
    obtain ⟨pre, k, i, rfl, hi, hk, hx, hB, hg, hJs, hsz⟩ := hrel
    have hc0 := blk_cell hB 0
    simp only [List.getElem?_toArray, List.getElem?_cons_zero] at hc0
    by_cases hlt : i < s.size
    · have g1 : decide (i < s.size) = true := decide_eq_true hlt
      have g2 : decide ((i : Int) < (s.size : Int)) = true := decide_eq_true (by omega)
      obtain ⟨t, e, r, ht⟩ : ∃ t e r, nextTok s i = (t, e, r) := ⟨_, _, _, rfl⟩
      gi_wp2_with (refine ⟨trivial, ?_⟩; gi_at_call 62; refine (callsIn_wide.2 (next_calls s i _ (Gd.below hg (by repeat (first | (with_reducible exact Below.refl _ _) | (with_reducible apply pw_below_drewN) | (with_reducible apply below_drew1) | (with_reducible apply below_alloc)))) hs hlt t e r ht)).mono ?_; rintro e' w2 ⟨rfl, hb2⟩; have hb2' : Below wr.heap.size wr (w2.alloc (.cells #[.int .i64 t.f0, .string t.f1, .int .i64 t.f2] 36)) := below_alloc hb2 _; have hB2 := blk_below hB hb2'; have hG2 := Gd.below hg hb2'; have hsz2 := hb2'.size; have hJ2 := hJ _ _ _ none hJs (grown_of_below hb2') (fun r e => by cases e); have hpos := toksAt_pos s k i; obtain ⟨fn, tmps', assign, body, hy, hR⟩ := hY pre (t, r) _ hJ2 (by rw [hx, List.length_append]; omega); dsimp only [tokEnc] at hy)
      refine hR.mono ?_
      rintro e3 W3 (⟨rfl, hJ3, hk3⟩ | ⟨rfl, hx3⟩)
      · by_cases hr : r = 0
        · subst hr
          obtain ⟨q, rfl, hq1, hq2⟩ := nextTok_end s i hlt t e ht
          have hc3 := blk_cell (hk3.2.trans hB2) 0
          simp only [List.getElem?_toArray, List.getElem?_cons_zero] at hc3
          gi_wp2_with (refine ⟨trivial, ?_⟩; gi_at_call 61; refine (callsIn_wide.2 (lexer_blanks.calls _ _ _ _ _ (blanks_some s hs q hq2))).mono ?_; rintro e' w' ⟨rfl, nd, rfl⟩)
          have hge := blanksTo_ge s q
          have hle := blanksTo_le s q hq2
          obtain ⟨k', rfl⟩ : ∃ k', k = k' + 1 := ⟨k - 1, by omega⟩
          go_roundw
          case rel => exact ⟨pre ++ [(t, 0)], k', blanksTo s q, rfl, hle, by omega, by rw [hx, toksAt_ok hlt ht]; simp, hk3.2.trans hB2, Gd.below (Gd.kept hG2 h0n hk3.1) (pw_below_drewN (Below.refl _ _) _), hJ _ _ _ none hJ3 (grown_drewN _ _) (fun r e => by cases e), by have := hk3.1.size; simp; omega⟩
          case measure => simp; omega
        · have hr' : (r != 0) = true := by simpa using hr
          gi_wp2
          refine bodyPost_ret (results_none rfl _ _ _) rfl ?_
          exact ⟨⟨_, rfl⟩, .inl ⟨pre ++ [(t, r)], by rw [hx, toksAt_err hlt ht hr], hJ3⟩⟩
      · gi_wp2
        refine bodyPost_ret (results_none rfl _ _ _) rfl ?_
        refine ⟨⟨_, rfl⟩, .inr ⟨pre ++ [(t, r)], ?_, hx3⟩⟩
        by_cases hr : r = 0
        · subst hr
          obtain ⟨q, rfl, hq1, hq2⟩ := nextTok_end s i hlt t e ht
          exact ⟨toksAt s k (blanksTo s q), by rw [hx, toksAt_ok hlt ht]; simp⟩
        · exact ⟨[], by rw [hx, toksAt_err hlt ht hr]; simp⟩
    · have g1 : decide (i < s.size) = false := decide_eq_false hlt
      have g2 : decide ((i : Int) < (s.size : Int)) = false := decide_eq_false (by omega)
      have hpos := toksAt_pos s k i
      obtain ⟨fn, tmps', assign, body, hy, hR⟩ := hY pre (⟨0, ⟨#[]⟩, s.size⟩, 0) _ hJs (by rw [hx, List.length_append]; omega)
      dsimp only [tokEnc] at hy
      gi_wp2
      refine hR.mono ?_
      rintro e3 W3 (⟨rfl, hJ3, hk3⟩ | ⟨rfl, hx3⟩)
      · gi_wp2
        go_end0
        exact ⟨⟨_, rfl⟩, .inl ⟨_, by rw [hx, toksAt_end hlt], hJ3⟩⟩
      · gi_wp2
        go_end0
        exact ⟨⟨_, rfl⟩, .inr ⟨_, ⟨[], by rw [hx, toksAt_end hlt]; simp⟩, hx3⟩⟩
end Go.Proofs.YtmndicibakaceaaDoor.Pr
